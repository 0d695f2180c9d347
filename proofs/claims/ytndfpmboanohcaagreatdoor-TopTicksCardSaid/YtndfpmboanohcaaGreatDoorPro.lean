/- Contract of (*store.Store).propose. -/
import Derived.Test.YtndfpmboanohcaaGreatDoorTadToPrd
namespace Go.Proofs.YtndfpmboanohcaaGreatDoor
set_option maxRecDepth 100000
open Go.RowKit Go.Maps SkipPure
section
variable {w:World} {I:Ids} {σ:St} {base N:Nat} {cs:List Cg}
theorem ne_nil (k:Int) (w:World):(binOp .neq 42 (.iface 46 (.int .i64 k)) .nilIface).run Tryz.prog w=.ok (.bool true) w:=by
 go_simp
set_option maxHeartbeats 60000000 in
theorem prop_calls (h:SC w I σ base cs) (hI:Inv σ N) (hN:N < 1000) {r q s:Int} {vs:List Vt} {ps:List (Vt×Vt)} {va pa:Option Addr} {vc pc:Nat} (hr:inU r) (hq:inU q)
  (hvs:VsAt w (Out I w) vs va) (hps:PsAt w (Out I w) ps pa) (hvl:vs.length≤16) (hpl:ps.length≤16) (hvb : ∀ v∈vs,VtB v) (hpb : ∀ p∈ps,VtB p.1∧VtB p.2) (hcl:cs.length≤1000) :
  Calls Tryz.prog 36 #[.pointer (some ⟨I.p,0,none⟩),.agg #[.int .u64 r,.int .u64 q,.int .i64 s,.slice va vs.length vc,.slice pa ps.length pc]] w fun e w'=>∃ E,e=.returned (errV E)∧∃ I' σ' cs',Propd σ cs r q s vs ps E σ' cs'∧SC w' I' σ' base cs'∧Stp I I' w w'∧Inv σ' (N+1)∧cs'.length≤60000:=by
 have HH:=lh h;have hpl2:=h.mlt (.inl rfl:Mut I I.p);have hw:=hI.wf;have hN1:=hw.may.l1;have hN2:=hw.may.l2;have hS1:=hw.may.s1;have hS2:=hw.may.s2;have hs0:=hw.s0;have hs1:=hw.s1;have hWF:=hw.tree;have HST:=lh (Stp.refl I w);have HIN:=lh hI;have HVS:=lh hvs;have HPS:=lh hps;have HVB:=lh hvb;have HPB2:=lh hpb;have HWF:=lh hWF;clear hI hvs hps hvb hpb hWF;clear h hw;go_enter Tryz.func36,Tryz.ntmps36
 go_upto_region 1 with (fail)
 refine nmC1 ?_;intro W b0 hz hg;obtain ⟨qb,hq_qb⟩ : ∃ q,q=w.heap.size:=⟨_,rfl⟩;rw [← hq_qb] at b0 hz hpl2 ⊢;have HQ_qb:=lh hq_qb;clear hq_qb;have HB0:=lh b0;clear b0;have HQO:=lh (HH.out.fresh hg (Nat.le_of_eq HQ_qb.out.symm) HB0.out.lt);replace HH:=lh (HH.out.g hg);replace HST:=lh (HST.out.g hg);replace HVS:=lh (HVS.out.g hg);replace HPS:=lh (HPS.out.g hg);clear hg hz;go_upto_region 1 with (fail)
 by_cases h1:σ.slot < s
 ·have HP:Hid (Propd σ cs r q s vs ps 4 σ cs):=lh (.inl ⟨h1,rfl,rfl,rfl⟩);have d2:=HB0.out.at 2;have c5:=HH.out.s5;go_quiet (fail)
  go_wp2;go_ret;exact ⟨4,rfl,I,σ,cs,HP.out,HH.out.g (drewN_grown _ _),HST.out.g (drewN_grown _ _),HIN.out.mono (by omega),by omega⟩
 have d1':=decide_eq_false h1
 go_cut [15] (fun s15 wx=>s15=.bool false∧W.grownBy wx none)
 case first=>
  as_aux_lemma=>
   have d2:=HB0.out.at 2;have c5:=HH.out.s5;go_quiet (fail)
   go_wp2_with fail
   go_meet
   exact ⟨rfl,drewN_grown _ _⟩
 case rest=>
  obtain ⟨rfl,hgg⟩:=hcut;replace HH:=lh (HH.out.g hgg);replace HST:=lh (HST.out.g hgg);replace HVS:=lh (HVS.out.g hgg);replace HPS:=lh (HPS.out.g hgg);replace HB0:=lh (HB0.out.g hgg);replace HQO:=lh (HQO.out.g hgg);clear hgg;have hss:s≤σ.slot:=by omega
  clear h1 d1';go_upto_region 3 with (fail)
  have d0:=HB0.out.at 0;by_cases h2:r=0
  ·have HP:Hid (Propd σ cs r q s vs ps 13 σ cs):=lh (.inr (.inl ⟨hss,h2,rfl,rfl,rfl⟩));have h2':(r == 0)=true:=by simp [h2]
   clear h2;go_wp2_with fail
   go_ret;exact ⟨13,rfl,I,σ,cs,HP.out,HH.out,HST.out,HIN.out.mono (by omega),by omega⟩
  have h2':(r == 0)=false:=by simp [h2]
  have HR0:=lh h2;clear h2;have d3:=HB0.out.at 3;have d4:=HB0.out.at 4;have g1:¬ (16:Int) < (vs.length:Int):=by omega
  have g2':¬ (16:Int) < (ps.length:Int):=by omega
  go_upto_region 7 with (fail)
  clear d0 d3 d4 g1 g2' h2';obtain ⟨G,hG⟩ : ∃ G:Bool,(G=true↔σ.gone r):=by
   by_cases hg:σ.gone r
   ·exact ⟨true,by simp [hg]⟩
   ·exact ⟨false,by simp [hg]⟩
  have hlk : ∀ W2,wc.grownBy W2 none→(Instr.lookup 75 (.map (some I.gm)) (.int .u64 r) false).run Tryz.prog W2=.ok (.bool G) W2:=fun W2 hg2=>((HH.out.gone).g hg2).has hr Tryz.underlying75 G hG;have hlk2:=hlk _ (gdrew (gR _ none));have HGG:=lh hG;clear hlk hG
  go_cut [41] (fun s41 wx=>s41=.bool G∧wc.grownBy wx none)
  case first=>
   as_aux_lemma=>
    have HGX:=lh (gdrew (gR wc none));replace HH:=lh (HH.out.g (gdrew (gR _ none)));replace HB0:=lh (HB0.out.g (gdrew (gR _ none)));have d0:=HB0.out.at 0;have c12:=HH.out.s12
    go_region_held3 (fun w'=>w'.cell? ⟨I.p,12,none⟩=some (.map (some I.gm))∧w'.cell? ⟨qb,0,none⟩=some (.int .u64 r)) (go_keep) (fail)
    all_goals
     go_wp2_with fail
     go_meet
     exact ⟨rfl,HGX.out⟩
  case rest=>
   obtain ⟨rfl,hgg⟩:=hcut;replace HH:=lh (HH.out.g hgg);replace HST:=lh (HST.out.g hgg);replace HVS:=lh (HVS.out.g hgg);replace HPS:=lh (HPS.out.g hgg);replace HB0:=lh (HB0.out.g hgg);replace HQO:=lh (HQO.out.g hgg);clear hgg hlk2;cases G
   case true=>
    have HP:Hid (Propd σ cs r q s vs ps 6 σ cs):=lh (.inr (.inr (.inl ⟨hss,HR0.out,HGG.out.1 rfl,rfl,rfl,rfl⟩)));go_wp2_with fail
    go_ret;exact ⟨6,rfl,I,σ,cs,HP.out,HH.out,HST.out,HIN.out.mono (by omega),by omega⟩
   have hgone:¬ σ.gone r:=fun h=>by have:=HGG.out.2 h;cases this
   have HGONE:=lh hgone;clear hgone;go_upto_region 9 with (fail)
   obtain ⟨TE,hTE⟩ : ∃ TE,TE=taddE σ.F σ.n r q s:=⟨_,rfl⟩;have HTE:=lh hTE;clear hTE;by_cases h3:TE=0
   case neg=>
    as_aux_lemma=>
     have HP:Hid (Propd σ cs r q s vs ps TE σ cs):=lh (.inr (.inr (.inr (.inl ⟨hss,HR0.out,HGONE.out,by rw [← HTE.out];exact h3,HTE.out,rfl,rfl⟩))));have hv:errV TE=.iface 46 (.int .i64 TE):=by unfold errV;rw [if_neg h3]
     have hnn:=ne_nil TE;have h3':taddE σ.F σ.n r q s≠0:=by rw [← HTE.out];exact h3
     have H3:=lh h3';clear h3 h3';replace HH:=lh (HH.out.g (gdrew (gR _ none)));replace HST:=lh (HST.out.g (gdrew (gR _ none)));replace HB0:=lh (HB0.out.g (gdrew (gR _ none)));have d0:=HB0.out.at 0;have d1:=HB0.out.at 1;have d2:=HB0.out.at 2;have c3:=HH.out.s3
     go_region_held3 (fun w'=>w'.cell? ⟨I.p,3,none⟩=some (.pointer (some ⟨I.tp,0,none⟩))∧w'.cell? ⟨qb,0,none⟩=some (.int .u64 r)∧w'.cell? ⟨qb,1,none⟩=some (.int .u64 q)∧w'.cell? ⟨qb,2,none⟩=some (.int .i64 s)) (go_keep)
      (first
        | (go_at_call 50
           refine (tadd_fails HH.out.tree hr hq H3.out).mono ?_;rintro e wg ⟨rfl,hgg⟩;rw [← HTE.out,hv];replace HH:=lh (HH.out.g hgg);replace HST:=lh (HST.out.g hgg);replace HB0:=lh (HB0.out.g hgg);clear hgg d0 d1 d2 c3;have d0:=HB0.out.at 0;have d1:=HB0.out.at 1;have d2:=HB0.out.at 2;have c3:=HH.out.s3))
     clear d0 d1 d2 c3;have HV:=lh hv;clear hv;go_wp2_with fail
     go_ret;exact ⟨TE,by rw [HV.out];rfl,I,σ,cs,HP.out,HH.out,HST.out,HIN.out.mono (by omega),by omega⟩
   have hT0:taddE σ.F σ.n r q s=0:=by rw [← HTE.out];exact h3
   obtain ⟨hFr,qq,qs,qh,hFq,hqs,hsz⟩:σ.F r=none∧∃ qq qs qh,σ.F q=some (qq,qs,qh)∧qs < s∧σ.n < 1024:=by
    unfold taddE at hT0;cases hr1:σ.F r with
    | some y=>rw [hr1] at hT0;simp at hT0
    | none=>
     cases hq1:σ.F q with
     | none=>rw [hr1,hq1] at hT0;simp at hT0
     | some y=>
      obtain ⟨y0,y1,y2⟩:=y;rw [hr1,hq1] at hT0;simp only [Option.isSome_none,Option.isSome_some,Bool.false_eq_true,if_false,not_true,Option.getD_some] at hT0;split at hT0
      ·omega
      ·split at hT0
       ·omega
       ·exact ⟨rfl,y0,y1,y2,rfl,by omega,by omega⟩
   obtain ⟨T,hT⟩ : ∃ T,T=tset σ.F r (q,s,qh+1):=⟨_,rfl⟩;have hTp:T=propT σ r q s:=by rw [hT];unfold propT getT;rw [hFq];rfl
   have hqh:=HWF.out.hgt _ _ hFq;have hqh2:=HIN.out.hh _ _ hFq;have hWT:WellT σ.f T:=by rw [hT];exact HWF.out.set hr hFq hFr hqs (by omega) (by simp only at hqh2;omega)
   simp only at hqh hqh2;have HT0:=lh hT0;have HT:=lh hT;have HTP:=lh hTp;have HFQ:=lh hFq;have HFR:=lh hFr;have HWT:=lh hWT;clear hT hTp hFq hFr hWT;clear h3 HTE
   go_cut [5] (fun s5 wx=>s5=.nilIface∧SC wx I { σ with n:=σ.n+1,f:=σ.f,F:=T } base cs∧Stp I I wc wx)
   case first=>
    as_aux_lemma=>
     have HS2:=lh (Stp.of I (gdrew (gR wc none)));replace HH:=lh (HH.out.g (gdrew (gR _ none)));replace HB0:=lh (HB0.out.g (gdrew (gR _ none)));replace HQO:=lh (HQO.out.g (gdrew (gR _ none)));have d0:=HB0.out.at 0;have d1:=HB0.out.at 1;have d2:=HB0.out.at 2;have c3:=HH.out.s3
     go_region_held3 (fun w'=>w'.cell? ⟨I.p,3,none⟩=some (.pointer (some ⟨I.tp,0,none⟩))∧w'.cell? ⟨qb,0,none⟩=some (.int .u64 r)∧w'.cell? ⟨qb,1,none⟩=some (.int .u64 q)∧w'.cell? ⟨qb,2,none⟩=some (.int .i64 s)) (go_keep)
      (first
        | (go_at_call 50
           refine (tadd_calls HH.out.tree hr hq HFQ.out HFR.out hqs hsz (by omega)).mono ?_;rintro e wg ⟨rfl,htr,hgg⟩;rw [← HT.out] at htr;obtain ⟨h1,h2⟩:=HH.out.treed htr hgg;have hb:=h2.blk HB0.out HQO.out;have hs2:=HS2.out.trans h2;clear HH HB0 HS2 HQO h2 htr hgg d0 d1 d2 c3;have HH:=lh h1;have HB0:=lh hb;have HS2:=lh hs2;clear h1 hb hs2;have d0:=HB0.out.at 0;have d1:=HB0.out.at 1;have d2:=HB0.out.at 2;have c3:_=some (Value.pointer (some ⟨I.tp,0,none⟩)):=HH.out.s3))
     all_goals
      go_wp2_with fail
      go_meet
      exact ⟨rfl,HH.out,HS2.out⟩
   case rest=>
    obtain ⟨rfl,hsc,hst⟩:=hcut;have hb:=hst.blk HB0.out HQO.out;have ho:=hst.out HQO.out;have hv:=HVS.out.stp hst;have hp:=HPS.out.stp hst;have hs:=HST.out.trans hst;clear HH HB0 HQO HVS HPS HST hst;have HH:=lh hsc;have HB0:=lh hb;have HQO:=lh ho;have HVS:=lh hv;have HPS:=lh hp;have HST:=lh hs;clear hsc hb ho hv hp hs;go_upto_region 12 with (fail)
    go_cut [] (fun wx=>∃ ch,SC wx { I with ch:=ch } { σ with n:=σ.n+1,f:=σ.f,F:=T } base (cs++[⟨0,r,q,0,0,false⟩])∧Stp I { I with ch:=ch } wc wx)
    case first=>
     focus
      have HS2:=lh (Stp.of I (gdrew (gR wc none)));replace HH:=lh (HH.out.g (gdrew (gR _ none)));replace HB0:=lh (HB0.out.g (gdrew (gR _ none)));replace HQO:=lh (HQO.out.g (gdrew (gR _ none)));obtain ⟨i0,hi0⟩:=elem_chg;have hcm:some I.p≠I.ch.ownBlock:=fun e=>HH.out.chm (.inl rfl:Mut I I.p) e.symm;have hN0:0 < σ.bs.length:=by omega
      have HI:=lh hi0;have HCM:=lh hcm;clear hi0 hcm;have TK:=lh fun w (hSw:(fun wr=>SC wr I { σ with n:=σ.n+1,f:=σ.f,F:=T } base cs∧Blk wr qb #[.int .u64 r,.int .u64 q,.int .i64 s,.slice va vs.length vc,.slice pa ps.length pc] 59) w)=>And.intro (show w.cell? ⟨I.p,13,none⟩=some I.ch from hSw.1.s13) <| And.intro (show w.cell? ⟨qb,0,none⟩=some (.int .u64 r) from hSw.2.at 0) <| show w.cell? ⟨qb,1,none⟩=some (.int .u64 q) from hSw.2.at 1
      refine wp_region_late (fun wr=>SC wr I { σ with n:=σ.n+1,f:=σ.f,F:=T } base cs∧Blk wr qb #[.int .u64 r,.int .u64 q,.int .i64 s,.slice va vs.length vc,.slice pa ps.length pc] 59) [11,14] (by as_aux_lemma=>kernel_rfl) ?_;have hS:(fun wr=>SC wr I { σ with n:=σ.n+1,f:=σ.f,F:=T } base cs∧Blk wr qb #[.int .u64 r,.int .u64 q,.int .i64 s,.slice va vs.length vc,.slice pa ps.length pc] 59) wc.drew:=⟨HH.out,HB0.out⟩;generalize wc.drew=wd at HH HB0 HQO HS2 hS ⊢;clear HH HB0 HQO;refine pM 0 ?_;simp only [zz];refine pM 1 ?_;simp only [zz];refine pM 2 ?_;simp only [zz];refine pM 3 ?_;simp only [zz];refine pM 5 ?_;simp only [zz];refine pM 7 ?_;simp only [zz];refine tM 4 ?_;simp only [zz];refine aM [6,8] (cM 6 (fun K hK=>?_) (cM 8 (fun K hK=>?_) nM))
      ·skip;have e0:wd.cell? ⟨qb,0,none⟩=some (.int .u64 r):=hS.2.at 0;go_simp;have hS2:=hS;refine hK.out _ _ (.inl (fun _=>hS2)) ?_;replace hS:=hS2;clear hK K hS2;try simp only [zz]
       refine rM 8 fun K hK=>?_;have e1:wd.cell? ⟨qb,1,none⟩=some (.int .u64 q):=hS.2.at 1;go_simp;have hS2:=hS;refine hK.out _ _ (.inl (fun _=>hS2)) ?_;replace hS:=hS2;clear hK K hS2;try simp only [zz]
       refine pM 9 ?_;simp only [zz];refine rM 10 fun K hK=>?_;go_simp;refine nmA1 ?_;intro wm hmb hgg;generalize wd.heap.size=gm at hmb ⊢;have hS2:(fun wr=>_) wm:=And.intro (hS.1.g hgg) (hS.2.g hgg);replace HS2:=lh (HS2.out.trans (Stp.of _ hgg));have HMB:=lh hmb;clear hmb hgg;refine hK.out _ _ (.inl (fun _=>hS2)) ?_;replace hS:=hS2;clear hK K hS2;try simp only [zz]
       refine rM 11 fun K hK=>?_;have hbs:=hS.1.bl;refine wp_append_lies _ _ _ 76 (by rfl) base 178 i0 (.agg #[.int .i64 0,.int .u64 0,.int .u64 0,.int .i64 0,.int .u64 0,.bool false]) 6 48 Tryz.underlying76 HI.out.1 HI.out.2.1 HI.out.2.2.1 HI.out.2.2.2 rfl (by decide) I.ch cs.length (cgRow cs) (by rfl) hS.1.row ⟨gm,0,none⟩ 1 1 [.int .i64 0,.int .u64 r,.int .u64 q,.int .i64 0,.int .u64 0,.bool false] (by rfl) (by rfl) (World.news_of_block HMB.out) (by simp [Value.oneCell']) (by omega) (by unfold maxLen;omega) (by omega) hbs _ rfl ?_;intro g5 c5 w5 h5 hg5 hat5 hlt5;have d13:w5.cell? ⟨I.p,13,none⟩=some I.ch:=hg5.cell hS.1.s13 HCM.out;have f13:w5.frozen? ⟨I.p,13,none⟩=false:=(hS.1.blk.kept hg5 (fun e=>HCM.out e.symm)).fr 13;have hat6:I.ch.ownBlock=some g5∨wm.heap.size≤g5:=hat5.imp id (fun e=>by omega);have HPU:=lh (hS.1.push hN0 (x:=⟨0,r,q,0,0,false⟩) hg5 hat6 hlt5 h5);clear h5 hg5 hat5 hat6 hlt5 hbs;refine hK.out _ _ (.inr (by decide)) ?_;clear hK K;try simp only [zz]
       refine pM 12 ?_;simp only [zz];refine pM 13 ?_;simp only [zz];refine rM 14 fun K hK=>?_;refine step_store_slot d13 f13 rfl ⟨_,_,rfl,rfl,rfl⟩ rfl rfl (by as_aux_lemma=>kernel_rfl) ?_;refine hK.out _ _ (.inr (by decide)) ?_;clear hK K;try simp only [zz]
       refine dM ?_ _;have HFI:=lh (And.intro HPU.out.1 (HS2.out.trans HPU.out.2));clear HPU d13 f13 hS HS2;go_wp2_with fail
       go_meet
       exact ⟨_,HFI.out.1,HFI.out.2⟩
      ·skip;have e1:wd.cell? ⟨qb,1,none⟩=some (.int .u64 q):=hS.2.at 1;go_simp;have hS2:=hS;refine hK.out _ _ (.inl (fun _=>hS2)) ?_;replace hS:=hS2;clear hK K hS2;try simp only [zz]
       refine rM 6 fun K hK=>?_;have e0:wd.cell? ⟨qb,0,none⟩=some (.int .u64 r):=hS.2.at 0;go_simp;have hS2:=hS;refine hK.out _ _ (.inl (fun _=>hS2)) ?_;replace hS:=hS2;clear hK K hS2;try simp only [zz]
       refine pM 9 ?_;simp only [zz];refine rM 10 fun K hK=>?_;go_simp;refine nmA1 ?_;intro wm hmb hgg;generalize wd.heap.size=gm at hmb ⊢;have hS2:(fun wr=>_) wm:=And.intro (hS.1.g hgg) (hS.2.g hgg);replace HS2:=lh (HS2.out.trans (Stp.of _ hgg));have HMB:=lh hmb;clear hmb hgg;refine hK.out _ _ (.inl (fun _=>hS2)) ?_;replace hS:=hS2;clear hK K hS2;try simp only [zz]
       refine rM 11 fun K hK=>?_;have hbs:=hS.1.bl;refine wp_append_lies _ _ _ 76 (by rfl) base 178 i0 (.agg #[.int .i64 0,.int .u64 0,.int .u64 0,.int .i64 0,.int .u64 0,.bool false]) 6 48 Tryz.underlying76 HI.out.1 HI.out.2.1 HI.out.2.2.1 HI.out.2.2.2 rfl (by decide) I.ch cs.length (cgRow cs) (by rfl) hS.1.row ⟨gm,0,none⟩ 1 1 [.int .i64 0,.int .u64 r,.int .u64 q,.int .i64 0,.int .u64 0,.bool false] (by rfl) (by rfl) (World.news_of_block HMB.out) (by simp [Value.oneCell']) (by omega) (by unfold maxLen;omega) (by omega) hbs _ rfl ?_;intro g5 c5 w5 h5 hg5 hat5 hlt5;have d13:w5.cell? ⟨I.p,13,none⟩=some I.ch:=hg5.cell hS.1.s13 HCM.out;have f13:w5.frozen? ⟨I.p,13,none⟩=false:=(hS.1.blk.kept hg5 (fun e=>HCM.out e.symm)).fr 13;have hat6:I.ch.ownBlock=some g5∨wm.heap.size≤g5:=hat5.imp id (fun e=>by omega);have HPU:=lh (hS.1.push hN0 (x:=⟨0,r,q,0,0,false⟩) hg5 hat6 hlt5 h5);clear h5 hg5 hat5 hat6 hlt5 hbs;refine hK.out _ _ (.inr (by decide)) ?_;clear hK K;try simp only [zz]
       refine pM 12 ?_;simp only [zz];refine pM 13 ?_;simp only [zz];refine rM 14 fun K hK=>?_;refine step_store_slot d13 f13 rfl ⟨_,_,rfl,rfl,rfl⟩ rfl rfl (by as_aux_lemma=>kernel_rfl) ?_;refine hK.out _ _ (.inr (by decide)) ?_;clear hK K;try simp only [zz]
       refine dM ?_ _;have HFI:=lh (And.intro HPU.out.1 (HS2.out.trans HPU.out.2));clear HPU d13 f13 hS HS2;go_wp2_with fail
       go_meet
       exact ⟨_,HFI.out.1,HFI.out.2⟩
    case rest=>
     obtain ⟨ch1,hsc,hst⟩:=hcut;have hb:=hst.blk HB0.out HQO.out;have ho:=hst.out HQO.out;have hv:=HVS.out.stp hst;have hp:=HPS.out.stp hst;have hs:=HST.out.trans hst;clear HH HB0 HQO HVS HPS HST hst;obtain ⟨cs1,hcs1⟩ : ∃ cs1,cs1=cs++[⟨0,r,q,0,0,false⟩]:=⟨_,rfl⟩;have hcl1:cs1.length≤1001:=by rw [hcs1];simp;omega
     rw [← hcs1] at hsc;have HH:=lh hsc;have HB0:=lh hb;have HQO:=lh ho;have HVS:=lh hv;have HPS:=lh hp;have HST:=lh hs;have HCS1:=lh hcs1;clear hsc hb ho hv hp hs hcs1;go_upto_region 13 with (fail)
     have d0:=HB0.out.at 0;go_wp2_with fail
     refine (chain_calls2 HH.out.s3 HH.out.tree r).mono ?_;rintro e w7 ⟨k1,k2,rfl,hch,hk1,hk2,hgg⟩;clear d0;have hf1:=HH.out.fresh hgg hk1 hch.b1.lt;have hf2:=HH.out.fresh hgg hk2 hch.b2.lt;replace HH:=lh (HH.out.g hgg);replace HST:=lh (HST.out.g hgg);replace HVS:=lh (HVS.out.g hgg);replace HPS:=lh (HPS.out.g hgg);replace HB0:=lh (HB0.out.g hgg);replace HQO:=lh (HQO.out.g hgg);have HK1:=lh hch.b1;have HK2:=lh hch.b2;have HF1:=lh hf1;have HF2:=lh hf2;clear hf1 hf2;clear hgg hch hk1 hk2;go_upto_region 14 with (fail)
     obtain ⟨x,hL⟩:=Option.isSome_iff_exists.1 (show (σ.L q).isSome=true by rw [HIN.out.wf.led q,HFQ.out];rfl);have hxb:=HIN.out.wf.ledbd q x hL;have hmay:=HIN.out.wf.may;obtain ⟨X0,hX0⟩ : ∃ X0,X0=advF σ.bs σ.S T σ.f r x s:=⟨_,rfl⟩;have HL:=lh hL;have HXB:=lh hxb;have HMAY:=lh hmay;have HX0:=lh hX0;clear hL hxb hmay hX0
     go_cut [7] (fun s7 wx=>∃ q7 gA dA gB dB,s7=.pointer (some ⟨q7,0,none⟩)∧Blk wx q7 (LedC X0 (.slice (some ⟨gA,0,none⟩) σ.bs.length dA) (.slice (some ⟨gB,0,none⟩) σ.bs.length dB)) 133 ∧
       LedAt wx (fun i=>(Out { I with ch:=ch1 } wx i∧¬ I.ex i)∧i≠q7) σ.bs.length X0 (ledV X0 (.slice (some ⟨gA,0,none⟩) σ.bs.length dA) (.slice (some ⟨gB,0,none⟩) σ.bs.length dB))∧LedBd X0∧w7.heap.size≤q7∧w7.grownBy wx none)
     case first=>
      as_aux_lemma=>
       have HGD:=lh (gdrew (gR w7 none));have hws:w7.drew.heap.size=w7.heap.size:=rfl;have HWS:=lh hws;clear hws;replace HH:=lh (HH.out.g (gdrew (gR _ none)));replace HB0:=lh (HB0.out.g (gdrew (gR _ none)));replace HK1:=lh (HK1.out.g (gdrew (gR _ none)));replace HK2:=lh (HK2.out.g (gdrew (gR _ none)));obtain ⟨nn,js,GG,hm1,_,_,_,hm5⟩:=HH.out.led;obtain ⟨v,hv1,hv2⟩:=(hm5 q).2 x HL.out;have hv3:=hv2.here (by show 0 < σ.bs.length;omega);have hml : ∀ i,Far (Ids.wi { I with ch:=ch1 }) i→i < w7.drew.heap.size:=fun i hi=>HH.out.st.far hi;obtain ⟨NN,hNN⟩ : ∃ NN,NN=w7.drew.heap.size:=⟨_,rfl⟩;rw [← hNN] at hv3 hml;have HV1:=lh hv1;have HML:=lh hml;have HNN:=lh hNN;clear hv1 hml hNN;clear hm5 hv2;have TK:=lh fun w (hSw:(fun wr=>SC wr { I with ch:=ch1 } { σ with n:=σ.n+1,f:=σ.f,F:=T } base cs1∧Blk wr qb #[.int .u64 r,.int .u64 q,.int .i64 s,.slice va vs.length vc,.slice pa ps.length pc] 59∧RawMap Tryz.prog 27 wr I.lm nn GG∧LedAt wr (fun i=>¬ Far (Ids.wi { I with ch:=ch1 }) i∧i < NN) σ.bs.length x v∧Blk wr k1 #[.pointer (some ⟨I.p,0,none⟩)] 52∧Blk wr k2 #[.int .u64 r] 27) w)=>And.intro (show w.cell? ⟨qb,1,none⟩=some (.int .u64 q) from hSw.2.1.at 1) <| And.intro (show w.cell? ⟨qb,2,none⟩=some (.int .i64 s) from hSw.2.1.at 2) <| And.intro (show w.cell? ⟨I.p,0,none⟩=some (.slice I.ba σ.bs.length I.bc) from hSw.1.s0) <| And.intro (show w.cell? ⟨I.p,1,none⟩=some (.int .i64 σ.S) from hSw.1.s1) <| And.intro (show w.cell? ⟨I.p,2,none⟩=some (.int .i64 σ.B) from hSw.1.s2) <| And.intro (show w.cell? ⟨I.p,11,none⟩=some (.map (some I.lm)) from hSw.1.s11) <| hSw.2.2.1.look (mt:=74) Tryz.underlying27 Tryz.underlying74 (zero133 _) hq
       refine wp_region_last (fun wr=>SC wr { I with ch:=ch1 } { σ with n:=σ.n+1,f:=σ.f,F:=T } base cs1∧Blk wr qb #[.int .u64 r,.int .u64 q,.int .i64 s,.slice va vs.length vc,.slice pa ps.length pc] 59∧RawMap Tryz.prog 27 wr I.lm nn GG∧LedAt wr (fun i=>¬ Far (Ids.wi { I with ch:=ch1 }) i∧i < NN) σ.bs.length x v∧Blk wr k1 #[.pointer (some ⟨I.p,0,none⟩)] 52∧Blk wr k2 #[.int .u64 r] 27) 16 (by as_aux_lemma=>kernel_rfl) (⟨HH.out,HB0.out,hm1,hv3,HK1.out,HK2.out⟩) ?_;intro hS;clear hm1 hv3;generalize w7.drew=wd at HH HB0 HK1 HK2 HNN HGD HWS hS ⊢;refine wL 0 ?_ ?_ hS ?_;rotate_left;· intro w hSw;obtain ⟨d1,d2,c0,c1,c2,c11,hlk⟩:=TK.out w hSw;rw [HV1.out] at hlk;go_simp;try with_reducible rfl
       simp only [zz];refine wL 1 ?_ ?_ hS ?_;rotate_left;· intro w hSw;obtain ⟨d1,d2,c0,c1,c2,c11,hlk⟩:=TK.out w hSw;rw [HV1.out] at hlk;go_simp;try with_reducible rfl
       simp only [zz];refine wL 2 ?_ ?_ hS ?_;rotate_left;· intro w hSw;obtain ⟨d1,d2,c0,c1,c2,c11,hlk⟩:=TK.out w hSw;rw [HV1.out] at hlk;go_simp;try with_reducible rfl
       simp only [zz];refine wL 3 ?_ ?_ hS ?_;rotate_left;· intro w hSw;obtain ⟨d1,d2,c0,c1,c2,c11,hlk⟩:=TK.out w hSw;rw [HV1.out] at hlk;go_simp;try with_reducible rfl
       simp only [zz];refine wL 4 ?_ ?_ hS ?_;rotate_left;· intro w hSw;obtain ⟨d1,d2,c0,c1,c2,c11,hlk⟩:=TK.out w hSw;rw [HV1.out] at hlk;go_simp;try with_reducible rfl
       simp only [zz];refine wL 5 ?_ ?_ hS ?_;rotate_left;· intro w hSw;obtain ⟨d1,d2,c0,c1,c2,c11,hlk⟩:=TK.out w hSw;rw [HV1.out] at hlk;go_simp;try with_reducible rfl
       simp only [zz];refine wL 6 ?_ ?_ hS ?_;rotate_left;· intro w hSw;obtain ⟨d1,d2,c0,c1,c2,c11,hlk⟩:=TK.out w hSw;rw [HV1.out] at hlk;go_simp;try with_reducible rfl
       simp only [zz];refine wL 7 ?_ ?_ hS ?_;rotate_left;· intro w hSw;obtain ⟨d1,d2,c0,c1,c2,c11,hlk⟩:=TK.out w hSw;rw [HV1.out] at hlk;go_simp;try with_reducible rfl
       simp only [zz];refine wL 8 ?_ ?_ hS ?_;rotate_left;· intro w hSw;obtain ⟨d1,d2,c0,c1,c2,c11,hlk⟩:=TK.out w hSw;rw [HV1.out] at hlk;go_simp;try with_reducible rfl
       simp only [zz];refine wL 9 ?_ ?_ hS ?_;rotate_left;· intro w hSw;obtain ⟨d1,d2,c0,c1,c2,c11,hlk⟩:=TK.out w hSw;rw [HV1.out] at hlk;go_simp;try with_reducible rfl
       simp only [zz];refine wL 10 ?_ ?_ hS ?_;rotate_left;· intro w hSw;obtain ⟨d1,d2,c0,c1,c2,c11,hlk⟩:=TK.out w hSw;rw [HV1.out] at hlk;go_simp;try with_reducible rfl
       simp only [zz];refine wL 11 ?_ ?_ hS ?_;rotate_left;· intro w hSw;obtain ⟨d1,d2,c0,c1,c2,c11,hlk⟩:=TK.out w hSw;rw [HV1.out] at hlk;go_simp;try with_reducible rfl
       simp only [zz];refine wL 12 ?_ ?_ hS ?_;rotate_left;· intro w hSw;obtain ⟨d1,d2,c0,c1,c2,c11,hlk⟩:=TK.out w hSw;rw [HV1.out] at hlk;go_simp;try with_reducible rfl
       simp only [zz];refine wL 13 ?_ ?_ hS ?_;rotate_left;· intro w hSw;obtain ⟨d1,d2,c0,c1,c2,c11,hlk⟩:=TK.out w hSw;rw [HV1.out] at hlk;go_simp;try with_reducible rfl
       simp only [zz];refine aL [14,15] (cL 14 (fun K hK=>?_) (cL 15 (fun K hK=>?_) nL))
       ·skip;go_simp;refine (adv_calls (p:=I.p) (tp:=I.tp) (tb:=I.tb) ⟨hS.2.2.2.2.1,hS.2.2.2.2.2,hS.1.s3,hS.1.tree⟩ HWT.out hr hS.1.bal rfl HMAY.out hS.2.2.2.1 HXB.out (by omega)).mono ?_;rintro e wg ⟨v2,rfl,hled2,hbd2,hgg⟩;rw [← HX0.out] at hled2 hbd2;have hcs:=HGD.out.size;have hnn2:NN≤wd.heap.size:=Nat.le_of_eq HNN.out;have hled3:=hled2.here (by show 0 < σ.bs.length;omega);obtain ⟨gA,dA,gB,dB,hv2e,_,_,_,_⟩:=id hled3;subst hv2e;have hS2:(fun wr=>_) wg:=And.intro (hS.1.g hgg) (And.intro (hS.2.1.g hgg) (And.intro (hS.2.2.1.kept hgg (by simp)) (And.intro (LedAt.g hS.2.2.2.1 hgg) (And.intro (hS.2.2.2.2.1.g hgg) (hS.2.2.2.2.2.g hgg)))));first
         | have HLED3:=lh (hled3.imp (ok':=fun i=>¬ Far (Ids.wi { I with ch:=ch1 }) i∧i≠gm) (fun i hi=>by have h1:=HGM.out.1;have h2:=HGM.out.2;rcases hi.1 with h | h;exact ⟨h.1,by omega⟩;exact ⟨fun hm=>by have:=HML.out i hm;have h5:=hS.1.bl;omega,by omega⟩))
         | have HLED2:=lh (hled3.imp (ok':=fun i=>¬ Far (Ids.wi { I with ch:=ch1 }) i∧i < wg.heap.size) (fun i hi=>by rcases hi.1 with h | h;exact ⟨h.1,hi.2⟩;exact ⟨fun hm=>by have:=HML.out i hm;omega,hi.2⟩))
        try (replace HQ7:=lh (HQ7.out.g hgg))
        try (replace HGD:=lh (g2 HGD.out hgg))
        have HBD2:=lh hbd2;clear hgg hled2 hled3 hbd2 hcs hnn2;rw [ledV_eq];refine hK.out _ _ (.inl hS2) ?_;replace hS:=hS2;clear hK K hS2;refine rL 15 fun K hK=>?_;go_simp;refine nmA1 ?_;intro wm hmb hgg;first
         | (generalize hgm:wg.heap.size=gm at hmb ⊢;have HLED3:=lh (LedAt.imp (ok':=fun i=>¬ Far (Ids.wi { I with ch:=ch1 }) i∧i≠gm) (LedAt.g HLED2.out hgg) (fun i hi=>⟨hi.1,by have:=hi.2;omega⟩)))
         | generalize hgm:wd.heap.size=gm at hmb ⊢
        have hcs:w7.heap.size≤gm:=by rw [← hgm];exact HGD.out.size
        have hcs2:NN≤gm:=by
         have h1:=HNN.out;rw [HWS.out.symm] at hcs;first | (rw [h1];exact hcs) | omega
        have hS2:(fun wr=>_) wm:=And.intro (hS.1.g hgg) (And.intro (hS.2.1.g hgg) (And.intro (hS.2.2.1.kept hgg (by simp)) (And.intro (LedAt.g hS.2.2.2.1 hgg) (And.intro (hS.2.2.2.2.1.g hgg) (hS.2.2.2.2.2.g hgg)))));have hgl:=hmb.lt;have HQ7:=lh hmb;have HGM:=lh (And.intro hcs2 hgl);have HG7:=lh hcs;try (replace HGD:=lh (g2 HGD.out hgg))
        clear hgg hmb hgm hcs hcs2 hgl;refine hK.out _ _ (.inl hS2) ?_;replace hS:=hS2;clear hK K hS2;try simp only [zz]
        refine rL 16 fun K hK=>?_;refine step_store_blk HQ7.out rfl (LedC X0 (.slice (some ⟨gA,0,none⟩) σ.bs.length dA) (.slice (some ⟨gB,0,none⟩) σ.bs.length dB)) ⟨_,_,rfl,rfl,rfl⟩ (by as_aux_lemma=>kernel_rfl) rfl (by simp [LedC,Value.oneCell']) ?_;intro w16 t1 t3;refine hK.out _ _ (.inr rfl) ?_;clear hK K;try simp only [zz]
        refine dL ?_ _;have hcs:=HG7.out;have hfin:=gnew HGD.out t3 hcs;have hled4:=HLED3.out.chg (Chg.one (S:=fun i=>i=gm) t3 rfl) (fun i hi=>hi.2);have hled5:=(hled4.here (by show 0 < σ.bs.length;omega)).imp (ok':=fun i=>(Out { I with ch:=ch1 } w16 i∧¬ I.ex i)∧i≠gm) (fun i hi=>⟨⟨⟨hi.2,fun hm=>hi.1.1 (.inl hm),fun hc=>hi.1.1 (.inr (.inr hc))⟩,fun he=>hi.1.1 (.inr (.inl he))⟩,hi.1.2⟩);have HR7:=lh (And.intro t1 (And.intro hfin hled5));clear t1 t3 hfin hled4 hled5;go_wp2_with fail
        go_meet
        exact ⟨gm,gA,dA,gB,dB,rfl,HR7.out.1,HR7.out.2.2,HBD2.out,hcs,HR7.out.2.1⟩
       ·skip;go_simp;refine nmA1 ?_;intro wm hmb hgg;first
         | (generalize hgm:wg.heap.size=gm at hmb ⊢;have HLED3:=lh (LedAt.imp (ok':=fun i=>¬ Far (Ids.wi { I with ch:=ch1 }) i∧i≠gm) (LedAt.g HLED2.out hgg) (fun i hi=>⟨hi.1,by have:=hi.2;omega⟩)))
         | generalize hgm:wd.heap.size=gm at hmb ⊢
        have hcs:w7.heap.size≤gm:=by rw [← hgm];exact HGD.out.size
        have hcs2:NN≤gm:=by
         have h1:=HNN.out;rw [HWS.out.symm] at hcs;first | (rw [h1];exact hcs) | omega
        have hS2:(fun wr=>_) wm:=And.intro (hS.1.g hgg) (And.intro (hS.2.1.g hgg) (And.intro (hS.2.2.1.kept hgg (by simp)) (And.intro (LedAt.g hS.2.2.2.1 hgg) (And.intro (hS.2.2.2.2.1.g hgg) (hS.2.2.2.2.2.g hgg)))));have hgl:=hmb.lt;have HQ7:=lh hmb;have HGM:=lh (And.intro hcs2 hgl);have HG7:=lh hcs;try (replace HGD:=lh (g2 HGD.out hgg))
        clear hgg hmb hgm hcs hcs2 hgl;refine hK.out _ _ (.inl hS2) ?_;replace hS:=hS2;clear hK K hS2;try simp only [zz]
        refine rL 14 fun K hK=>?_;go_simp;refine (adv_calls (p:=I.p) (tp:=I.tp) (tb:=I.tb) ⟨hS.2.2.2.2.1,hS.2.2.2.2.2,hS.1.s3,hS.1.tree⟩ HWT.out hr hS.1.bal rfl HMAY.out hS.2.2.2.1 HXB.out (by omega)).mono ?_;rintro e wg ⟨v2,rfl,hled2,hbd2,hgg⟩;rw [← HX0.out] at hled2 hbd2;have hcs:=HGD.out.size;have hnn2:NN≤wd.heap.size:=Nat.le_of_eq HNN.out;have hled3:=hled2.here (by show 0 < σ.bs.length;omega);obtain ⟨gA,dA,gB,dB,hv2e,_,_,_,_⟩:=id hled3;subst hv2e;have hS2:(fun wr=>_) wg:=And.intro (hS.1.g hgg) (And.intro (hS.2.1.g hgg) (And.intro (hS.2.2.1.kept hgg (by simp)) (And.intro (LedAt.g hS.2.2.2.1 hgg) (And.intro (hS.2.2.2.2.1.g hgg) (hS.2.2.2.2.2.g hgg)))));first
         | have HLED3:=lh (hled3.imp (ok':=fun i=>¬ Far (Ids.wi { I with ch:=ch1 }) i∧i≠gm) (fun i hi=>by have h1:=HGM.out.1;have h2:=HGM.out.2;rcases hi.1 with h | h;exact ⟨h.1,by omega⟩;exact ⟨fun hm=>by have:=HML.out i hm;have h5:=hS.1.bl;omega,by omega⟩))
         | have HLED2:=lh (hled3.imp (ok':=fun i=>¬ Far (Ids.wi { I with ch:=ch1 }) i∧i < wg.heap.size) (fun i hi=>by rcases hi.1 with h | h;exact ⟨h.1,hi.2⟩;exact ⟨fun hm=>by have:=HML.out i hm;omega,hi.2⟩))
        try (replace HQ7:=lh (HQ7.out.g hgg))
        try (replace HGD:=lh (g2 HGD.out hgg))
        have HBD2:=lh hbd2;clear hgg hled2 hled3 hbd2 hcs hnn2;rw [ledV_eq];refine hK.out _ _ (.inl hS2) ?_;replace hS:=hS2;clear hK K hS2;refine rL 16 fun K hK=>?_;refine step_store_blk HQ7.out rfl (LedC X0 (.slice (some ⟨gA,0,none⟩) σ.bs.length dA) (.slice (some ⟨gB,0,none⟩) σ.bs.length dB)) ⟨_,_,rfl,rfl,rfl⟩ (by as_aux_lemma=>kernel_rfl) rfl (by simp [LedC,Value.oneCell']) ?_;intro w16 t1 t3;refine hK.out _ _ (.inr rfl) ?_;clear hK K;try simp only [zz]
        refine dL ?_ _;have hcs:=HG7.out;have hfin:=gnew HGD.out t3 hcs;have hled4:=HLED3.out.chg (Chg.one (S:=fun i=>i=gm) t3 rfl) (fun i hi=>hi.2);have hled5:=(hled4.here (by show 0 < σ.bs.length;omega)).imp (ok':=fun i=>(Out { I with ch:=ch1 } w16 i∧¬ I.ex i)∧i≠gm) (fun i hi=>⟨⟨⟨hi.2,fun hm=>hi.1.1 (.inl hm),fun hc=>hi.1.1 (.inr (.inr hc))⟩,fun he=>hi.1.1 (.inr (.inl he))⟩,hi.1.2⟩);have HR7:=lh (And.intro t1 (And.intro hfin hled5));clear t1 t3 hfin hled4 hled5;go_wp2_with fail
        go_meet
        exact ⟨gm,gA,dA,gB,dB,rfl,HR7.out.1,HR7.out.2.2,HBD2.out,hcs,HR7.out.2.1⟩
     case rest=>
      obtain ⟨q7,gA,dA,gB,dB,rfl,hb7,hled,hbd,hq7,hgg⟩:=hcut;have hqb7:qb < w7.heap.size:=HB0.out.lt;have d3:=(HB0.out.g hgg).at 3;have HB7:=lh hb7;have HLED:=lh hled;have HBD:=lh hbd;have HG7:=lh hgg;clear hb7 hled hbd hgg;go_upto_region 15 with (fail)
      go_wp2_with fail
      clear d3
      go_loopw [100] (fun v100 wr=>∃ (j:Nat),v100=.int .i64 (j:Int)∧j≤vs.length∧∃ X gA dA gB dB,X=(vs.take j).foldl (cntF σ.bs.length σ.S T σ.f r) X0∧Blk wr q7 (LedC X (.slice (some ⟨gA,0,none⟩) σ.bs.length dA) (.slice (some ⟨gB,0,none⟩) σ.bs.length dB)) 133 ∧
        LedAt wr (fun i=>(Out { I with ch:=ch1 } wr i∧¬ I.ex i)∧i≠q7) σ.bs.length X (ledV X (.slice (some ⟨gA,0,none⟩) σ.bs.length dA) (.slice (some ⟨gB,0,none⟩) σ.bs.length dB))∧LedBd X∧w7.grownBy wr none) (fun v100 _=>vs.length - (intOf v100).toNat)
      case atStart=>exact ⟨0,rfl,by omega,X0,gA,dA,gB,dB,rfl,HB7.out,HLED.out,HBD.out,HG7.out⟩
      case round=>
       obtain ⟨j,rfl,hj,X,gA,dA,gB,dB,hX,hb7,hled,hbd,hgr⟩:=hrel;clear HB7 HLED HBD HG7;by_cases hlt:j < vs.length
       ·rcases HVS.out.g hgr with hv | ⟨g,hv1,hv2,hv3⟩
        ·rw [hv] at hlt;simp at hlt
        obtain ⟨aw,ac,v0,v1,v2,v3,v4,v5,v6,v7,v8⟩:=hv3 j hlt;have hvB:=HVB.out (vs.getD j vt0) (by rw [List.getD_eq_getElem?_getD,List.getElem?_eq_getElem hlt];simp);have hnx:(vs.take (j+1)).foldl (cntF σ.bs.length σ.S T σ.f r) X0=cntF σ.bs.length σ.S T σ.f r X (vs.getD j vt0):=by
         rw [take_succ' vs j hlt vt0,List.foldl_append,← hX];rfl
        obtain ⟨u,hu⟩ : ∃ u,u=vs.getD j vt0:=⟨_,rfl⟩;rw [← hu] at v0 v1 v2 v3 v4 v5 v6 v7 hvB hnx;have hul:=hvB.who;have hus:=hvB.sl;have hwo : ∀ ad,aw=some ad→Out { I with ch:=ch1 } wr ad.block:=fun ad e=>(v8 ad e).1;clear hv2 hv3 v8 hu hX hvB;obtain ⟨u0,u1,u2,u3,u4,u5,us⟩:=u;simp only at v0 v1 v2 v3 v4 v5 v6 v7 hul hus;subst hv1;have HNX:=lh hnx;have HB7:=lh hb7;have HLED:=lh hled;have HBD:=lh hbd;have HG7:=lh hgr;have HU:=lh v7;have HWO:=lh hwo;clear hnx hb7 hled hbd hgr v7 hwo;have hq7w:q7 < wr.heap.size:=HB7.out.lt;go_upto_region 18 with (fail)
        refine nmC1 ?_;intro W8 b8 hz8 hg8;obtain ⟨q9,hq_q9⟩ : ∃ q,q=wr.heap.size:=⟨_,rfl⟩;rw [← hq_q9] at b8 hz8 hq7w ⊢;have HQ_q9:=lh hq_q9;clear hq_q9;have HB9:=lh b8;clear v0 v1 v2 v3 v4 v5 v6 b8;replace HB7:=lh (HB7.out.g hg8);replace HU:=lh (HU.out.g hg8);replace HLED:=lh ((LedAt.g HLED.out hg8).imp (ok':=fun i=>(Out { I with ch:=ch1 } W8 i∧¬ I.ex i)∧i≠q7) (fun i hi=>⟨⟨hi.1.1.g hg8,hi.1.2⟩,hi.2⟩));have HGR:=lh (g2 HG7.out hg8);clear hg8 hz8 HG7;have hwu:=hul;obtain ⟨X2,hX2⟩ : ∃ X2,X2=cntF σ.bs.length σ.S T σ.f r X ⟨u0,u1,u2,u3,u4,u5,us⟩:=⟨_,rfl⟩;have hbd2:LedBd X2:=by rw [hX2];exact cntF_bd HBD.out
        have HX2:=lh hX2;have HBD2:=lh hbd2;clear hX2 hbd2;have HLE:=lh (HLED.out.imp (ok':=(fun i=>((¬ Mut { I with ch:=ch1 } i∧ch1.ownBlock≠some i)∧¬ I.ex i)∧i≠q7)) (fun i hi=>⟨⟨⟨hi.1.1.m,hi.1.1.c⟩,hi.1.2⟩,hi.2⟩));clear HLED;have hgw:=HGR.out;have HHx:=lh ((HH.out.g hgw).g (gdrew (gR W8 none)));have HK1x:=lh ((HK1.out.g hgw).g (gdrew (gR W8 none)));have HK2x:=lh ((HK2.out.g hgw).g (gdrew (gR W8 none)));clear hgw;have HGX:=lh (g2 HGR.out (gdrew (gR W8 none)));have hq78:q7 < q9:=hq7w;clear HGR;replace HB7:=lh (HB7.out.g (gdrew (gR _ none)));replace HB9:=lh (HB9.out.g (gdrew (gR _ none)));replace HU:=lh (HU.out.g (gdrew (gR _ none)));replace HLE:=lh (HLE.out.g (gdrew (gR _ none)));have TK:=lh fun w (hSw:(fun wr=>SC wr { I with ch:=ch1 } { σ with n:=σ.n+1,f:=σ.f,F:=T } base cs1∧Blk wr q7 (LedC X (.slice (some ⟨gA,0,none⟩) σ.bs.length dA) (.slice (some ⟨gB,0,none⟩) σ.bs.length dB)) 133∧Blk wr q9 #[.int .i64 u0,.int .u64 u1,.int .i64 u2,.int .u64 u3,.int .i64 u4,.int .u64 u5,.slice aw us.length ac] 64∧Blk wr k1 #[.pointer (some ⟨I.p,0,none⟩)] 52∧Blk wr k2 #[.int .u64 r] 27∧LedAt wr (fun i=>((¬ Mut { I with ch:=ch1 } i∧ch1.ownBlock≠some i)∧¬ I.ex i)∧i≠q7) σ.bs.length X (ledV X (.slice (some ⟨gA,0,none⟩) σ.bs.length dA) (.slice (some ⟨gB,0,none⟩) σ.bs.length dB))∧Ints .i64 wr aw us) w)=>And.intro (show w.cell? ⟨I.p,0,none⟩=some (.slice I.ba σ.bs.length I.bc) from hSw.1.s0) <| And.intro (show w.cell? ⟨I.p,1,none⟩=some (.int .i64 σ.S) from hSw.1.s1) <| show w.cell? ⟨I.p,2,none⟩=some (.int .i64 σ.B) from hSw.1.s2
        refine wp_region_late (fun wr=>SC wr { I with ch:=ch1 } { σ with n:=σ.n+1,f:=σ.f,F:=T } base cs1∧Blk wr q7 (LedC X (.slice (some ⟨gA,0,none⟩) σ.bs.length dA) (.slice (some ⟨gB,0,none⟩) σ.bs.length dB)) 133∧Blk wr q9 #[.int .i64 u0,.int .u64 u1,.int .i64 u2,.int .u64 u3,.int .i64 u4,.int .u64 u5,.slice aw us.length ac] 64∧Blk wr k1 #[.pointer (some ⟨I.p,0,none⟩)] 52∧Blk wr k2 #[.int .u64 r] 27∧LedAt wr (fun i=>((¬ Mut { I with ch:=ch1 } i∧ch1.ownBlock≠some i)∧¬ I.ex i)∧i≠q7) σ.bs.length X (ledV X (.slice (some ⟨gA,0,none⟩) σ.bs.length dA) (.slice (some ⟨gB,0,none⟩) σ.bs.length dB))∧Ints .i64 wr aw us) [11] (by as_aux_lemma=>kernel_rfl) ?_;have hS0:=And.intro HHx.out (And.intro HB7.out (And.intro HB9.out (And.intro HK1x.out (And.intro HK2x.out (And.intro HLE.out HU.out)))));have hS:(fun wr=>_) W8.drew:=hS0;clear HHx HB7 HB9 HK1x HK2x HLE HU hS0;generalize W8.drew=wd at HGX hS ⊢;refine pM 0 ?_;simp only [zz];refine pM 1 ?_;simp only [zz];refine pM 2 ?_;simp only [zz];refine pM 6 ?_;simp only [zz];refine tM 3 ?_;simp only [zz];refine wM 4 ?_ ?_ hS ?_;rotate_left;· intro w hSw;(refine exec_load_all (ty:=133) (hSw.2.1) ?_ _ Tryz.underlying133 rfl ?_ <;> first | exact ⟨_,rfl,rfl⟩ | (as_aux_lemma=>kernel_rfl))
        simp only [zz];refine wM 5 ?_ ?_ hS ?_;rotate_left;· intro w hSw;(refine exec_load_all (ty:=64) (hSw.2.2.1) ?_ _ Tryz.underlying64 rfl ?_ <;> first | exact ⟨_,rfl,rfl⟩ | (as_aux_lemma=>kernel_rfl))
        simp only [zz];refine rM 7 fun K hK=>?_;go_simp;refine (count_calls (p:=I.p) (tp:=I.tp) (tb:=I.tb) (a:=I.ba) (c:=I.bc) (S:=σ.S) (B:=σ.B) (u:=⟨u0,u1,u2,u3,u4,u5,us⟩) (x:=X) ⟨hS.2.2.2.1,hS.2.2.2.2.1,hS.1.s3,hS.1.tree⟩ HWT.out hr hN1 hN2 hS2 hS.2.2.2.2.2.1 HBD.out hS.2.2.2.2.2.2 hus (by show us.length≤_;omega)).mono ?_;rintro e wg ⟨v2,bo,rfl,hled2,hgg⟩;rw [← HX2.out] at hled2;have hq7d:=hS.2.1.lt;have hled3:=hled2.imp (ok':=(fun i=>((¬ Mut { I with ch:=ch1 } i∧ch1.ownBlock≠some i)∧¬ I.ex i)∧i≠q7)) (fun i hi=>by
         rcases hi with h | h
         ·exact h
         ·exact ⟨⟨⟨fun hm=>by have:=hS.1.mlt hm;omega,fun hc=>by have:=(hS.1.row.lt _ hc).2;omega⟩,fun he=>by have:=hS.1.lo i he;have:=hS.1.bl;omega⟩,by omega⟩)
        obtain ⟨gA2,dA2,gB2,dB2,hv2e,_,_,_,_⟩:=id hled3;subst hv2e;have hS2:(fun wr=>_) wg:=And.intro (hS.1.g hgg) (And.intro (hS.2.1.g hgg) (And.intro (hS.2.2.1.g hgg) (And.intro (hS.2.2.2.1.g hgg) (And.intro (hS.2.2.2.2.1.g hgg) (And.intro (LedAt.g hS.2.2.2.2.2.1 hgg) (hS.2.2.2.2.2.2.g hgg))))));have HL3:=lh hled3;replace HGX:=lh (g2 HGX.out hgg);clear hgg hled2 hled3 hq7d;rw [ledV_eq];refine hK.out _ _ (.inl (fun _=>hS2)) ?_;replace hS:=hS2;clear hK K hS2;refine pM 8 ?_;simp only [zz];refine pM 9 ?_;simp only [zz];refine pM 10 ?_;simp only [zz];refine rM 11 fun K hK=>?_;refine step_store_blk hS.2.1 rfl (LedC X2 (.slice (some ⟨gA2,0,none⟩) σ.bs.length dA2) (.slice (some ⟨gB2,0,none⟩) σ.bs.length dB2)) ⟨_,_,rfl,rfl,rfl⟩ (by as_aux_lemma=>kernel_rfl) rfl (by simp [LedC,Value.oneCell']) ?_;intro w10 t1 t3;refine hK.out _ _ (.inr (by decide)) ?_;clear hK K;try simp only [zz]
        refine dM ?_ _;have hfin:=gnew HGX.out t3 hq7;have hled4:=HL3.out.chg (Chg.one (S:=fun i=>i=q7) t3 rfl) (fun i hi=>hi.2);have hled5:=(hled4.here (by show 0 < σ.bs.length;omega)).imp (ok':=fun i=>(Out { I with ch:=ch1 } w10 i∧¬ I.ex i)∧i≠q7) (fun i hi=>⟨⟨⟨hi.2,hi.1.1.1.1,hi.1.1.1.2⟩,hi.1.1.2⟩,hi.1.2⟩);have HR7:=lh (And.intro t1 (And.intro hfin hled5));clear t1 t3 hfin hled4 hled5;go_wp2_with fail
        exact ⟨⟨j+1,by simp,by omega,X2,_,_,_,_,by rw [HNX.out,HX2.out],HR7.out.1,HR7.out.2.2,HBD2.out,HR7.out.2.1⟩,by simp [intOf];omega⟩
       ·have hje:j=vs.length:=by omega
        subst hje;rw [List.take_length] at hX;have hqq:=HH.out.fresh hgr hq7 hb7.lt;replace HH:=lh (HH.out.g hgr);replace HST:=lh (HST.out.g hgr);replace HVS:=lh (HVS.out.g hgr);replace HPS:=lh (HPS.out.g hgr);replace HB0:=lh (HB0.out.g hgr);replace HQO:=lh (HQO.out.g hgr);replace HK1:=lh (HK1.out.g hgr);replace HK2:=lh (HK2.out.g hgr);replace HF1:=lh (HF1.out.g hgr);replace HF2:=lh (HF2.out.g hgr);have hpw:PW w wr I { I with ch:=ch1 } { σ with n:=σ.n+1,f:=σ.f,F:=T } base cs1 I.p qb q7 k1 k2 #[.int .u64 r,.int .u64 q,.int .i64 s,.slice va vs.length vc,.slice pa ps.length pc] (LedC X (.slice (some ⟨gA,0,none⟩) σ.bs.length dA) (.slice (some ⟨gB,0,none⟩) σ.bs.length dB)) σ.bs.length X (ledV X (.slice (some ⟨gA,0,none⟩) σ.bs.length dA) (.slice (some ⟨gB,0,none⟩) σ.bs.length dB)) r vs va ps pa I.ex:=⟨HH.out,HST.out,HB0.out,HQO.out,hb7,hqq,HK1.out,HF1.out,HK2.out,HF2.out,hled,HVS.out,HPS.out⟩;have HX:=lh hX;have HPW:=lh hpw;have HBD:=lh hbd;clear hpw hbd;clear HH HST HVS HPS HB0 HQO HK1 HK2 HF1 HF2 hgr hq7 hX hqq hb7 hled;go_wp2_with fail
        have hksx : ∃ ks:List Int,(∀ k,(σ.L k).isSome=true→k∈ks)∧ks.length≤1000000:=by
         obtain ⟨ks,h1,h2⟩:=HIN.out.wf.ks;have hn:=HIN.out.wf.n;exact ⟨ks,fun k hk=>h2 k (by rw [← HIN.out.wf.led k];exact hk),by omega⟩
        have HKX:=lh hksx;clear hksx;replace HPW:=lh (HPW.out.g (gdrew (gR _ none)));have TK:=lh fun w (hSw:(fun wr=>SC wr { I with ch:=ch1 } { σ with n:=σ.n+1,f:=σ.f,F:=T } base cs1∧Blk wr qb #[.int .u64 r,.int .u64 q,.int .i64 s,.slice va vs.length vc,.slice pa ps.length pc] 59∧Blk wr q7 (LedC X (.slice (some ⟨gA,0,none⟩) σ.bs.length dA) (.slice (some ⟨gB,0,none⟩) σ.bs.length dB)) 133) w)=>And.intro (show w.cell? ⟨qb,0,none⟩=some (.int .u64 r) from hSw.2.1.at 0) <| show w.cell? ⟨I.p,11,none⟩=some (.map (some I.lm)) from hSw.1.s11
        refine wp_region_last (fun wr=>SC wr { I with ch:=ch1 } { σ with n:=σ.n+1,f:=σ.f,F:=T } base cs1∧Blk wr qb #[.int .u64 r,.int .u64 q,.int .i64 s,.slice va vs.length vc,.slice pa ps.length pc] 59∧Blk wr q7 (LedC X (.slice (some ⟨gA,0,none⟩) σ.bs.length dA) (.slice (some ⟨gB,0,none⟩) σ.bs.length dB)) 133) 7 (by as_aux_lemma=>kernel_rfl) (⟨HPW.out.sc,HPW.out.b0,HPW.out.b7⟩) ?_;intro hS;generalize wr.drew=wd at HPW hS ⊢;refine tL 0 ?_;simp only [zz];refine tL 1 ?_;simp only [zz];refine tL 2 ?_;simp only [zz];refine tL 3 ?_;simp only [zz];refine tL 4 ?_;simp only [zz];refine tL 5 ?_;simp only [zz];refine wL 6 ?_ ?_ hS ?_;rotate_left;· intro w hSw;(refine exec_load_all (ty:=133) (hSw.2.2) ?_ _ Tryz.underlying133 rfl ?_ <;> first | exact ⟨_,rfl,rfl⟩ | (as_aux_lemma=>kernel_rfl))
        simp only [zz];refine rL 7 fun K hK=>?_;obtain ⟨ks,hk1,hk2⟩:=HKX.out;refine wp_ledger (ks:=ks) HPW.out.sc.led hk1 hk2 (fun hn=>hn (.inl (.inr (.inr (.inr (.inr (.inl rfl))))))) _ _ _ rfl hr X (HPW.out.led.imp (fun i hi hf=>by
         rcases hf with hf | hf | hf
         ·exact hi.1.1.m hf
         ·exact hi.1.2 hf
         ·exact hi.1.1.c hf)) rfl rfl rfl ?_
        intro w9 hl9 hg9;refine hK.out _ _ (.inr rfl) ?_;clear hK K;refine dL ?_ _;obtain ⟨h1,h2⟩:=HPW.out.sc.ledgered hl9 hg9;have hpw:PW w w9 I { I with ch:=ch1 } { σ with n:=σ.n+1,f:=σ.f,F:=T,L:=ledSet σ.L r X } base cs1 I.p qb q7 k1 k2 #[.int .u64 r,.int .u64 q,.int .i64 s,.slice va vs.length vc,.slice pa ps.length pc] (LedC X (.slice (some ⟨gA,0,none⟩) σ.bs.length dA) (.slice (some ⟨gB,0,none⟩) σ.bs.length dB)) σ.bs.length X (ledV X (.slice (some ⟨gA,0,none⟩) σ.bs.length dA) (.slice (some ⟨gB,0,none⟩) σ.bs.length dB)) r vs va ps pa I.ex:=HPW.out.stp h1 h2;clear HPW hS hl9 hg9 h1 h2 HKX;have hia:Inv { σ with n:=σ.n+1,f:=σ.f,F:=T,L:=ledSet σ.L r X } (N+1):=by rw [HT.out];exact HIN.out.add hN hr HFQ.out HFR.out hqs hss HBD.out
        have HPW:=lh hpw;have HIA:=lh hia;clear hpw hia;go_upto_region 21 with (fail)
        have d3:=HPW.out.b0.at 3;go_wp2_with fail
        clear d3;obtain ⟨σa,hσa⟩ : ∃ σa:St,σa={ σ with n:=σ.n+1,f:=σ.f,F:=T,L:=ledSet σ.L r X }:=⟨_,rfl⟩;rw [← hσa] at HPW HIA;have hbsa:σa.bs=σ.bs∧σa.S=σ.S∧σa.slot=σ.slot∧σa.boosted=σ.boosted:=by rw [hσa];exact ⟨rfl,rfl,rfl,rfl⟩
        have HSA:=lh hσa;have HBSA:=lh hbsa;clear hσa hbsa
        go_loopw [126] (fun v126 wr=>∃ (j:Nat),v126=.int .i64 (j:Int)∧j≤vs.length∧∃ ch,PW w wr I { I with ch:=ch } ((vs.take j).foldl attStep (σa,cs1)).1 base ((vs.take j).foldl attStep (σa,cs1)).2 I.p qb q7 k1 k2 #[.int .u64 r,.int .u64 q,.int .i64 s,.slice va vs.length vc,.slice pa ps.length pc] (LedC X (.slice (some ⟨gA,0,none⟩) σ.bs.length dA) (.slice (some ⟨gB,0,none⟩) σ.bs.length dB)) σ.bs.length X (ledV X (.slice (some ⟨gA,0,none⟩) σ.bs.length dA) (.slice (some ⟨gB,0,none⟩) σ.bs.length dB)) r vs va ps pa I.ex ∧
                    Inv ((vs.take j).foldl attStep (σa,cs1)).1 (N+1)∧((vs.take j).foldl attStep (σa,cs1)).2.length≤1001+1000 * j) (fun v126 _=>vs.length - (intOf v126).toNat)
        case atStart=>exact ⟨0,rfl,by omega,ch1,HPW.out,HIA.out,by show cs1.length≤_;omega⟩
        case round=>
         obtain ⟨j,rfl,hj,ch,hpw,hia,hln⟩:=hrel;clear HPW HIA;by_cases hlt:j < vs.length
         ·rcases hpw.vs with hv | ⟨g,hv1,hv2,hv3⟩
          ·rw [hv] at hlt;simp at hlt
          obtain ⟨aw,ac,v0,v1,v2,v3,v4,v5,v6,v7,v8⟩:=hv3 j hlt;have hvB:=HVB.out (vs.getD j vt0) (by rw [List.getD_eq_getElem?_getD,List.getElem?_eq_getElem hlt];simp);have hnx:(vs.take (j+1)).foldl attStep (σa,cs1)=attStep ((vs.take j).foldl attStep (σa,cs1)) (vs.getD j vt0):=by
                     rw [take_succ' vs j hlt vt0,List.foldl_append];rfl
          obtain ⟨P,hP⟩ : ∃ P,P=(vs.take j).foldl attStep (σa,cs1):=⟨_,rfl⟩;rw [← hP] at hpw hia hln hnx;obtain ⟨u,hu⟩ : ∃ u,u=vs.getD j vt0:=⟨_,rfl⟩;rw [← hu] at v0 v1 v2 v3 v4 v5 v6 v7 hvB hnx;have hul:=hvB.who;have hus:=hvB.sl;have huh:=hvB.hd;have hal:=attC_len P.1 P.2 u true;have hwo : ∀ ad,aw=some ad→Out { I with ch:=ch } wr ad.block:=fun ad e=>(v8 ad e).1;clear hv2 hv3 v8 hu hP hvB;obtain ⟨u0,u1,u2,u3,u4,u5,us⟩:=u;simp only at v0 v1 v2 v3 v4 v5 v6 v7 hul hus huh hal;subst hv1;have HNX:=lh hnx;have HPW:=lh hpw;have HIA:=lh hia;have HU:=lh v7;have HWO:=lh hwo;clear hnx hpw hia v7 hwo;go_upto_region 24 with (fail)
          refine nmC1 ?_;intro W8 b8 hz8 hg8;have HB8:=lh b8;clear v0 v1 v2 v3 v4 v5 v6 b8;obtain ⟨q11,hq_q11⟩ : ∃ q,q=wr.heap.size:=⟨_,rfl⟩;rw [← hq_q11] at hz8 HB8 ⊢;have HQ_q11:=lh hq_q11;clear hq_q11;replace HWO:=lh (fun ad e=>(HWO.out ad e).g hg8);replace HPW:=lh (HPW.out.g hg8);replace HU:=lh (HU.out.g hg8);clear hg8 hz8;have d0:=HB8.out.at 0;have d1:=HB8.out.at 1;have d2:=HB8.out.at 2;have d3:=HB8.out.at 3;have d4:=HB8.out.at 4;have d5:=HB8.out.at 5;have d6:=HB8.out.at 6;go_wp2_with fail
          refine (attest_calls (v:=⟨u0,u1,u2,u3,u4,u5,us⟩) HPW.out.sc HIA.out.wf true HU.out HWO.out huh (by show u0≤_;omega) (by show us.length≤_;omega) (by omega)).mono ?_;rintro e w10 ⟨rfl,ch2,h1,h2⟩;clear d0 d1 d2 d3 d4 d5 d6;have hpw2:=HPW.out.stp h1 h2;have hia2:=HIA.out.att (cs:=P.2) (ins:=true) (v:=⟨u0,u1,u2,u3,u4,u5,us⟩) huh;clear HPW HIA HU HWO HB8 h1 h2;have HPW:=lh hpw2;have HIA:=lh hia2;clear hpw2 hia2;go_wp2_with fail
          refine ⟨⟨j+1,by simp,by omega,ch2,by rw [HNX.out];exact HPW.out,by rw [HNX.out];exact HIA.out,by rw [HNX.out];show (attC P.1 P.2 _ true).2.length≤_;omega⟩,by simp [intOf];omega⟩
         ·have hje:j=vs.length:=by omega
          subst hje;rw [List.take_length] at hpw hia hln;have HPW:=lh hpw;have HIA:=lh hia;clear hpw hia;obtain ⟨PB,hPB⟩ : ∃ PB,PB=vs.foldl attStep (σa,cs1):=⟨_,rfl⟩;rw [← hPB] at HPW HIA hln;have hln2:PB.2.length≤20000:=by omega
          have HPB:=lh hPB;clear hln hPB;go_upto_region 26 with (fail)
          have d4:=HPW.out.b0.at 4;go_wp2_with fail
          clear d4
          go_loopw [137] (fun v137 wr=>∃ (j:Nat),v137=.int .i64 (j:Int)∧j≤ps.length∧∃ ch,PW w wr I { I with ch:=ch } ((ps.take j).foldl slaStep PB).1 base ((ps.take j).foldl slaStep PB).2 I.p qb q7 k1 k2 #[.int .u64 r,.int .u64 q,.int .i64 s,.slice va vs.length vc,.slice pa ps.length pc] (LedC X (.slice (some ⟨gA,0,none⟩) σ.bs.length dA) (.slice (some ⟨gB,0,none⟩) σ.bs.length dB)) σ.bs.length X (ledV X (.slice (some ⟨gA,0,none⟩) σ.bs.length dA) (.slice (some ⟨gB,0,none⟩) σ.bs.length dB)) r vs va ps pa I.ex ∧
                     Inv ((ps.take j).foldl slaStep PB).1 (N+1)∧((ps.take j).foldl slaStep PB).2.length≤20000+1000 * j) (fun v137 _=>ps.length - (intOf v137).toNat)
          case atStart=>exact ⟨0,rfl,by omega,ch,HPW.out,HIA.out,by show PB.2.length≤_;omega⟩
          case round=>
                     obtain ⟨j,rfl,hj,ch,hpw,hia,hln⟩:=hrel;clear HPW HIA;by_cases hlt:j < ps.length
                     ·rcases hpw.ps with hv | ⟨g,hv1,hv2,hv3⟩
                      ·rw [hv] at hlt;simp at hlt
                      obtain ⟨⟨aw,ac,v0,v1,v2,v3,v4,v5,v6,v7,v8⟩,⟨bw,bc,y0,y1,y2,y3,y4,y5,y6,y7,y8⟩⟩:=hv3 j hlt;have hvB:=HPB2.out (ps.getD j (vt0,vt0)) (by rw [List.getD_eq_getElem?_getD,List.getElem?_eq_getElem hlt];simp);have hnx:(ps.take (j+1)).foldl slaStep PB=slaStep ((ps.take j).foldl slaStep PB) (ps.getD j (vt0,vt0)):=by
                       rw [take_succ' ps j hlt (vt0,vt0),List.foldl_append];rfl
                      obtain ⟨P,hP⟩ : ∃ P,P=(ps.take j).foldl slaStep PB:=⟨_,rfl⟩;rw [← hP] at hpw hia hln hnx;obtain ⟨uu,hu⟩ : ∃ uu,uu=ps.getD j (vt0,vt0):=⟨_,rfl⟩;rw [← hu] at v0 v1 v2 v3 v4 v5 v6 v7 y0 y1 y2 y3 y4 y5 y6 y7 hvB hnx;obtain ⟨u,z⟩:=uu;simp only at v0 v1 v2 v3 v4 v5 v6 v7 y0 y1 y2 y3 y4 y5 y6 y7 hvB;have hul:=hvB.1.who;have hus:=hvB.1.sl;have hzl:=hvB.2.who;have hzs:=hvB.2.sl;have hbl:=banAll_len (shownF P.1.bs.length P.1.S u z) P.1.V P.2;have hsl:=shownF_len (N:=P.1.bs.length) (S:=P.1.S) (a:=u) (b:=z);have hbsp : ∀ ad,bw=some ad→ad.spot=none:=fun ad e=>(y8 ad e).2;clear hv2 hv3 v8 y8 hu hP hvB;obtain ⟨u0,u1,u2,u3,u4,u5,us⟩:=u;obtain ⟨z0,z1,z2,z3,z4,z5,zs⟩:=z;simp only at v0 v1 v2 v3 v4 v5 v6 v7 y0 y1 y2 y3 y4 y5 y6 y7 hul hus hzl hzs hsl;subst hv1;have x7:wr.cell? ⟨g,j * 14+7,none⟩=some (.int .i64 z0):=y0;have x8:wr.cell? ⟨g,j * 14+8,none⟩=some (.int .u64 z1):=y1;have x9:wr.cell? ⟨g,j * 14+9,none⟩=some (.int .i64 z2):=y2;have x10:wr.cell? ⟨g,j * 14+10,none⟩=some (.int .u64 z3):=y3;have x11:wr.cell? ⟨g,j * 14+11,none⟩=some (.int .i64 z4):=y4;have x12:wr.cell? ⟨g,j * 14+12,none⟩=some (.int .u64 z5):=y5;have x13:wr.cell? ⟨g,j * 14+13,none⟩=some (.slice bw zs.length bc):=y6;clear y0 y1 y2 y3 y4 y5 y6;have HNX:=lh hnx;have HPW:=lh hpw;have HIA:=lh hia;have HU:=lh v7;have HZ:=lh y7;have HBSP:=lh hbsp;have HBL:=lh hbl;have HSL:=lh hsl;clear hnx hpw hia v7 y7 hbsp hbl hsl;go_upto_region 29 with (fail)
                      refine nmC1 ?_;intro W8 b8 hz8 hg8;change Blk W8 wr.heap.size (prC ⟨u0,u1,u2,u3,u4,u5,us⟩ ⟨z0,z1,z2,z3,z4,z5,zs⟩ aw bw ac bc) 66 at b8;have HB8:=lh b8;clear v0 v1 v2 v3 v4 v5 v6 x7 x8 x9 x10 x11 x12 x13 b8;obtain ⟨q13,hq_q13⟩ : ∃ q,q=wr.heap.size:=⟨_,rfl⟩;rw [← hq_q13] at hz8 HB8 ⊢;have HQ_q13:=lh hq_q13;clear hq_q13;replace HPW:=lh (HPW.out.g hg8);replace HU:=lh (HU.out.g hg8);replace HZ:=lh (HZ.out.g hg8);clear hg8 hz8;go_wp2_with (refine wpList_load_blk (off:=0) HB8.out rfl _ rfl rfl _ Tryz.underlying66 rfl (prC ⟨u0,u1,u2,u3,u4,u5,us⟩ ⟨z0,z1,z2,z3,z4,z5,zs⟩ aw bw ac bc) (by as_aux_lemma=>kernel_rfl) rfl ?_)
                      refine (slash_calls (a:=⟨u0,u1,u2,u3,u4,u5,us⟩) (b:=⟨z0,z1,z2,z3,z4,z5,zs⟩) HPW.out.sc HIA.out.wf HU.out HZ.out HBSP.out (by show us.length≤_;omega) (by show zs.length≤_;omega) (by show u0≤_;omega) (by show z0≤_;omega) (by omega)).mono ?_;rintro e w10 ⟨rfl,ch2,h1,h2⟩;have hpw2:=HPW.out.stp h1 h2;have hia2:=HIA.out.ban (cs:=P.2) (shownF P.1.bs.length P.1.S ⟨u0,u1,u2,u3,u4,u5,us⟩ ⟨z0,z1,z2,z3,z4,z5,zs⟩);have hbl:=HBL.out;have hsl:=HSL.out;clear HPW HIA HU HZ HB8 h1 h2;have hl2:(banAll P.1.V P.2 (shownF P.1.bs.length P.1.S ⟨u0,u1,u2,u3,u4,u5,us⟩ ⟨z0,z1,z2,z3,z4,z5,zs⟩)).2.length≤20000+1000 * (j+1):=by omega
                      have HPW:=lh hpw2;have HIA:=lh hia2;have HL2:=lh hl2;clear hpw2 hia2 hl2;clear hbl hsl;go_wp2_with fail
                      refine ⟨⟨j+1,by simp,by omega,ch2,by rw [HNX.out];exact HPW.out,by rw [HNX.out];exact HIA.out,by rw [HNX.out];exact HL2.out⟩,by simp [intOf];omega⟩
                     ·have hje:j=ps.length:=by omega
                      subst hje;rw [List.take_length] at hpw hia hln;have HPW:=lh hpw;have HIA:=lh hia;clear hpw hia;obtain ⟨PC,hPC⟩ : ∃ PC,PC=ps.foldl slaStep PB:=⟨_,rfl⟩;rw [← hPC] at HPW HIA hln;have hln3:PC.2.length≤40000:=by omega
                      have HPC:=lh hPC;clear hln hPC;have hkeep:PC.1.slot=σ.slot∧PC.1.boosted=σ.boosted∧PC.1.S=σ.S∧PC.1.bs=σ.bs:=by
                       have h1 : ∀ (vs:List Vt) (p:St×List Cg),(vs.foldl attStep p).1.slot=p.1.slot∧(vs.foldl attStep p).1.boosted=p.1.boosted∧(vs.foldl attStep p).1.S=p.1.S∧(vs.foldl attStep p).1.bs=p.1.bs:=fun vs=>by
                        induction vs with
                        | nil=>exact fun p=>⟨rfl,rfl,rfl,rfl⟩
                        | cons v vs ih=>exact fun p=>ih (attStep p v)
                       have h2 : ∀ (ps:List (Vt×Vt)) (p:St×List Cg),(ps.foldl slaStep p).1.slot=p.1.slot∧(ps.foldl slaStep p).1.boosted=p.1.boosted∧(ps.foldl slaStep p).1.S=p.1.S∧(ps.foldl slaStep p).1.bs=p.1.bs:=fun ps=>by
                        induction ps with
                        | nil=>exact fun p=>⟨rfl,rfl,rfl,rfl⟩
                        | cons v ps ih=>exact fun p=>ih (slaStep p v)
                       obtain ⟨a1,a2,a3,a4⟩:=h2 ps PB;obtain ⟨b1,b2,b3,b4⟩:=h1 vs (σa,cs1);obtain ⟨c1,c2,c3,c4⟩:=HBSA.out;rw [HPC.out,a1,a2,a3,a4,HPB.out,b1,b2,b3,b4];exact ⟨c3,c4,c2,c1⟩
                      have HKP:=lh hkeep;clear hkeep;go_upto_region 31 with (fail)
                      obtain ⟨Bo,hBo⟩ : ∃ Bo,Bo=if s=σ.slot∧σ.boosted=0 then r else σ.boosted:=⟨_,rfl⟩;have hboU:inU Bo:=by
                       rw [hBo];split
                       ·exact hr
                       ·exact HIN.out.wf.bo
                      have hid:=HIA.out.boost hboU;have HBO:=lh hBo;have HID:=lh hid;clear hBo hid;clear HIA hboU
                      go_cut [158] (fun s158 wx=>s158=.bool (decide (s=σ.slot∧σ.boosted=0))∧wr.grownBy wx none)
                      case first=>
                       as_aux_lemma=>
                        have d2:wr.cell? ⟨qb,2,none⟩=some (.int .i64 s):=HPW.out.b0.at 2;have c5:wr.cell? ⟨I.p,5,none⟩=some (.int .i64 σ.slot):=by rw [← HKP.out.1];exact HPW.out.sc.s5
                        have c6:wr.cell? ⟨I.p,6,none⟩=some (.int .u64 σ.boosted):=by rw [← HKP.out.2.1];exact HPW.out.sc.s6
                        by_cases hB1:s=σ.slot
                        ·have hB1':(s == σ.slot)=true:=by simp [hB1]
                         by_cases hB2:σ.boosted=0
                         ·have hB2':(σ.boosted == 0)=true:=by simp [hB2]
                          have HD:=lh (show decide (s=σ.slot∧σ.boosted=0)=true from decide_eq_true ⟨hB1,hB2⟩);clear hB1 hB2;go_quiet (fail)
                          go_wp2_with fail
                          go_meet
                          exact ⟨by rw [HD.out],drewN_grown _ _⟩
                         ·have hB2':(σ.boosted == 0)=false:=by simp [hB2]
                          have HD:=lh (show decide (s=σ.slot∧σ.boosted=0)=false from decide_eq_false (fun h=>hB2 h.2));clear hB1 hB2;go_quiet (fail)
                          go_wp2_with fail
                          go_meet
                          exact ⟨by rw [HD.out],drewN_grown _ _⟩
                        ·have hB1':(s == σ.slot)=false:=by simp [hB1]
                         have HD:=lh (show decide (s=σ.slot∧σ.boosted=0)=false from decide_eq_false (fun h=>hB1 h.1));clear hB1;go_quiet (fail)
                         go_wp2_with fail
                         go_meet
                         exact ⟨by rw [HD.out],drewN_grown _ _⟩
                      case rest=>
                       obtain ⟨rfl,hgg⟩:=hcut;replace HPW:=lh (HPW.out.g hgg);clear hgg;go_upto_if 158 with (fail)
                       go_cut [] (fun wx=>PW w wx I { I with ch:=ch } { PC.1 with boosted:=Bo } base PC.2 I.p qb q7 k1 k2 #[.int .u64 r,.int .u64 q,.int .i64 s,.slice va vs.length vc,.slice pa ps.length pc] (LedC X (.slice (some ⟨gA,0,none⟩) σ.bs.length dA) (.slice (some ⟨gB,0,none⟩) σ.bs.length dB)) σ.bs.length X (ledV X (.slice (some ⟨gA,0,none⟩) σ.bs.length dA) (.slice (some ⟨gB,0,none⟩) σ.bs.length dB)) r vs va ps pa I.ex)
                       case first=>
                        as_aux_lemma=>
                         by_cases hB:s=σ.slot∧σ.boosted=0
                         ·have hbo:=HBO.out;rw [if_pos hB] at hbo;rw [decide_eq_true hB];clear hB;have d0:wc.cell? ⟨qb,0,none⟩=some (.int .u64 r):=HPW.out.b0.at 0;have c6:wc.cell? ⟨I.p,6,none⟩=some (.int .u64 PC.1.boosted):=HPW.out.sc.s6;have f6:wc.frozen? ⟨I.p,6,none⟩=false:=HPW.out.sc.blk.fr 6;have HBR:=lh hbo;clear hbo;go_wp2_with fail
                          go_meet
                          obtain ⟨t1,_,t3⟩:=sto1 6 (.int .u64 r) HPW.out.sc.blk;simp only [List.setIfInBounds_toArray,List.set_cons_zero,List.set_cons_succ] at t1;obtain ⟨h1,h2⟩:=HPW.out.sc.put (σ':={ PC.1 with boosted:=r }) t3 t1 rfl;rw [HBR.out];exact HPW.out.stp h1 h2
                         ·have hbo:=HBO.out;rw [if_neg hB,← HKP.out.2.1] at hbo;rw [decide_eq_false hB];clear hB;have HBR:=lh hbo;clear hbo;go_wp2_with fail
                          go_meet
                          rw [HBR.out];exact HPW.out
                       case rest=>
                        clear HPW;have HPW:=lh hcut;clear hcut;have e6:wc.cell? ⟨q7,6,none⟩=some (.int .i64 X.j.ce):=HPW.out.b7.at 6;have e7:wc.cell? ⟨q7,7,none⟩=some (.int .u64 X.j.cr):=HPW.out.b7.at 7;have e8:wc.cell? ⟨q7,8,none⟩=some (.int .i64 X.j.fe):=HPW.out.b7.at 8;have e9:wc.cell? ⟨q7,9,none⟩=some (.int .u64 X.j.fr):=HPW.out.b7.at 9;go_wp2_with fail
                        refine (raise_calls HPW.out.sc HID.out.wf (HID.out.cnt.mono (by omega)) (sortUpTo_any _ (by have:=HID.out.wf.n;omega)) HBD.out.j.cr HBD.out.j.fr (by omega)).mono ?_;rintro e w10 ⟨rfl,I2,σe,cse,hrd,h1,h2⟩;clear e6 e7 e8 e9;have hpw2:=HPW.out.stp h1 h2;obtain ⟨hie,hbs,hSS,hBB,hsl,hnn,hcl3⟩:=HID.out.raised hrd HBD.out.j.c0 HBD.out.j.c1 HBD.out.j.cr HBD.out.j.f0 HBD.out.j.f1;clear HPW h1 h2;have hbs2:σe.bs=σ.bs:=hbs.trans HKP.out.2.2.2;have hSS2:σe.S=σ.S:=hSS.trans HKP.out.2.2.1;have hsl2:σe.slot=σ.slot:=hsl.trans HKP.out.1;have hcl4:cse.length≤50000:=by
                         have h:cse.length≤PC.2.length+1:=hcl3;omega
                        have hids:=hpw2.st.ids;obtain ⟨c2,hc2⟩ : ∃ c2,c2=I2.ch:=⟨_,rfl⟩;obtain ⟨t2,ht2⟩ : ∃ t2,t2=I2.tb:=⟨_,rfl⟩;rw [← hc2,← ht2] at hids;clear hc2 ht2;subst hids;have HPW:=lh hpw2;have HRD:=lh hrd;have HIE:=lh hie;have HBS:=lh hbs2;have HSS:=lh hSS2;have HSL:=lh hsl2;clear hpw2 hrd hie hbs2 hSS2 hsl2;clear hbs hSS hBB hnn hsl hcl3;go_upto_region 34 with (fail)
                        obtain ⟨P,hP⟩ : ∃ P,P=pullF σe.bs σe.S σe.F σe.f r X:=⟨_,rfl⟩;have hPb:JBd P:=by rw [hP];exact pullF_bd HIE.out.wf.tree HBD.out
                        have HP:=lh hP;have HPBD:=lh hPb;clear hP hPb
                        go_cut [14] (fun s14 wx=>∃ q14,s14=.pointer (some ⟨q14,0,none⟩)∧Blk wx q14 (JC P) 130∧w10.grownBy wx none)
                        case first=>
                         as_aux_lemma=>
                          have HGD:=lh (gdrew (gR w10 none));have hws:w10.drew.heap.size=w10.heap.size:=rfl;have HWS:=lh hws;clear hws;replace HPW:=lh (HPW.out.g (gdrew (gR _ none)));have hmay2:=HIE.out.wf.may;have hwt2:=HIE.out.wf.tree;have hled:LedAt w10.drew (fun _=>True) σe.bs.length X (ledV X (.slice (some ⟨gA,0,none⟩) σ.bs.length dA) (.slice (some ⟨gB,0,none⟩) σ.bs.length dB)):=by rw [HBS.out];exact HPW.out.led.imp (fun _ _=>trivial)
                          have HMY2:=lh hmay2;have HWT2:=lh hwt2;have HLD:=lh hled;clear hmay2 hwt2 hled;have TK:=lh fun w (hSw:(fun wr=>SC wr { I with ch:=c2,tb:=t2 } σe base cse∧Blk wr q7 (LedC X (.slice (some ⟨gA,0,none⟩) σ.bs.length dA) (.slice (some ⟨gB,0,none⟩) σ.bs.length dB)) 133∧LedAt wr (fun _=>True) σe.bs.length X (ledV X (.slice (some ⟨gA,0,none⟩) σ.bs.length dA) (.slice (some ⟨gB,0,none⟩) σ.bs.length dB))∧Blk wr k1 #[.pointer (some ⟨I.p,0,none⟩)] 52∧Blk wr k2 #[.int .u64 r] 27) w)=>And.intro (show w.cell? ⟨I.p,0,none⟩=some (.slice I.ba σe.bs.length I.bc) from hSw.1.s0) <| And.intro (show w.cell? ⟨I.p,1,none⟩=some (.int .i64 σe.S) from hSw.1.s1) <| show w.cell? ⟨I.p,2,none⟩=some (.int .i64 σe.B) from hSw.1.s2
                          refine wp_region_last (fun wr=>SC wr { I with ch:=c2,tb:=t2 } σe base cse∧Blk wr q7 (LedC X (.slice (some ⟨gA,0,none⟩) σ.bs.length dA) (.slice (some ⟨gB,0,none⟩) σ.bs.length dB)) 133∧LedAt wr (fun _=>True) σe.bs.length X (ledV X (.slice (some ⟨gA,0,none⟩) σ.bs.length dA) (.slice (some ⟨gB,0,none⟩) σ.bs.length dB))∧Blk wr k1 #[.pointer (some ⟨I.p,0,none⟩)] 52∧Blk wr k2 #[.int .u64 r] 27) 8 (by as_aux_lemma=>kernel_rfl) (⟨HPW.out.sc,HPW.out.b7,HLD.out,HPW.out.bk1,HPW.out.bk2⟩) ?_;intro hS;clear HPW HLD;generalize w10.drew=wd at HGD HWS hS ⊢;refine tL 0 ?_;simp only [zz];refine tL 1 ?_;simp only [zz];refine tL 2 ?_;simp only [zz];refine tL 3 ?_;simp only [zz];refine wL 4 ?_ ?_ hS ?_;rotate_left;· intro w hSw;(refine exec_load_all (ty:=133) (hSw.2.1) ?_ _ Tryz.underlying133 rfl ?_ <;> first | exact ⟨_,rfl,rfl⟩ | (as_aux_lemma=>kernel_rfl))
                          simp only [zz];refine tL 5 ?_;simp only [zz];refine aL [6,7] (cL 6 (fun K hK=>?_) (cL 7 (fun K hK=>?_) nL))
                          ·skip;go_simp;refine (pull_calls (p:=I.p) (tp:=I.tp) (tb:=t2) ⟨hS.2.2.2.1,hS.2.2.2.2,hS.1.s3,hS.1.tree⟩ HWT2.out hr hS.1.bal rfl HMY2.out hS.2.2.1 HBD.out).mono ?_;rintro e wg ⟨rfl,hgg⟩;rw [← HP.out];have hS2:(fun wr=>_) wg:=And.intro (hS.1.g hgg) (And.intro (hS.2.1.g hgg) (And.intro (LedAt.g hS.2.2.1 hgg) (And.intro (hS.2.2.2.1.g hgg) (hS.2.2.2.2.g hgg))));try (replace HQ14:=lh (HQ14.out.g hgg))
                           try (replace HGD:=lh (g2 HGD.out hgg))
                           clear hgg;refine hK.out _ _ (.inl hS2) ?_;replace hS:=hS2;clear hK K hS2;refine rL 7 fun K hK=>?_;go_simp;refine nmA1 ?_;intro wm hmb hgg;first
                            | generalize hgm:wg.heap.size=gm at hmb ⊢
                            | generalize hgm:wd.heap.size=gm at hmb ⊢
                           have hcs:w10.heap.size≤gm:=by rw [← hgm];exact HGD.out.size
                           have hS2:(fun wr=>_) wm:=And.intro (hS.1.g hgg) (And.intro (hS.2.1.g hgg) (And.intro (LedAt.g hS.2.2.1 hgg) (And.intro (hS.2.2.2.1.g hgg) (hS.2.2.2.2.g hgg))));have HQ14:=lh hmb;have HGM:=lh hcs;try (replace HGD:=lh (g2 HGD.out hgg))
                           clear hgg hmb hgm hcs;refine hK.out _ _ (.inl hS2) ?_;replace hS:=hS2;clear hK K hS2;try simp only [zz]
                           refine rL 8 fun K hK=>?_;refine step_store_blk HQ14.out rfl (JC P) ⟨_,_,rfl,rfl,rfl⟩ (by as_aux_lemma=>kernel_rfl) rfl (by simp [JC,Value.oneCell']) ?_;intro w16 t1 t3;refine hK.out _ _ (.inr rfl) ?_;clear hK K;try simp only [zz]
                           refine dL ?_ _;have HFIN:=lh (And.intro t1 (gnew HGD.out t3 HGM.out));clear t1 t3;go_wp2_with fail
                           go_meet
                           exact ⟨gm,rfl,HFIN.out.1,HFIN.out.2⟩
                          ·skip;go_simp;refine nmA1 ?_;intro wm hmb hgg;first
                            | generalize hgm:wg.heap.size=gm at hmb ⊢
                            | generalize hgm:wd.heap.size=gm at hmb ⊢
                           have hcs:w10.heap.size≤gm:=by rw [← hgm];exact HGD.out.size
                           have hS2:(fun wr=>_) wm:=And.intro (hS.1.g hgg) (And.intro (hS.2.1.g hgg) (And.intro (LedAt.g hS.2.2.1 hgg) (And.intro (hS.2.2.2.1.g hgg) (hS.2.2.2.2.g hgg))));have HQ14:=lh hmb;have HGM:=lh hcs;try (replace HGD:=lh (g2 HGD.out hgg))
                           clear hgg hmb hgm hcs;refine hK.out _ _ (.inl hS2) ?_;replace hS:=hS2;clear hK K hS2;try simp only [zz]
                           refine rL 6 fun K hK=>?_;go_simp;refine (pull_calls (p:=I.p) (tp:=I.tp) (tb:=t2) ⟨hS.2.2.2.1,hS.2.2.2.2,hS.1.s3,hS.1.tree⟩ HWT2.out hr hS.1.bal rfl HMY2.out hS.2.2.1 HBD.out).mono ?_;rintro e wg ⟨rfl,hgg⟩;rw [← HP.out];have hS2:(fun wr=>_) wg:=And.intro (hS.1.g hgg) (And.intro (hS.2.1.g hgg) (And.intro (LedAt.g hS.2.2.1 hgg) (And.intro (hS.2.2.2.1.g hgg) (hS.2.2.2.2.g hgg))));try (replace HQ14:=lh (HQ14.out.g hgg))
                           try (replace HGD:=lh (g2 HGD.out hgg))
                           clear hgg;refine hK.out _ _ (.inl hS2) ?_;replace hS:=hS2;clear hK K hS2;refine rL 8 fun K hK=>?_;refine step_store_blk HQ14.out rfl (JC P) ⟨_,_,rfl,rfl,rfl⟩ (by as_aux_lemma=>kernel_rfl) rfl (by simp [JC,Value.oneCell']) ?_;intro w16 t1 t3;refine hK.out _ _ (.inr rfl) ?_;clear hK K;try simp only [zz]
                           refine dL ?_ _;have HFIN:=lh (And.intro t1 (gnew HGD.out t3 HGM.out));clear t1 t3;go_wp2_with fail
                           go_meet
                           exact ⟨gm,rfl,HFIN.out.1,HFIN.out.2⟩
                        case rest=>
                         obtain ⟨q14,rfl,hb14,hgg⟩:=hcut;replace HPW:=lh (HPW.out.g hgg);have HB14:=lh hb14;clear hgg hb14;obtain ⟨Es,hEs⟩ : ∃ Es,Es=eOf s σ.S:=⟨_,rfl⟩;obtain ⟨En,hEn⟩ : ∃ En,En=eOf σ.slot σ.S:=⟨_,rfl⟩;have HES:=lh hEs;have HEN:=lh hEn;clear hEs hEn;go_upto_region 35 with (fail)
                         go_cut [197] (fun s197 wx=>s197=.bool (decide (Es < En))∧wc.grownBy wx none)
                         case first=>
                          as_aux_lemma=>
                           have HGX:=lh (gdrew (gR wc none));have d2:wc.drew.cell? ⟨qb,2,none⟩=some (.int .i64 s):=(HPW.out.b0.g (gdrew (gR wc none))).at 2;have c1:wc.drew.cell? ⟨I.p,1,none⟩=some (.int .i64 σ.S):=by rw [← HSS.out];exact (HPW.out.sc.g (gdrew (gR wc none))).s1
                           have c5:wc.drew.cell? ⟨I.p,5,none⟩=some (.int .i64 σ.slot):=by rw [← HSL.out];exact (HPW.out.sc.g (gdrew (gR wc none))).s5
                           go_region_held3 (fun w'=>w'.cell? ⟨I.p,1,none⟩=some (.int .i64 σ.S)∧w'.cell? ⟨I.p,5,none⟩=some (.int .i64 σ.slot)∧w'.cell? ⟨qb,2,none⟩=some (.int .i64 s)) (go_keep)
                            (first
                              | (go_at_call 47
                                 refine (eof_calls _ _ _ (by omega) (by omega)).mono ?_;rintro e wg ⟨rfl,rfl⟩;first | rw [← HES.out] | rw [← HEN.out]))
                           all_goals
                            go_wp2_with fail
                            go_meet
                            exact ⟨rfl,HGX.out⟩
                         case rest=>
                          obtain ⟨rfl,hgg⟩:=hcut;replace HPW:=lh (HPW.out.g hgg);replace HB14:=lh (HB14.out.g hgg);clear hgg;have hXp:propX σ r q s vs x=X:=by unfold propX propX0;rw [← HTP.out,← HX0.out,← HX.out]
                          have hCp:propC σ cs r q s X vs ps=PC:=by
                           rw [HPC.out,HPB.out,HSA.out,HCS1.out];unfold propC propB propA;rw [← HTP.out]
                          have hBp:boostS PC.1 r s={ PC.1 with boosted:=Bo }:=by
                           have h:(if s=PC.1.slot∧PC.1.boosted=0 then r else PC.1.boosted)=Bo:=by rw [HKP.out.1,HKP.out.2.1,← HBO.out]
                           unfold boostS;rw [h]
                          have hbdp:LedBd (propX σ r q s vs x):=by rw [hXp];exact HBD.out
                          have hrdp:Raised (boostS (propC σ cs r q s (propX σ r q s vs x) vs ps).1 r s) (propC σ cs r q s (propX σ r q s vs x) vs ps).2 (propX σ r q s vs x).j.ce (propX σ r q s vs x).j.cr (propX σ r q s vs x).j.fe (propX σ r q s vs x).j.fr σe cse:=by
                           rw [hXp,hCp,hBp];exact HRD.out
                          have hend : ∀ σ' cs',PropEnd σ r s X σe cse σ' cs'→Propd σ cs r q s vs ps 0 σ' cs':=fun σ' cs' h=>
                           .inr (.inr (.inr (.inr ⟨hss,HR0.out,HGONE.out,HT0.out,rfl,x,σe,cse,HL.out,hbdp,hrdp,by rw [hXp];exact h⟩)))
                          have HEND:=lh hend;clear hXp hCp hBp hbdp hrdp hend;by_cases hE:Es < En
                          ·rw [decide_eq_true hE];have j6:wc.cell? ⟨q14,6,none⟩=some (.int .i64 P.ce):=HB14.out.at 6;have j7:wc.cell? ⟨q14,7,none⟩=some (.int .u64 P.cr):=HB14.out.at 7;have j8:wc.cell? ⟨q14,8,none⟩=some (.int .i64 P.fe):=HB14.out.at 8;have j9:wc.cell? ⟨q14,9,none⟩=some (.int .u64 P.fr):=HB14.out.at 9;have HEE:Hid (eOf s σ.S < eOf σ.slot σ.S):=lh (by rw [← HES.out,← HEN.out];exact hE);clear hE;go_wp2_with fail
                           refine (raise_calls HPW.out.sc HIE.out.wf (HIE.out.cnt.mono (by omega)) (sortUpTo_any _ (by have:=HIE.out.wf.n;omega)) HPBD.out.cr HPBD.out.fr (by omega)).mono ?_;rintro e w12 ⟨rfl,I3,σf,csf,hrd,h1,h2⟩;obtain ⟨hif,z1,z2,z3,z4,z5,hcf⟩:=HIE.out.raised hrd HPBD.out.c0 HPBD.out.c1 HPBD.out.cr HPBD.out.f0 HPBD.out.f1;have HFI:=lh (And.intro hrd (And.intro h1 (HPW.out.st.trans h2)));have hcf2:csf.length≤60000:=by omega
                           have HIF:=lh (And.intro hif hcf2);clear hif hcf hcf2 z1 z2 z3 z4 z5;clear j6 j7 j8 j9 hrd h1 h2 HPW HB14;go_wp2_with fail
                           go_ret;refine ⟨0,rfl,I3,σf,csf,HEND.out _ _ ?_,HFI.out.2.1,HFI.out.2.2,HIF.out.1,HIF.out.2⟩;unfold PropEnd;rw [if_pos HEE.out,← HP.out];exact HFI.out.1
                          ·rw [decide_eq_false hE];have HEE:Hid (¬ eOf s σ.S < eOf σ.slot σ.S):=lh (by rw [← HES.out,← HEN.out];exact hE);clear hE;go_wp2_with fail
                           go_ret;refine ⟨0,rfl,_,σe,cse,HEND.out _ _ ?_,HPW.out.sc,HPW.out.st,HIE.out,by omega⟩;unfold PropEnd;rw [if_neg (by have h:=HEE.out;omega)];exact ⟨rfl,rfl⟩
end
end Go.Proofs.YtndfpmboanohcaaGreatDoor
