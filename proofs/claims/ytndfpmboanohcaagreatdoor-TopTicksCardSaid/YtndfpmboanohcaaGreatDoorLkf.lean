/- Contract of (*link.Engine).Feed at any event. -/
import Derived.Test.YtndfpmboanohcaaGreatDoorLkpToLkr
namespace Go.Proofs.YtndfpmboanohcaaGreatDoor
set_option maxRecDepth 100000
open Go.RowKit Go.Maps SkipPure
theorem info_lp:(Tryz.prog.info? 151).map (fun i=>(i.zero,i.size,i.bytes))=some (some (.pointer none),1,8):=by kernel_rfl
theorem elem_lp : ∃ i,Elem Tryz.prog 151 i (.pointer none) 1 8:=info_parts info_lp
theorem lstepC_b (bs:List Int) (t:Lk) (c:Cg):(lstepC bs t c).b=t.b:=by
 unfold lstepC;split
 ·rfl
 ·split
  ·rw [(upF_same _ _ _ _).2.2.2];split
   ·rw [(upF_same _ _ _ _).2.2.2]
   ·rfl
  ·split
   ·split
    ·rw [(upF_same _ _ _ _).2.2.2]
    ·rfl
   ·rfl
theorem lfold_b (bs:List Int) : ∀ (cs:List Cg) (t:Lk),(cs.foldl (lstepC bs) t).b=t.b
 | [],_=>rfl
 | c :: cs,t=>by rw [List.foldl_cons,lfold_b bs cs,lstepC_b]
theorem lnx_b (bs:List Int) (t:Lk) (cs:List Cg) (j:Nat):(lnx bs t cs j).b=t.b:=lfold_b bs _ t
structure LFW (w0 w:World) (I:Ids) (c2:Value) (t2:Nat) (J J':LIds) (σ:St) (t:Lk) (M:Nat) (cs:List Cg):Prop where
 st:StoreAt w { I with ch:=c2,tb:=t2,ex:=LOwn J' } σ
 la:LkAt w J' I.p t
 q:J'.q=J.q
 row:w.ownsRow w0.heap.size 178 6 c2 cs.length (cgRow cs)
 chg:Chg (fun i=>Mut I i∨LOwn J i) w0 w
 new : ∀ i,LOwn J' i→LOwn J i∨w0.heap.size≤i
 rw_ : ∀ k,c2.ownBlock=some k→¬ LOwn J' k
 lb:LB t M
section
variable {w0 w w':World} {I:Ids} {c2:Value} {t2:Nat} {J J' J'':LIds} {σ:St} {t t':Lk} {M M':Nat} {cs:List Cg}
theorem LFW.g (h:LFW w0 w I c2 t2 J J' σ t M cs) (hg:w.grownBy w' none):LFW w0 w' I c2 t2 J J' σ t M cs:=
 ⟨h.st.g hg,h.la.g hg,h.q,ownsRow_g h.row hg,h.chg.trans (Chg.of hg),h.new,h.rw_,h.lb⟩
theorem LFW.mono (h:LFW w0 w I c2 t2 J J' σ t M cs) (hm:M≤M'):LFW w0 w I c2 t2 J J' σ t M' cs:=⟨h.st,h.la,h.q,h.row,h.chg,h.new,h.rw_,h.lb.mono hm⟩
theorem LFW.turn (h:LFW w0 w I c2 t2 J J' σ t M cs) (hN0:0 < σ.bs.length) (hl:LkAt w' J'' I.p t') (hq:J''.q=J'.q) (hc:Chg (LOwn J') w w') (hn : ∀ i,LOwn J'' i→LOwn J' i∨w.heap.size≤i) (hb:LB t' M'):LFW w0 w' I c2 t2 J J'' σ t' M' cs:=by
 have hst:=h.st.reex hN0 hc (LOwn J'') hn (fun i hi=>hl.olt hi);refine ⟨hst,hl,hq.trans h.q,rowChg h.row hc (fun k hk=>h.rw_ k hk),h.chg.then hc (fun i hi=>(h.new i hi).imp .inr id),fun i hi=>?_,fun k hk hi=>?_,hb⟩
 ·rcases hn i hi with h1 | h1
  ·exact h.new i h1
  ·right;have:=h.chg.size;omega
 ·rcases hn k hi with h1 | h1
  ·exact h.rw_ k hk h1
  ·have:=(h.row.lt k hk).2;omega
theorem LFW.c0 (h:LFW w0 w I c2 t2 J J' σ t M cs):w.cell? ⟨J.q,0,none⟩=some (.pointer (some ⟨I.p,0,none⟩)):=by rw [← h.q];exact h.la.blk.at 0
theorem LFW.c1 (h:LFW w0 w I c2 t2 J J' σ t M cs):w.cell? ⟨J.q,1,none⟩=some (.map (some J'.mb)):=by rw [← h.q];exact h.la.blk.at 1
theorem LkAt.lookp {p:Nat} {r:Int} {a:Nat} (h:LkAt w J p t) (ha:J.ad r=some a) (hr:inU r):(Instr.lookup 114 (.map (some J.mb)) (.int .u64 r) false).run Tryz.prog w=.ok (.pointer (some ⟨a,0,none⟩)) w:=by
 have:=h.look hr;rw [lptr,ha] at this;exact this
theorem LFW.up (h:LFW w0 w I c2 t2 J J' σ t M cs) (hN0:0 < σ.bs.length) {r g k:Int} (hl:LkAt w' J' I.p (upF t r g k)) (hc:Chg J'.lok w w'):LFW w0 w' I c2 t2 J J' σ (upF t r g k) M cs:=
 h.turn hN0 hl rfl (hc.mono (fun _ hi=>.inr (.inr hi))) (fun _ hi=>.inl hi) (h.lb.up r g k)
end
section
variable {w0:World} {I:Ids} {σ:St} {J:LIds} {t:Lk} {N:Nat}
set_option maxHeartbeats 16000000 in
theorem lfeed_calls (h:StoreAt w0 I σ) (hI:Inv σ N) (hN:N < 1000) (ha:LkAt w0 J I.p t) (hx:I.ex=LOwn J) (hbd:LB t N) (htb:inU t.b) {e:Ev} (hB:EvB e) (hok : ∀ E σ' cs',Applied σ e E σ' cs'→LOks σ'.bs t cs') {cells:Array Value} (he:EvAt w0 (fun i=>i < w0.heap.size∧¬ Mut I i) e cells) :
  Calls Tryz.prog 167 #[.pointer (some ⟨J.q,0,none⟩),.agg cells] w0 fun z w'=>∃ E c2 t2 J' σ' cs',z=.returned (errV E)∧Applied σ e E σ' cs'∧StoreAt w' { I with ch:=c2,tb:=t2,ex:=LOwn J' } σ' ∧
   LkAt w' J' I.p (lboost (boostF σ'.bs σ'.S σ'.B) σ'.boosted (cs'.foldl (lstepC σ'.bs) t))∧J'.q=J.q∧Inv σ' (N+1)∧LB (cs'.foldl (lstepC σ'.bs) t) (N+1)∧Adds σ σ' cs'∧Chg (fun i=>Mut I i∨LOwn J i) w0 w'∧(∀ i,LOwn J' i→LOwn J i∨w0.heap.size≤i)∧(t2=I.tb∨w0.heap.size≤t2):=by
 obtain ⟨va,vc,pa,pc,vw,vwc,aw,ac,bw,bc,rfl,k1,k2,k3,k4,k5,k6,k7,k8⟩:=he;have hev:EvAt w0 (fun i=>i < w0.heap.size∧¬ Mut I i) e (evC e va vc pa pc vw vwc aw ac bw bc):=⟨va,vc,pa,pc,vw,vwc,aw,ac,bw,bc,rfl,k1,k2,k3,k4,k5,k6,k7,k8⟩;have HEV:=lh hev;have HH:=lh h;have HA:=lh ha;have hpl:=h.blk.lt;have hql:=ha.blk.lt;have HX:=lh hx;have HI:=lh hI;have HBD:=lh hbd;have HB:=lh hB;have HOK:=lh hok;clear hx hI hbd hB hok;clear h ha hev k1 k2 k3 k4 k5 k6 k7 k8;go_enter Tryz.func167,Tryz.ntmps167
 go_upto_region 1 with (fail)
 refine nmC1 ?_;intro W b0 hz hg;obtain ⟨qb,hq_qb⟩ : ∃ q,q=w0.heap.size:=⟨_,rfl⟩;rw [← hq_qb] at b0 hz hpl hql ⊢;have HQ_qb:=lh hq_qb;clear hq_qb;change Blk W qb (evC e va vc pa pc vw vwc aw ac bw bc) 68 at b0;have HB0:=lh b0;have HG:=lh hg;clear b0 hg;replace HH:=lh (HH.out.g HG.out);replace HA:=lh (HA.out.g HG.out);replace HEV:=lh (HEV.out.g HG.out);have TK:=lh fun w (hSw:(fun wr=>StoreAt wr I σ∧LkAt wr J I.p t∧Blk wr qb (evC e va vc pa pc vw vwc aw ac bw bc) 68∧EvAt wr (fun i=>i < qb∧¬ Mut I i) e (evC e va vc pa pc vw vwc aw ac bw bc)) w)=>show w.cell? ⟨J.q,0,none⟩=some (.pointer (some ⟨I.p,0,none⟩)) from hSw.2.1.blk.at 0
 refine wp_region_late (fun wr=>StoreAt wr I σ∧LkAt wr J I.p t∧Blk wr qb (evC e va vc pa pc vw vwc aw ac bw bc) 68∧EvAt wr (fun i=>i < qb∧¬ Mut I i) e (evC e va vc pa pc vw vwc aw ac bw bc)) [5] (by as_aux_lemma=>kernel_rfl) ?_;have hgd:=gdrew (gR W none);have hS:(fun wr=>StoreAt wr I σ∧LkAt wr J I.p t∧Blk wr qb (evC e va vc pa pc vw vwc aw ac bw bc) 68∧EvAt wr (fun i=>i < qb∧¬ Mut I i) e (evC e va vc pa pc vw vwc aw ac bw bc)) W.drew:=
  ⟨HH.out.g hgd,HA.out.g hgd,HB0.out.g hgd,(HEV.out.g hgd).chg (S:=fun _=>False) (Chg.refl _ _) (fun _ _ h=>h) (fun i hi=>⟨by rw [HQ_qb.out];exact hi.1,hi.2⟩)⟩
 replace HG:=lh (g2 HG.out hgd);clear hgd HH HA HB0 HEV;generalize W.drew=w2 at HG hS ⊢;refine pM 0 ?_;simp only [zz];refine pM 1 ?_;simp only [zz];refine pM 2 ?_;simp only [zz];refine tM 3 ?_;simp only [zz];refine wM 4 ?_ ?_ hS ?_;rotate_left;· intro w hSw;(refine exec_load_blk (ty:=68) (off:=0) (hSw.2.2.1) ?_ _ Tryz.underlying68 rfl (evC e va vc pa pc vw vwc aw ac bw bc) ?_ ?_ <;> first | exact ⟨_,rfl,rfl⟩ | rfl | (as_aux_lemma=>kernel_rfl))
 simp only [zz];refine rM 5 fun K hK=>?_;go_simp;have hqb2:=hS.2.2.1.lt;refine (apply_calls hS.1 HI.out hN HB.out (hS.2.2.2.chg (S:=fun _=>False) (Chg.refl _ _) (fun _ _ h=>h) (fun i hi=>⟨by omega,hi.2⟩))).mono ?_;rintro e2 w3 ⟨E,I2,σ2,cs2,rfl,hapd⟩;have ha3:=hS.2.1.chg hapd.chg (fun i hi=>hS.1.exd i (by rw [HX.out];exact hi));have hids:=hapd.ids;obtain ⟨c2,hc2⟩ : ∃ c2,c2=I2.ch:=⟨_,rfl⟩;obtain ⟨t2,ht2⟩ : ∃ t2,t2=I2.tb:=⟨_,rfl⟩;rw [← hc2,← ht2] at hids;clear hc2 ht2;subst hids;have hads:=hapd.ap.adds HI.out.wf HB.out;have hcu:=hapd.ap.u HI.out.wf hapd.inv.wf HB.out;have hlo:=HOK.out E σ2 cs2 hapd.ap;have hol : ∀ i,LOwn J i→i < w2.heap.size:=fun i hi=>hS.2.1.olt hi;have hrow:=own_base hapd.row HG.out.size;have hcc:Chg (fun i=>Mut I i∨LOwn J i) w0 w3:=(Chg.of HG.out).trans (hapd.chg.mono (fun i hi=>.inl hi));have hfw:LFW w0 w3 I c2 t2 J J σ2 t (N+min 0 1) cs2:=⟨by
  have h:=hapd.st;rw [show LOwn J=I.ex from HX.out.symm];exact h,ha3,rfl,hrow,hcc,fun i hi=>.inl hi,fun k hk hi=>by have:=hol k hi;have:=(hapd.row.lt k hk).1;omega,HBD.out.mono (by omega)⟩
 have hmay:MayBe σ2.bs σ2.S σ2.B:=hapd.inv.wf.may;have htb2:t2=I.tb∨w0.heap.size≤t2:=hapd.tbn.imp id (fun h=>Nat.le_trans HG.out.size h);have HAP:=lh (And.intro hapd.ap (And.intro hapd.inv htb2));have hlen:=hapd.len;have hbo:=hapd.inv.wf.bo;obtain ⟨sa,sc,rfl,hsa⟩:=own_slice hrow;clear HG hapd ha3 hrow hcc hqb2 htb2 HBD hol;have HF:=lh hfw;have HADS:=lh hads;have HM2:=lh hmay;have HSA:=lh hsa;have HCU:=lh hcu;have HLO:=lh hlo;have HBO:=lh hbo;clear hfw hads hmay hsa hcu hlo hbo;obtain ⟨EV,hEV⟩ : ∃ EV,EV=errV E:=⟨_,rfl⟩;rw [← hEV];have HEVV:=lh hEV;clear hEV;refine hK.out _ _ (.inr (by decide)) ?_;clear hK K;refine pM 6 ?_;simp only [zz];refine pM 7 ?_;simp only [zz];refine pM 8 ?_;simp only [zz];refine pM 9 ?_;simp only [zz];refine pM 10 ?_;simp only [zz];refine dM ?_ _;go_wp2_with fail
 go_loopw [23] (fun v23 wr=>∃ (j:Nat),v23=.int .i64 (j:Int)∧j≤cs2.length∧∃ J',LFW w0 wr I (.slice sa cs2.length sc) t2 J J' σ2 (lnx σ2.bs t cs2 j) (N+min j 1) cs2) (fun v23 _=>cs2.length - (intOf v23).toNat)
 case atStart=>exact ⟨0,rfl,by omega,_,HF.out⟩
 case round=>
  obtain ⟨j,rfl,hj,J',hfw⟩:=hrel;clear HF;have hN0:0 < σ2.bs.length:=by have:=HM2.out.l1;omega
  by_cases hlt:j < cs2.length
  ·obtain ⟨x,hx⟩ : ∃ x,cs2[j]? = some x:=⟨_,List.getElem?_eq_getElem hlt⟩;have hnx:=lnx_succ (bs:=σ2.bs) (t:=t) hx;have hlc:=HLO.out.at hx;obtain ⟨γ,hγ⟩ : ∃ γ,γ=lnx σ2.bs t cs2 j:=⟨_,rfl⟩;rw [← hγ] at hnx hfw hlc;clear hγ;obtain ⟨gc,hgc⟩:=HSA.out (by omega);subst hgc;obtain ⟨d0,d1,d2,d3,d4,d5⟩:=cg_cells hfw.row hx;obtain ⟨hk,hw0,hw1⟩:=HADS.out.who x (List.mem_of_getElem? hx);obtain ⟨hur,huq,huf⟩:=HCU.out x (List.mem_of_getElem? hx);have hj0:x.kind=0→j=0:=fun hk=>by
    rcases Nat.eq_zero_or_pos j with h | h
    ·exact h
    ·exact absurd hk (HADS.out.tail j x hx h)
   obtain ⟨k,r,q,wh,fm,hd⟩:=x;simp only at d0 d1 d2 d3 d4 d5 hk hw0 hw1 hj0 hur huq huf;unfold LOkC at hlc;simp only at hlc;have hpl3:=hfw.st.blk.lt;have hol3 : ∀ i,LOwn J' i→i < wr.heap.size:=fun i hi=>hfw.la.olt hi;simp only at hpl3;have HF:=lh hfw;have HNX:=lh hnx;have HJ0:=lh hj0;have HLC:=lh hlc;clear hfw hnx hj0 hlc;clear hpl hql hx;go_upto_region 5 with (fail)
   clear d0 d1 d2 d3 d4 d5;refine nmC1 ?_;intro W4 b4 hz4 hg4;obtain ⟨qc,hq_qc⟩ : ∃ q,q=wr.heap.size:=⟨_,rfl⟩;rw [← hq_qc] at b4 hz4 hpl3 hol3 ⊢;have HQ_qc:=lh hq_qc;clear hq_qc;have HNL:=lh (fun (hi:J'.lok qc)=>Nat.lt_irrefl _ (hol3 qc (.inr (.inr hi))));have HQC:=lh b4;replace HF:=lh (HF.out.g hg4);clear b4 hg4 hz4;have hwf:(Lit.int .i64 wh).wf=true:=by simp [Lit.wf,IntKind.min,IntKind.max,IntKind.signed,IntKind.bits];omega
   have HWF:=lh hwf;clear hwf hw0 hw1;have TK:=lh fun w (hSw:(fun wr=>LFW w0 wr I (.slice (some ⟨gc,0,none⟩) cs2.length sc) t2 J J' σ2 γ (N+min j 1) cs2∧Blk wr qc #[.int .i64 k,.int .u64 r,.int .u64 q,.int .i64 wh,.int .u64 fm,.bool hd] 178) w)=>And.intro hSw.1.c0 <| And.intro hSw.1.st.s0 <| And.intro hSw.1.st.s1 <| And.intro hSw.1.st.s2 <| show w.cell? ⟨qc,3,none⟩=some (.int .i64 wh) from hSw.2.at 3
   refine wp_region_late (fun wr=>LFW w0 wr I (.slice (some ⟨gc,0,none⟩) cs2.length sc) t2 J J' σ2 γ (N+min j 1) cs2∧Blk wr qc #[.int .i64 k,.int .u64 r,.int .u64 q,.int .i64 wh,.int .u64 fm,.bool hd] 178) [] (by as_aux_lemma=>kernel_rfl) ?_;have hgd:=gdrew (gR W4 none);have hS:(fun wr=>LFW w0 wr I (.slice (some ⟨gc,0,none⟩) cs2.length sc) t2 J J' σ2 γ (N+min j 1) cs2∧Blk wr qc #[.int .i64 k,.int .u64 r,.int .u64 q,.int .i64 wh,.int .u64 fm,.bool hd] 178) W4.drew:=⟨HF.out.g hgd,HQC.out.g hgd⟩;clear hgd HF HQC;generalize W4.drew=w5 at hS ⊢;refine pM 0 ?_;simp only [zz];refine pM 1 ?_;simp only [zz];refine pM 2 ?_;simp only [zz];refine pM 7 ?_;simp only [zz];refine tM 3 ?_;simp only [zz];refine pM 4 ?_;simp only [zz];refine pM 5 ?_;simp only [zz];refine tM 6 ?_;simp only [zz];refine tM 8 ?_;simp only [zz];refine rM 9 fun K hK=>?_;go_simp;refine nmA1 ?_;intro w6 b6 hg6;generalize w5.heap.size=gm at b6 ⊢;have HB6:=lh b6;have hS2:(fun wr=>_) w6:=And.intro (hS.1.g hg6) (hS.2.g hg6);clear hg6 b6;refine hK.out _ _ (.inl (fun _=>hS2)) ?_;replace hS:=hS2;clear hK K hS2;try simp only [zz]
   refine rM 10 fun K hK=>?_;go_simp;refine (sum_calls (ks:=[wh]) hS.1.st.bal rfl (Ints.one HB6.out) rfl HM2.out.bal (by simp) (wf_one wh HWF.out)).mono ?_;rintro e w7 ⟨rfl,hg7⟩;have hS2:(fun wr=>_) w7:=And.intro (hS.1.g hg7) (hS.2.g hg7);have hnx:=HNX.out;unfold lstepC at hnx;simp only at hnx;generalize sumF σ2.bs [wh]=sm at hnx ⊢;replace HNX:=lh hnx;clear hg7 HB6 hnx;refine hK.out _ _ (.inl (fun _=>hS2)) ?_;replace hS:=hS2;clear hK K hS2;try simp only [zz]
   refine pM 11 ?_;simp only [zz];refine dM ?_ _;have hfw:=hS.1;have hqc:=hS.2;clear hS;have HF:=lh hfw;have HQC:=lh hqc;clear hfw hqc;rcases hk with rfl | rfl | rfl | rfl
   ·have hnx:=HNX.out;simp only [if_true] at hnx;replace HNX:=lh hnx;have r0:w7.cell? ⟨qc,0,none⟩=some (.int .i64 0):=HQC.out.at 0;go_upto_region 9 with (fail)
    clear r0 hnx;have HJ00:=lh (HJ0.out rfl);obtain ⟨hdq,hndr,hr0⟩:=HLC.out.1 rfl;obtain ⟨ap,hap⟩:=Option.isSome_iff_exists.1 ((HF.out.la.dom q).2 hdq);have HDQ:=lh hdq;have HNR:=lh hndr;have HR0:=lh hr0;have HAP2:=lh hap;clear hdq hndr hr0 hap;have TK:=lh fun w (hSw:(fun wr=>LFW w0 wr I (.slice (some ⟨gc,0,none⟩) cs2.length sc) t2 J J' σ2 γ (N+min j 1) cs2∧Blk wr qc #[.int .i64 0,.int .u64 r,.int .u64 q,.int .i64 wh,.int .u64 fm,.bool hd] 178) w)=>And.intro hSw.1.c1 <| And.intro (show w.cell? ⟨qc,2,none⟩=some (.int .u64 q) from hSw.2.at 2) <| hSw.1.la.lookp HAP2.out huq
    refine wp_region_late (fun wr=>LFW w0 wr I (.slice (some ⟨gc,0,none⟩) cs2.length sc) t2 J J' σ2 γ (N+min j 1) cs2∧Blk wr qc #[.int .i64 0,.int .u64 r,.int .u64 q,.int .i64 wh,.int .u64 fm,.bool hd] 178) [] (by as_aux_lemma=>kernel_rfl) ?_;have hgd:=gdrew (gR w7 none);have hS:(fun wr=>LFW w0 wr I (.slice (some ⟨gc,0,none⟩) cs2.length sc) t2 J J' σ2 γ (N+min j 1) cs2∧Blk wr qc #[.int .i64 0,.int .u64 r,.int .u64 q,.int .i64 wh,.int .u64 fm,.bool hd] 178) w7.drew:=⟨HF.out.g hgd,HQC.out.g hgd⟩;clear hgd HF HQC;generalize w7.drew=w8 at hS ⊢;refine pM 0 ?_;simp only [zz];refine pM 1 ?_;simp only [zz];refine pM 2 ?_;simp only [zz];refine pM 4 ?_;simp only [zz];refine tM 3 ?_;simp only [zz];refine tM 5 ?_;simp only [zz];refine tM 6 ?_;simp only [zz];refine pM 7 ?_;simp only [zz];refine dM ?_ _;have hfw:=hS.1;have hqc:=hS.2;clear hS;have HF:=lh hfw;have HQC:=lh hqc;clear hfw hqc;have r1:w8.cell? ⟨qc,1,none⟩=some (.int .u64 r):=HQC.out.at 1;go_upto_region 11 with (fail)
    clear r1;refine nmC1 ?_;intro W9 b9 hz9 hg9;obtain ⟨an,han⟩ : ∃ an,an=w8.heap.size:=⟨_,rfl⟩;rw [← han] at b9 hz9 ⊢;have HAN:=lh han;have HZ9:=lh hz9;have HG9:=lh hg9;have HB9:=lh b9;clear han hz9 b9;obtain ⟨_,v,n1,n2,n3⟩:=HF.out.la.node q ap HAP2.out;obtain ⟨kva,kvc,hvv,_⟩:=own_slice n2;subst hvv;obtain ⟨v,hvv⟩ : ∃ v,v=Value.slice kva (γ.kid q).length kvc:=⟨_,rfl⟩;have HVV:=lh hvv;rw [← hvv] at n1 n2 n3;clear hvv;have hv8:w8.cell? ⟨ap,2,none⟩=some v:=Blk.at n1 2;have n19:=n1.g hg9;have n29:=ownsRow_g n2 hg9;have d2:W9.cell? ⟨ap,2,none⟩=some (.slice kva (γ.kid q).length kvc):=by rw [← HVV.out];exact Blk.at n19 2
    have f2:=Blk.fr n19 2;have hvap:v.ownBlock≠some ap:=HF.out.la.notrow HAP2.out n2;have hkn:=HF.out.lb.kn q;have hmin:N+min j 1≤1001:=by omega
    obtain ⟨i0,hi0⟩:=elem_lp;have HI0:=lh hi0;clear hi0;have HN19:=lh n19;have HN29:=lh n29;have HVAP:=lh hvap;clear n19 n29 n1 hvap;go_upto_region 12 with (at_builtin;refine wpList_append_lies _ rfl _ _ 152 rfl 0 151 i0 (.pointer none) 1 8 Tryz.underlying152 HI0.out.1 HI0.out.2.1 HI0.out.2.2.1 HI0.out.2.2.2 rfl (by decide) (.slice kva (γ.kid q).length kvc) (γ.kid q).length (lrow J' γ q) rfl (by have:=HN29.out.alloc (.cells #[.pointer (some ⟨an,0,none⟩)] 151);rw [HVV.out] at this;exact this) ⟨W9.heap.size,0,none⟩ 1 1 [.pointer (some ⟨an,0,none⟩)] rfl rfl (World.news_of_block (MapKept.heap_alloc _ _).1) (by simp [Value.oneCell']) (by decide) (by unfold maxLen;omega) (by omega) (Nat.zero_le _) _ rfl ?_;intro g1 c1 wA hown hgA hatA hltA;have HOWN:=lh hown;have HGA:=lh hgA;have HATA:=lh hatA;have nA:=(Blk.g HN19.out (World.grownBy_alloc W9 _ none)).kept hgA (by rw [← HVV.out];exact HVAP.out);have dA:wA.cell? ⟨ap,2,none⟩=some v:=Blk.at nA 2;have fA:=Blk.fr nA 2;have HNA:=lh nA;clear hown hgA hatA hltA nA d2 f2)
    obtain ⟨v',hv'⟩ : ∃ v',v'=Value.slice (some ⟨g1,0,none⟩) ((γ.kid q).length+1) c1:=⟨_,rfl⟩;rw [← hv'];have hown:=HOWN.out;have hgA:=HGA.out;have hatA:=HATA.out;rw [← hv'] at hown;rw [← HVV.out] at hgA hatA;have hz8:w8.heap.size≤an:=Nat.le_of_eq HAN.out.symm;have hgal:=World.grownBy_alloc W9 (Obj.cells #[Value.pointer (some ⟨an,0,none⟩)] 151) none;have hgx:=gset wA ap 2 v';have hvl : ∀ b,v.ownBlock=some b→b < w8.heap.size:=fun b hb=>(n2.lt b hb).2;have hapl:=(HF.out.la.lokb ap (HF.out.la.node q ap HAP2.out).1);have hcA:Chg (fun i=>v.ownBlock=some i) (W9.alloc (Obj.cells #[Value.pointer (some ⟨an,0,none⟩)] 151)) wA:=⟨hgA.os,hgA.tape,hgA.output,hgA.size,fun i hi hn=>hgA.block i hi (fun e=>hn e.symm)⟩;have hc0:Chg (fun i=>i=ap∨v.ownBlock=some i) w8 (wA.setCell ⟨ap,2,none⟩ v'):=(((Chg.of HG9.out).trans (Chg.of hgal)).trans (hcA.mono (fun i hi=>.inr hi))).trans (Chg.one hgx (.inl rfl));have hnan:Blk (wA.setCell ⟨ap,2,none⟩ v') an #[.int .u64 r,.pointer (some ⟨ap,0,none⟩),.slice none 0 0,.int .u64 0] 154:=
     ((hcA.blk (q:=an) (HB9.out.g hgal) (fun e=>by have:=hvl an e;omega))).kept hgx (fun e=>by have:=Option.some.inj e;have:=hapl.1;omega)
    have hnap:Blk (wA.setCell ⟨ap,2,none⟩ v') ap #[.int .u64 q,lptr (J'.ad (γ.par q)),v',.int .u64 (γ.wt q)] 154:=by
     have h1:=Blk.set HNA.out 2 v'
     simpa [lcell] using h1
    have hrow:(wA.setCell ⟨ap,2,none⟩ v').ownsRow 0 151 1 v' ((γ.kid q).length+1) (lrow J' γ q++[.pointer (some ⟨an,0,none⟩)]):=rowChg hown (Chg.one (S:=fun i=>i=ap) hgx rfl) (fun k hk e=>by
     obtain ⟨cur,hcur⟩:=ownsRow_ty hown hk;have h1:=HNA.out;unfold Blk at h1;rw [e,h1] at hcur;cases hcur)
    have hvb : ∀ b,v'.ownBlock=some b→v.ownBlock=some b∨w8.heap.size≤b:=fun b hb=>by
     rw [hv'] at hb;have hb2:g1=b:=by simpa [Value.ownBlock] using hb
     rcases hatA with h1 | h1
     ·left;rw [h1,hb2]
     ·right;have:=hgal.size;have:=HG9.out.size;omega
    have hqn:¬ (J'.q=ap∨v.ownBlock=some J'.q):=fun e=>e.elim (fun e=>hapl.2.1 e.symm) (fun e=>(HF.out.la.lokb _ (n3.1 _ e)).2.1 rfl);have hmn:¬ (J'.mb=ap∨v.ownBlock=some J'.mb):=fun e=>e.elim (fun e=>hapl.2.2 e.symm) (fun e=>(HF.out.la.lokb _ (n3.1 _ e)).2.2 rfl);have hqcn:¬ (qc=ap∨v.ownBlock=some qc):=fun e=>e.elim (fun e=>HNL.out (e ▸ (HF.out.la.node q ap HAP2.out).1)) (fun e=>HNL.out (n3.1 _ e));have hx1:(wA.setCell ⟨ap,2,none⟩ v').cell? ⟨J.q,1,none⟩=some (.map (some J'.mb)):=by rw [← HF.out.q];exact (hc0.blk HF.out.la.blk hqn).at 1
    have hxq:=hc0.blk (q:=qc) HQC.out hqcn;obtain ⟨n,js,m1,m2⟩:=HF.out.la.map;have hm1:=hc0.raw m1 hmn;have hnk:n≤1001:=by
     obtain ⟨ks,hk1,hk2⟩:=HF.out.lb.wf.ks;have:=nodup_sub m2.1 (fun k hk=>hk2 k ((HF.out.la.dom k).1 (m2.2.2 k hk)));omega
    have HALL:=lh (And.intro hc0 (And.intro hnan (And.intro hnap (And.intro hrow (And.intro hvb (And.intro hx1 (And.intro hxq (And.intro m2 hm1))))))));have HV8:=lh hv8;have HZ8:=lh hz8;have HN3:=lh (And.intro n3 hapl);clear hown hgA hatA hgal hgx hvl hcA hc0 hnan hnap hrow hvb hqn hmn hqcn hx1 hxq m1 m2 hm1 hv8 hz8 n2 n3 hapl dA fA HNA HOWN HGA HATA HB9 HN19 HN29 hv';generalize wA.setCell ⟨ap,2,none⟩ v'=wX at HALL ⊢;have TK:=lh fun w (hSw:(fun (wr:World)=>wX.grownBy wr none) w)=>And.intro (cell_g HALL.out.2.2.2.2.2.1 hSw) <| show w.cell? ⟨qc,1,none⟩=some (.int .u64 r) from (HALL.out.2.2.2.2.2.2.1.g hSw).at 1
    refine wp_region_late (fun (wr:World)=>wX.grownBy wr none) [7] (by as_aux_lemma=>kernel_rfl) ?_;have hS:(fun (wr:World)=>wX.grownBy wr none) wX.drew:=gdrew (gR wX none);generalize wX.drew=wY at hS ⊢;refine pM 0 ?_;simp only [zz];refine pM 1 ?_;simp only [zz];refine pM 2 ?_;simp only [zz];refine pM 4 ?_;simp only [zz];refine pM 6 ?_;simp only [zz];refine tM 3 ?_;simp only [zz];refine tM 5 ?_;simp only [zz];refine rM 7 fun K hK=>?_;refine wp_store_any (HALL.out.2.2.2.2.2.2.2.2.kept hS (by simp)) _ _ _ 114 (.inl rfl) Tryz.underlying27 Tryz.underlying114 (by unfold maxLen;omega) hur (.pointer (some ⟨an,0,none⟩)) (by rfl) (by rfl) (by rfl) ?_;intro wZ z1 z2;have hXZ:Chg (fun i=>i=J'.mb) wX wZ:=(Chg.of hS).trans (Chg.one z2 rfl);have HZ:=lh (And.intro z1 hXZ);clear z1 z2 hXZ;refine hK.out _ _ (.inr (by decide)) ?_;clear hK K;refine dM ?_ _;obtain ⟨hc0,hnan,hnap,hrow,hvb,hx1,hxq,m2,hm1⟩:=HALL.out;obtain ⟨z1,hXZ⟩:=HZ.out;obtain ⟨n3,hapl⟩:=HN3.out;have hmb:=HF.out.la.olt (.inr (.inl rfl));have hzz:=HZ8.out;have hc:Chg (fun i=>i=ap∨i=J'.mb∨v.ownBlock=some i) w8 wZ:=(hc0.mono (fun i hi=>hi.elim .inl (fun h=>.inr (.inr h)))).trans (hXZ.mono (fun i hi=>.inr (.inl hi)));have hadr:(lmap J'.ad r).isSome=false:=by
     unfold lmap;cases h0:J'.ad r with
     | none=>rfl
     | some c=>exact absurd ((HF.out.la.dom r).1 (by rw [h0];rfl)) HNR.out
    rw [if_neg (by rw [hadr];simp)] at z1;have hla:=HF.out.la.added HF.out.lb.wf HAP2.out HNR.out hur HR0.out HV8.out hzz hc (hXZ.blk (q:=an) hnan (by omega)) (hXZ.blk (q:=ap) hnap hapl.2.2) (rowChg hrow hXZ (fun k hk e=>by
     rcases hvb k hk with h1 | h1
     ·exact (HF.out.la.lokb k (n3.1 k h1)).2.2 e
     ·omega)) hvb ⟨n,js,z1,m2.1,m2.2.1,m2.2.2⟩
    have hfw:=HF.out.turn hN0 hla rfl (hc.mono (fun i hi=>by
     rcases hi with hi | hi | hi
     ·rw [hi];exact .inr (.inr (HF.out.la.node q ap HAP2.out).1)
     ·exact .inr (.inl hi)
     ·exact .inr (.inr (n3.1 i hi)))) (fun i hi=>by
     rcases hi with hi | hi | hi | hi
     ·exact .inl (.inl hi)
     ·exact .inl (.inr (.inl hi))
     ·exact .inl (.inr (.inr hi))
     ·exact .inr hi.1) (HF.out.lb.add HDQ.out HNR.out HR0.out)
    clear hc0 hnan hnap hrow hvb hx1 hxq m2 hm1 z1 hXZ n3 hapl hmb hzz hc hadr hla HF;have hf2:=hfw;rw [← HNX.out] at hf2;have HF2:=lh hf2;clear hf2 hfw;go_wp2_with fail
    exact ⟨⟨j+1,by simp,by omega,_,HF2.out.mono (by have:=HJ00.out;omega)⟩,by simp [intOf];omega⟩
   ·have hnx:=HNX.out;rw [if_neg (by decide),if_pos rfl] at hnx;have r0:w7.cell? ⟨qc,0,none⟩=some (.int .i64 1):=HQC.out.at 0;have r1:w7.cell? ⟨qc,1,none⟩=some (.int .u64 r):=HQC.out.at 1;have r4:w7.cell? ⟨qc,4,none⟩=some (.int .u64 fm):=HQC.out.at 4;have r5:w7.cell? ⟨qc,5,none⟩=some (.bool hd):=HQC.out.at 5;cases hd
    ·rw [if_neg (by simp)] at hnx;replace HNX:=lh hnx;clear hnx;go_wp2_with fail
     have hcall:=up_calls (r:=r) (g:=sm) (k:=0) HF.out.la HF.out.lb.wf (by omega) hur;rw [HF.out.q] at hcall;refine hcall.mono ?_;rintro e w8 ⟨rfl,hla,hc⟩;have hfw:=HF.out.up hN0 hla hc;have hqc:=hc.blk (q:=qc) HQC.out HNL.out;clear hla hc HF HQC r0 r1 r4 r5 hcall;have HF:=lh hfw;have HQC:=lh hqc;clear hfw hqc;have hf2:=HF.out;rw [← HNX.out] at hf2;go_wp2_with fail
     exact ⟨⟨j+1,by simp,by omega,_,hf2.mono (by omega)⟩,by simp [intOf];omega⟩
    ·rw [if_pos rfl] at hnx;replace HNX:=lh hnx;clear hnx;go_wp2_with fail
     have hcall:=up_calls (r:=fm) (g:=0) (k:=sm) HF.out.la HF.out.lb.wf (by omega) huf;rw [HF.out.q] at hcall;refine hcall.mono ?_;rintro e w8 ⟨rfl,hla,hc⟩;have hfw:=HF.out.up hN0 hla hc;have hqc:=hc.blk (q:=qc) HQC.out HNL.out;clear hla hc HF HQC r0 r1 r4 r5 hcall;have HF:=lh hfw;have HQC:=lh hqc;clear hfw hqc;have r0:w8.cell? ⟨qc,0,none⟩=some (.int .i64 1):=HQC.out.at 0;have r1:w8.cell? ⟨qc,1,none⟩=some (.int .u64 r):=HQC.out.at 1;go_wp2_with fail
     have hcall:=up_calls (r:=r) (g:=sm) (k:=0) HF.out.la HF.out.lb.wf (by omega) hur;rw [HF.out.q] at hcall;refine hcall.mono ?_;rintro e w9 ⟨rfl,hla,hc⟩;have hfw:=HF.out.up hN0 hla hc;have hqc:=hc.blk (q:=qc) HQC.out HNL.out;clear hla hc HF HQC r0 r1 hcall;have HF:=lh hfw;have HQC:=lh hqc;clear hfw hqc;have hf2:=HF.out;rw [← HNX.out] at hf2;go_wp2_with fail
     exact ⟨⟨j+1,by simp,by omega,_,hf2.mono (by omega)⟩,by simp [intOf];omega⟩
   ·have hnx:=HNX.out;rw [if_neg (by decide),if_neg (by decide),if_pos rfl] at hnx;have r0:w7.cell? ⟨qc,0,none⟩=some (.int .i64 2):=HQC.out.at 0;have r1:w7.cell? ⟨qc,1,none⟩=some (.int .u64 r):=HQC.out.at 1;have r4:w7.cell? ⟨qc,4,none⟩=some (.int .u64 fm):=HQC.out.at 4;have r5:w7.cell? ⟨qc,5,none⟩=some (.bool hd):=HQC.out.at 5;cases hd
    ·rw [if_neg (by simp)] at hnx;replace HNX:=lh hnx;clear hnx;have hf2:=HF.out;rw [← HNX.out] at hf2;go_wp2_with fail
     exact ⟨⟨j+1,by simp,by omega,_,hf2.mono (by omega)⟩,by simp [intOf];omega⟩
    ·rw [if_pos rfl] at hnx;replace HNX:=lh hnx;clear hnx;go_wp2_with fail
     have hcall:=up_calls (r:=fm) (g:=0) (k:=sm) HF.out.la HF.out.lb.wf (by omega) huf;rw [HF.out.q] at hcall;refine hcall.mono ?_;rintro e w8 ⟨rfl,hla,hc⟩;have hfw:=HF.out.up hN0 hla hc;have hqc:=hc.blk (q:=qc) HQC.out HNL.out;clear hla hc HF HQC r0 r1 r4 r5 hcall;have HF:=lh hfw;have HQC:=lh hqc;clear hfw hqc;have r0:w8.cell? ⟨qc,0,none⟩=some (.int .i64 2):=HQC.out.at 0;have hf2:=HF.out;rw [← HNX.out] at hf2;go_wp2_with fail
     exact ⟨⟨j+1,by simp,by omega,_,hf2.mono (by omega)⟩,by simp [intOf];omega⟩
   ·have hnx:=HNX.out;rw [if_neg (by decide),if_neg (by decide),if_neg (by decide)] at hnx;replace HNX:=lh hnx;clear hnx;have r0:w7.cell? ⟨qc,0,none⟩=some (.int .i64 3):=HQC.out.at 0;have r1:w7.cell? ⟨qc,1,none⟩=some (.int .u64 r):=HQC.out.at 1;go_wp2_with fail
    have hcall:=cutl_calls HF.out.la HF.out.lb.wf (by omega) (fun y=>by have:=HF.out.lb.kn y;omega) hur (HLC.out.2 trivial);rw [HF.out.q] at hcall;refine hcall.mono ?_;rintro e w8 ⟨J'',rfl,hla,hqq,hc,hn⟩;have hfw:=HF.out.turn hN0 hla (hqq.trans HF.out.q.symm) hc hn (HF.out.lb.cut (HLC.out.2 trivial));clear hla hqq hc hn HF HQC r0 r1 hcall;have HF:=lh hfw;clear hfw;have hf2:=HF.out;rw [← HNX.out] at hf2;go_wp2_with fail
    exact ⟨⟨j+1,by simp,by omega,_,hf2.mono (by omega)⟩,by simp [intOf];omega⟩
  ·have hje:j=cs2.length:=by omega
   subst hje;have HF:=lh hfw;clear hfw;go_wp2_with fail
   have hcall:=boostl_calls HF.out.st HM2.out HBO.out HF.out.la HF.out.lb.wf (by omega) (by rw [lnx_b];exact htb) (fun i hi=>hi);rw [HF.out.q] at hcall;refine hcall.mono ?_;rintro e w9 ⟨rfl,hla,hst,hc⟩;have hch:=HF.out.chg.then hc (fun i hi=>(HF.out.new i hi).imp .inr id);have hd:=HF.out.lb;rw [lnx_all] at hla hd;have HEND:=lh (And.intro hst (And.intro hla (And.intro HF.out.q (And.intro (hd.mono (show N+min cs2.length 1≤N+1 by omega)) (And.intro hch HF.out.new)))));clear hcall hla hst hc hch hd HF;go_wp2;go_ret;exact ⟨E,_,t2,J',σ2,cs2,by rw [HEVV.out];rfl,HAP.out.1,HEND.out.1,HEND.out.2.1,HEND.out.2.2.1,HAP.out.2.1,HEND.out.2.2.2.1,HADS.out,HEND.out.2.2.2.2.1,HEND.out.2.2.2.2.2,HAP.out.2.2⟩
end
end Go.Proofs.YtndfpmboanohcaaGreatDoor
