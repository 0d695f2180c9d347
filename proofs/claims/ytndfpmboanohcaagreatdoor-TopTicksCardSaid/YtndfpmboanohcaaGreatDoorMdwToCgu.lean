/- Words for the rows: arguments as they lie. -/
import Derived.Below
import Derived.Test.YtndfpmboanohcaaGreatDoorMkpToMak
namespace Go.Proofs.YtndfpmboanohcaaGreatDoor
set_option maxRecDepth 100000
open Go.RowKit Go.Maps SkipPure
theorem grown_lt {w w':World} (h:w.grownBy w' none):Below w.heap.size w w':=⟨h.os,h.tape,h.output,h.size,fun i hi=>h.block i hi (by simp)⟩
theorem row_num {w:World} {a:Option Addr} {len cap:Nat} {zs:List Int} (h:(a=none∧len=0∧cap=0∧zs=[])∨∃ x,a=some x∧len≤cap∧cap≤maxLen∧zs.length=cap∧(∀ i,i < zs.length→w.cell? (x.add i)=some (.int .u8 (zs.getD i 0)))∧∀ n∈zs,(Lit.int .u8 n).wf=true) :
  ∃ ns:List Int,ns.length=len∧Ints .u8 w a ns∧(∀ x∈ns,0≤x∧x < 256)∧(ns=[]∨∃ g o,a=some ⟨g,o,none⟩∧Ints .u8 w a ns∧ns.length≤cap∧cap≤9223372036854775807∧∀ x∈ns,0≤x∧x < 256):=by
 rcases h with ⟨_,rfl,_,_⟩ | ⟨x,rfl,h1,h2,h3,h4,h5⟩
 ·exact ⟨[],rfl,fun i hi=>by simp at hi,by simp,.inl rfl⟩
 ·have hl:(zs.take len).length=len:=by rw [List.length_take];omega
  have hi:Ints .u8 w (some x) (zs.take len):=fun i hi=>by
   rw [hl] at hi;refine ⟨x,rfl,?_⟩;rw [h4 i (by omega),List.getD_eq_getElem?_getD,List.getD_eq_getElem?_getD,List.getElem?_take,if_pos hi]
  have hb : ∀ y∈zs.take len,0≤y∧y < 256:=fun y hy=>by
   have h:=h5 y (List.mem_of_mem_take hy);have h6:0≤y∧y≤255:=by simpa [Lit.wf,IntKind.min,IntKind.max,IntKind.signed,IntKind.bits] using h
   omega
  refine ⟨zs.take len,hl,hi,hb,?_⟩;rcases Nat.eq_zero_or_pos len with h0 | h0
  ·left;rw [h0];simp
  ·right;obtain ⟨g,o,sp⟩:=x;have hs:sp=none:=by
    have hc:=h4 0 (by omega);have e:(⟨g,o,sp⟩:Addr).add 0=⟨g,o,sp⟩:=rfl;rw [e] at hc;unfold World.cell? at hc;cases sp with
    | none=>rfl
    | some y=>
     simp only [Option.isSome_some,if_true] at hc;split at hc <;> cases hc
   subst hs;exact ⟨g,o,rfl,hi,by omega,by unfold maxLen at h2;omega,hb⟩
section
variable {X:EngD} {kd:Int} {w0:World} {na ba:Option Addr} {nc bc:Nat} {ns bls:List Int} {s k:Int}
set_option maxHeartbeats 32000000 in
theorem ticks_calls (R:EngR X kd) (hkd:k % 4=kd) (hk:0≤k∧k < 256)
  (haw:Calls Tryz.prog 6 #[] w0 fun e w'=>e=.returned (.bool true)∧w0.grownBy w' none)
  (hE:w0.cell? ⟨0,0,none⟩=some (.iface 199 (.agg #[.pointer (some ⟨1,42,none⟩)])))
  (hn:ns=[]∨∃ g o,na=some ⟨g,o,none⟩∧Ints .u8 w0 na ns∧ns.length≤nc∧nc≤9223372036854775807∧∀ x∈ns,0≤x∧x < 256) (hb:Ints .u8 w0 ba bls) (hbb : ∀ x∈bls,0≤x∧x < 256) (hs:0≤s∧s < 256) :
  Calls Tryz.prog 5 #[.slice na ns.length nc,.slice ba bls.length bc,.int .u8 s,.int .u8 k] w0 fun e w'=>e=.returned (.bool true)∧w0.grownBy w' none:=by
 have L:=R.laws;have HAW:=lh haw;have HE:=lh hE;have HN:=lh hn;have HB:=lh hb;have HBB:=lh hbb;clear haw hE hn hb hbb;go_enter Tryz.func5,Tryz.ntmps5
 go_wp2_with fail
 refine HAW.out.mono ?_;rintro e w1 ⟨rfl,hg⟩;have HG:=lh hg;clear hg;go_wp2_with fail
 refine (config_calls (HB.out.kept HG.out) HBB.out hs).mono ?_;rintro e w2 ⟨ad,c,bs,S,rfl,hi,hb6,hmay,hg⟩;have HB6:=lh hb6;have HM:=lh hmay;clear hb6 hmay;replace HG:=lh (g2 HG.out hg);clear hg;unfold cfgV;go_upto_region 4 with (fail)
 refine nmC1 ?_;intro W b0 hz hg;have hl:w0.heap.size≤w2.heap.size:=HG.out.size;obtain ⟨q,hq_q⟩ : ∃ q,q=w2.heap.size:=⟨_,rfl⟩;rw [← hq_q] at b0 hz hl ⊢;have HQ_q:=lh hq_q;clear hq_q;replace HG:=lh (g2 HG.out hg);have HI:=lh (Ints.kept hi hg);have HB0:=lh b0;clear b0;clear hi hg hz;obtain ⟨c0,c1,c2⟩:=HB0.out.c3;go_wp2_with fail
 have hnw:ns=[]∨∃ g o,na=some ⟨g,o,none⟩∧Ints .u8 W na ns∧ns.length≤nc∧nc≤9223372036854775807∧∀ x∈ns,0≤x∧x < 256:=by
  rcases HN.out with h | ⟨g,o,h1,h2,h3⟩
  ·exact .inl h
  ·exact .inr ⟨g,o,h1,h2.kept HG.out,h3⟩
 have HN2:=lh hnw;clear hnw;refine (make_calls (c:=c) HI.out HM.out HB6.out HN2.out).mono ?_;rintro e w3 ⟨ga,ce,evs,rfl,hel,hevb,hev,hg⟩;replace HG:=lh (g2 HG.out hg);replace HI:=lh (Ints.kept HI.out hg);replace HB0:=lh (HB0.out.g hg);clear hg c0 c1 c2 HN2;have HEB:=lh hevb;have HEV:=lh hev;clear hevb hev;obtain ⟨c0,c1,c2⟩:=HB0.out.c3;have hkw:IntKind.i64.wrap (IntKind.u8.wrap (k.tmod 4))=kd:=by
  rw [← hkd,Int.tmod_eq_emod_of_nonneg hk.1];simp [IntKind.wrap,IntKind.signed,IntKind.bits];omega
 go_wp2_with fail
 refine (run_eng R (c:=c) HI.out HM.out (cell_g HE.out HG.out) HEB.out HEV.out (by omega)).mono ?_;rintro e w4 ⟨v,es,ls,q4,I4,σn,tn,rfl,hgw,htr⟩;have hlen:=htr.len;have hls:=hgw.lines;have hg:=hgw.gr;replace HG:=lh (g2 HG.out hg);replace HI:=lh (Ints.kept HI.out hg);replace HB0:=lh (HB0.out.g hg);have hevw:=HEV.out;have HEV3:=HEV;have HG3:=lh hg;clear hgw hevw hg c0 c1 c2;obtain ⟨va,vc,rfl,hva⟩:=id hls;have HLS:=lh hls;have HTR:=lh htr;have HVA:=lh hva;clear hls htr hva;obtain ⟨c0,c1,c2⟩:=HB0.out.c3;have hsz3:=HG3.out.size;go_wp2_with fail
 refine (R.of (bs:=bs) (c:=c) HI.out HM.out).mono ?_;rintro e w5 ⟨qe,I,rfl,hen,hg,hfr⟩;obtain ⟨p0,hp0⟩ : ∃ p0,p0=I.p:=⟨_,rfl⟩;rw [← hp0];have hsz4:=hg.size;have hxw:XW X w4 w5 qe p0 (st0 bs S 40) X.t0 1:=⟨⟨I,X.t0,hen,L.eqr _ _,hp0.symm,hfr⟩,hg⟩;have HXW:=lh hxw;clear hxw hp0 hen hg hfr c0 c1 c2;have HLEN:=lh hlen;clear hlen;go_upto_region 10 with (fail)
 go_wp2_with fail
 have nf:=fun w=>R.nf qe w;have mf:=fun w=>R.mf qe w;have mh:=fun w=>R.mh qe w;have cf:=R.cf;have ch:=R.ch
 go_loopw [70] (fun v70 wr=>∃ (j:Nat),v70=.int .i64 (j:Int)∧j≤evs.length∧∃ σ tr,XW X w4 wr qe p0 σ tr (1+j)∧TrC X σ tr (evs.drop j) (ls.drop j) σn tn∧(j=0∨∃ x,ls[j - 1]? = some x∧LastAt X σ tr x)) (fun v70 _=>evs.length - (intOf v70).toNat)
 case atStart=>exact ⟨0,rfl,by omega,_,_,HXW.out,HTR.out,.inl rfl⟩
 case round=>
  obtain ⟨j,rfl,hj,σ,tr,hxw,htr,hla⟩:=hrel;by_cases hlt:j < evs.length
  ·rw [List.drop_eq_getElem_cons hlt] at htr;obtain ⟨ev,hev2⟩ : ∃ ev,ev=evs[j]:=⟨_,rfl⟩;have hev:evs[j]? = some ev:=by rw [List.getElem?_eq_getElem hlt,hev2]
   rw [← hev2] at htr;obtain ⟨x,ls',σ1,t1,h1,h2,h3⟩:=htr;have hx:ls[j]? = some x:=by
    have:=List.getElem?_drop (xs:=ls) (i:=j) (j:=0);rw [h1] at this
    simpa using this.symm
   have hd:ls'=ls.drop (j+1):=by rw [← List.drop_drop,h1];rfl
   rw [hd] at h3;obtain ⟨ge,rfl,hge,hre⟩ : ∃ ge,ga=some ⟨ge,0,none⟩∧ge < w3.heap.size∧∀ j e,evs[j]? = some e→∃ cells,EvAt w3 (fun i=>i < w3.heap.size) e cells∧∀ t v,cells[t]? = some v→w3.cell? ⟨ge,j * 28+t,none⟩=some v:=by
    rcases HEV3.out with h | h
    ·rw [h] at hlt;simp at hlt
    ·exact h
   obtain ⟨cells,hevt,hce⟩:=hre j ev hev;have hg3:w3.grownBy wr none:=g2 HG3.out hxw.gr;have hevr:EvAt wr (fun i=>i < w4.heap.size) ev cells:=hevt.chg (S:=fun _=>False) (Chg.of hg3) (fun _ _ h=>h) (fun i hi=>Nat.lt_of_lt_of_le hi hsz3);have hcer : ∀ t v,cells[t]? = some v→wr.cell? ⟨ge,j * 28+t,none⟩=some v:=fun t v h=>cell_g (hce t v h) hg3;obtain ⟨va_,vc_,pa,pc,vw,vwc,aw,ac,bw,bc_,rfl,_⟩:=id hevr;obtain ⟨gl,sl,hgl,_,l0,l1,_⟩:=HVA.out j x hx;subst hgl;have hln : ∀ W,w4.grownBy W none→W.cell? ⟨gl,j * 2,none⟩=some (.int .i64 x.1):=fun W hW=>cell_g l0 hW;have hst:=h2.last;obtain ⟨E,lx⟩:=x;simp only at hln;have HXW2:=lh hxw;have HS2:=lh h2;have HEVR:=lh hevr;have HCE:=lh hcer;have HLN:=lh hln;have HT3:=lh h3;have HST:=lh hst;have HX1:=lh hx;clear hevr hcer hln h3 hst hx;clear hevt hce hre hev hev2 l0 l1 hd h1 hla hg3 hxw h2 HXW;go_upto_region 12 with (fail)
   go_wp2_with (first
    | refine wpList_load_blk (off:=0) HBE.out rfl _ rfl rfl _ Tryz.underlying68 rfl (evC ev va_ vc_ pa pc vw vwc aw ac bw bc_) (by as_aux_lemma=>kernel_rfl) rfl ?_
    | refine wpList_load_at (evC ev va_ vc_ pa pc vw vwc aw ac bw bc_) HCE.out rfl _ rfl rfl _ Tryz.underlying68 rfl (by as_aux_lemma=>kernel_rfl) ?_
    | (refine wpList_store_new rfl (evC ev va_ vc_ pa pc vw vwc aw ac bw bc_) ⟨_,_,rfl,rfl,rfl⟩ (by as_aux_lemma=>kernel_rfl) rfl (by simp [evC,Value.oneCell']) ?_;intro w6 hbE hgE;have HBE:=lh hbE;replace HEVR:=lh (HEVR.out.g hgE);replace HXW2:=lh (HXW2.out.g L hgE);clear hbE hgE))
   refine (HXW2.out.feed L (by omega) HS2.out HEVR.out).mono ?_;rintro e w7 ⟨rfl,hxw⟩;obtain ⟨EV,hEV⟩ : ∃ EV,EV=errV E:=⟨_,rfl⟩;simp only;rw [← hEV];have HXW:=lh hxw;have HEVV:=lh hEV;clear HXW2 HS2 HEVR HCE HBE hxw hEV;go_upto_region 14 with (fail)
   obtain ⟨sl,hsl⟩ : ∃ sl,sl=σ1.slot:=⟨_,rfl⟩;have hs0:=HXW.out.s0;rw [← hsl] at hs0;have HSL:=lh hsl;have hq1:sl.tdiv 2=sl / 2:=Int.tdiv_eq_ediv_of_nonneg hs0.1;have hq2:IntKind.i64.wrap (sl / 2)=sl / 2:=by simp [IntKind.wrap,IntKind.signed,IntKind.bits];omega
   clear hsl;have TK:=lh fun w (hSw:(fun wr=>XW X w4 wr qe p0 σ1 t1 (1+j+1)∧wr.cell? ⟨p0,5,none⟩=some (.int .i64 sl)) w)=>And.intro (HLN.out w hSw.1.gr) <| hSw.2
   refine wp_region_late (fun wr=>XW X w4 wr qe p0 σ1 t1 (1+j+1)∧wr.cell? ⟨p0,5,none⟩=some (.int .i64 sl)) [] (by as_aux_lemma=>kernel_rfl) ?_;have hgd:=gdrew (gR w7 none);have hS:(fun wr=>XW X w4 wr qe p0 σ1 t1 (1+j+1)∧wr.cell? ⟨p0,5,none⟩=some (.int .i64 sl)) w7.drew:=⟨HXW.out.g L hgd,by rw [HSL.out];exact (HXW.out.g L hgd).slot⟩;clear hgd HXW;generalize w7.drew=w8 at hS ⊢;refine pM 0 ?_;simp only [zz];refine pM 2 ?_;simp only [zz];refine pM 3 ?_;simp only [zz];refine pM 4 ?_;simp only [zz];refine pM 5 ?_;simp only [zz];refine tM 6 ?_;simp only [zz];refine rM 1 fun K hK=>?_;go_simp;rw [HEVV.out];refine (number_err E _ (cell_g HE.out (g2 HG.out hS.1.gr))).mono ?_;rintro e w9 ⟨rfl,hg⟩;have hS2:(fun wr=>_) w9:=And.intro (hS.1.g L hg) (cell_g hS.2 hg);clear hg;refine hK.out _ _ (.inl (fun _=>hS2)) ?_;replace hS:=hS2;clear hK K hS2;try simp only [zz]
   refine pM 7 ?_;simp only [zz];refine pM 8 ?_;simp only [zz];refine pM 9 ?_;simp only [zz];refine pM 10 ?_;simp only [zz];refine pM 11 ?_;simp only [zz];refine pM 12 ?_;simp only [zz];refine pM 15 ?_;simp only [zz];refine pM 16 ?_;simp only [zz];refine pM 17 ?_;simp only [zz];refine tM 13 ?_;simp only [zz];refine pM 14 ?_;simp only [zz];refine rM 18 fun K hK=>?_;go_simp;refine (hS.1.tick L (by omega) (s:=sl) (by rw [HSL.out];omega)).mono ?_;rintro e w9 ⟨rfl,hx2⟩;have h5:=hx2.slot;rw [← HSL.out] at h5;have hS2:(fun wr=>_) w9:=And.intro hx2 h5;clear hx2 h5;refine hK.out _ _ (.inl (fun _=>hS2)) ?_;replace hS:=hS2;clear hK K hS2;try simp only [zz]
   refine rM 19 fun K hK=>?_;go_simp;refine (number_err 3 _ (cell_g HE.out (g2 HG.out hS.1.gr))).mono ?_;rintro e w9 ⟨rfl,hg⟩;have hS2:(fun wr=>_) w9:=And.intro (hS.1.g L hg) (cell_g hS.2 hg);clear hg;refine hK.out _ _ (.inl (fun _=>hS2)) ?_;replace hS:=hS2;clear hK K hS2;try simp only [zz]
   refine pM 20 ?_;simp only [zz];refine pM 21 ?_;simp only [zz];refine pM 22 ?_;simp only [zz];refine pM 23 ?_;simp only [zz];refine pM 24 ?_;simp only [zz];refine pM 25 ?_;simp only [zz];refine pM 26 ?_;simp only [zz];refine pM 30 ?_;simp only [zz];refine pM 31 ?_;simp only [zz];refine pM 32 ?_;simp only [zz];refine tM 27 ?_;simp only [zz];refine pM 28 ?_;simp only [zz];refine pM 29 ?_;simp only [zz];refine rM 33 fun K hK=>?_;go_simp;refine (hS.1.tick L (by omega) (s:=sl / 2) (by rw [← HSL.out];omega)).mono ?_;rintro e w9 ⟨rfl,hx2⟩;have h5:=hx2.slot;rw [← HSL.out] at h5;have hS2:(fun wr=>_) w9:=And.intro hx2 h5;clear hx2 h5;refine hK.out _ _ (.inl (fun _=>hS2)) ?_;replace hS:=hS2;clear hK K hS2;try simp only [zz]
   refine rM 34 fun K hK=>?_;go_simp;refine (number_err 3 _ (cell_g HE.out (g2 HG.out hS.1.gr))).mono ?_;rintro e w9 ⟨rfl,hg⟩;have hS2:(fun wr=>_) w9:=And.intro (hS.1.g L hg) (cell_g hS.2 hg);clear hg;refine hK.out _ _ (.inl (fun _=>hS2)) ?_;replace hS:=hS2;clear hK K hS2;try simp only [zz]
   refine pM 35 ?_;simp only [zz];refine pM 36 ?_;simp only [zz];refine dM ?_ _;have HXW:=lh hS.1;clear hS hs0;go_wp2_with fail
   exact ⟨⟨j+1,by simp,by omega,σ1,t1,by rw [show 1+(j+1)=1+j+1 from by omega];exact HXW.out,HT3.out,.inr ⟨_,HX1.out,HST.out⟩⟩,by simp [intOf];omega⟩
  ·have hje:j=evs.length:=by omega
   rw [hje,List.drop_length] at htr;obtain ⟨_,rfl,rfl⟩:=htr;rw [hje] at hla hxw;have HLA:=lh hla;have hgr:=hxw.gr;replace HI:=lh (Ints.kept HI.out hgr);replace HB0:=lh (HB0.out.g hgr);have hsz:=hgr.size;have HEVr:=lh (HEV3.out.gn (g2 HG3.out hgr));have HEr:=lh (cell_g HE.out (g2 HG.out hgr));have HXW3:=lh hxw;obtain ⟨wr0,hwr0⟩ : ∃ wr0,wr0=wr:=⟨_,rfl⟩;obtain ⟨c0,c1,c2⟩:=HB0.out.c3;clear hje hla hxw hgr HXW;go_wp2_with fail
   refine (run_eng R (c:=c) HI.out HM.out HEr.out HEB.out HEVr.out (by omega)).mono ?_;rintro e w10 ⟨v2,es2,ls2,q10,I10,σ10,t10,rfl,hgw2,htr2⟩;obtain ⟨rfl,_,_⟩:=HTR.out.det L htr2 (L.eqr _ _);have hyw:=HXW3.out.behind L hgw2.gr hgw2.lines;rw [← hwr0] at hyw;have HYW:=lh hyw;clear hgw2 htr2 hyw hwr0 c0 c1 c2 HXW3 HEVr HEr HI HB0;obtain ⟨n,hn9⟩ : ∃ n,n=evs.length:=⟨_,rfl⟩;rw [← hn9];have HN9:=lh hn9;have hn120:n≤120:=by omega
   by_cases h0:n=0
   ·subst h0;clear hn9;go_wp2;go_ret;exact ⟨rfl,g2 HG.out HYW.out.gr⟩
   ·obtain ⟨m,rfl⟩ : ∃ m,n=m+1:=⟨n - 1,by omega⟩;obtain ⟨x,hx,hlx⟩ : ∃ x,ls[m]? = some x∧LastAt X _ _ x:=by
     rcases HLA.out with h | ⟨x,h1,h2⟩
     ·omega
     ·exact ⟨x,by rw [← HN9.out] at h1;exact h1,h2⟩
    obtain ⟨gl,sv,hgl,_,l0,l1,gb,cb,hsv,_,l2⟩:=HVA.out m x hx;subst hgl hsv;obtain ⟨E,lx⟩:=x;simp only at l0 l1 l2;obtain ⟨ks9,r9,_,_,_,e9,_⟩:=id hlx;have hlen9:=(canon_last (l:=lx) e9).1;obtain ⟨y,hy⟩ : ∃ y,y=((lx.getD 7 0).toNat:Int):=⟨_,rfl⟩;have hby : ∀ W,w4.grownBy W none→W.cell? ⟨gb,7,none⟩=some (.int .u8 y):=fun W hW=>by rw [hy];exact cell_g (l2 7 (by omega)) hW
    have hl1 : ∀ W,w4.grownBy W none→W.cell? ⟨gl,m * 2+1,none⟩=some (.slice (some ⟨gb,0,none⟩) lx.length cb):=fun W hW=>cell_g l1 hW;obtain ⟨LL,hLL⟩ : ∃ LL,LL=lx.length:=⟨_,rfl⟩;rw [← hLL] at hl1 hlen9;have hls4:=HLS.out;rw [HLEN.out,← HN9.out] at hls4;have HBY:=lh hby;have HL1:=lh hl1;have HY:=lh hy;have HLX:=lh hlx;have HLS4:=lh hls4;clear hby hl1 hy hlx hls4;have hlL:ls.length≤1000000:=by rw [HLEN.out,← HN9.out];omega
    have hg7:decide ((LL:Int) > 7)=true:=decide_eq_true (by omega);have hmw:IntKind.i64.wrap (m:Int)=(m:Int):=by simp [IntKind.wrap,IntKind.signed,IntKind.bits];omega
    have hL7:(7:Int) < (LL:Int):=by omega
    have hm0:(0:Int)≤(m:Int):=by omega
    have hm1:(m:Int) < (m:Int)+1:=by omega
    clear l0 l1 l2 e9 hx hLL hn9 h0;go_upto_region 20 with (fail)
    have TK:=lh fun w (hSw:(fun wr=>YW X w4 wr qe p0 σn tn (1+evs.length) wr0.heap.size v2 ls) w)=>And.intro (HL1.out w hSw.gr) <| HBY.out w hSw.gr
    refine wp_region_late (fun wr=>YW X w4 wr qe p0 σn tn (1+evs.length) wr0.heap.size v2 ls) [] (by as_aux_lemma=>kernel_rfl) ?_;have hgd:=gdrew (gR w10 none);have hS:(fun wr=>YW X w4 wr qe p0 σn tn (1+evs.length) wr0.heap.size v2 ls) w10.drew:=HYW.out.g L hgd;clear hgd HYW;generalize w10.drew=w11 at hS ⊢;refine pM 0 ?_;simp only [zz];refine pM 1 ?_;simp only [zz];refine pM 2 ?_;simp only [zz];refine pM 3 ?_;simp only [zz];refine pM 4 ?_;simp only [zz];refine rM 5 fun K hK=>?_;go_simp;refine (samel_calls hS.ln (HLS4.out.chg (S:=fun _=>False) (Chg.of hS.gr) (fun _ _ h=>h) (fun _ h=>h)) hlL).mono ?_;rintro e w12 ⟨rfl,hg⟩;have hS2:(fun wr=>_) w12:=hS.g L hg;clear hg;refine hK.out _ _ (.inl (fun _=>hS2)) ?_;replace hS:=hS2;clear hK K hS2;try simp only [zz]
    refine pM 6 ?_;simp only [zz];refine pM 7 ?_;simp only [zz];refine pM 8 ?_;simp only [zz];refine pM 9 ?_;simp only [zz];refine pM 10 ?_;simp only [zz];refine pM 11 ?_;simp only [zz];refine pM 12 ?_;simp only [zz];refine pM 13 ?_;simp only [zz];refine tM 14 ?_;simp only [zz];refine pM 15 ?_;simp only [zz];refine pM 16 ?_;simp only [zz];refine pM 17 ?_;simp only [zz];refine pM 18 ?_;simp only [zz];refine pM 19 ?_;simp only [zz];refine pM 20 ?_;simp only [zz];refine pM 21 ?_;simp only [zz];refine pM 22 ?_;simp only [zz];refine pM 23 ?_;simp only [zz];refine pM 24 ?_;simp only [zz];refine pM 28 ?_;simp only [zz];refine tM 25 ?_;simp only [zz];refine pM 26 ?_;simp only [zz];refine tM 27 ?_;simp only [zz];refine rM 29 fun K hK=>?_;go_simp;refine (hS.head L (by omega) HLX.out).mono ?_;rintro e w12 ⟨r,ks,rfl,hru,hcn,hyw⟩;have hlast:=(canon_last (l:=lx) hcn).2;rw [← HY.out] at hlast;have hw8:IntKind.u8.wrap r=y:=by rw [hlast];simp [IntKind.wrap,IntKind.signed,IntKind.bits]
    have hS2:(fun wr=>_) w12:=hyw;clear hyw hcn hlast;refine hK.out _ _ (.inl (fun _=>hS2)) ?_;replace hS:=hS2;clear hK K hS2;try simp only [zz]
    refine pM 30 ?_;simp only [zz];refine pM 31 ?_;simp only [zz];refine pM 32 ?_;simp only [zz];refine pM 33 ?_;simp only [zz];refine dM ?_ _;go_wp2;go_ret;exact ⟨rfl,g2 HG.out hS.gr⟩
end
structure Bkt where
 n:Nat
 hgt:Int→Option Nat
 par:Int→Int
 nb:Nat
 bu:Int→Option Int
structure BIds where
 q:Nat
 lp:Nat
 lb:Nat
 mb:Nat
 lok:Nat→Prop
def BOwn (J:BIds) (i:Nat):Prop:=i=J.q∨i=J.mb∨J.lok i
def wts (bu:Int→Option Int):Int→Option Value:=fun r=>(bu r).map fun x=>.int .u64 x
structure BktAt (w:World) (J:BIds) (p:Nat) (β:Bkt):Prop where
 blk:Blk w J.q #[.pointer (some ⟨p,0,none⟩),.pointer (some ⟨J.lp,0,none⟩),.map (some J.mb)] 122
 list:SkipAt w J.lok J.lp J.lb β.n β.hgt β.par
 buckets:RawMap Tryz.prog 27 w J.mb β.nb (wts β.bu)
 lokb : ∀ j,J.lok j→j < w.heap.size∧j≠J.q∧j≠J.mb
 ne:J.q≠J.mb
 tree:SkipPure.Tree β.hgt β.par
 keys:Keys β.hgt
 n:β.n≤100000
 hb : ∀ r h,β.hgt r=some h→h≤100000
section
variable {w w':World} {J:BIds} {p:Nat} {β:Bkt}
theorem BktAt.kept0 (h:BktAt w J p β) (hg:w.grownBy w' none):BktAt w' J p β:=
 ⟨h.blk.g hg,h.list.kept hg (fun k e=>by cases e),h.buckets.kept hg (by simp),fun j hj=>⟨Nat.lt_of_lt_of_le (h.lokb j hj).1 hg.size,(h.lokb j hj).2⟩,h.ne,h.tree,h.keys,h.n,h.hb⟩
theorem SkipAt.chg {S:Nat→Prop} {ok:Nat→Prop} {p b n:Nat} {hgt:Int→Option Nat} {par:Int→Int} (h:SkipAt w ok p b n hgt par) (hc:Chg S w w') (hs : ∀ i,ok i→¬ S i):SkipAt w' ok p b n hgt par:=by
 obtain ⟨h1,h2,h3,h4,F,h5,h6⟩:=h;refine ⟨h1,h2,h3,hc.blk (q:=p) h4 (hs _ h1),F,hc.raw h5 (hs _ h2),fun r hr=>?_⟩;have h7:=h6 r hr;unfold NodeAt at h7 ⊢;split at h7
 ·exact h7
 ·obtain ⟨a,c,e,hrow⟩:=h7;refine ⟨a,c,e,?_⟩;rcases hrow with hrow | ⟨g,ea,l1,l2,l3,l4⟩
  ·exact .inl hrow
  ·exact .inr ⟨g,ea,l1,l2,l3,fun i hi=>hc.cell (l4 i hi) (hs g l3)⟩
theorem BktAt.chg {S:Nat→Prop} (h:BktAt w J p β) (hc:Chg S w w') (hs : ∀ i,BOwn J i→¬ S i):BktAt w' J p β:=
 ⟨hc.blk h.blk (hs _ (.inl rfl)),h.list.chg hc (fun i hi=>hs i (.inr (.inr hi))),hc.raw h.buckets (hs _ (.inr (.inl rfl))),fun j hj=>⟨Nat.lt_of_lt_of_le (h.lokb j hj).1 hc.size,(h.lokb j hj).2⟩,h.ne,h.tree,h.keys,h.n,h.hb⟩
def bkt0:Bkt:={ n:=1,hgt:=hgtOne 1,par:=fun x=>x,nb:=0,bu:=fun _=>none }
end
section
variable {w:World} {bs:List Int} {S B:Int} {ad:Option Addr} {c:Nat}
theorem bof_calls (hb:Ints .u64 w ad bs) (hm:MayBe bs S B) :
  Calls Tryz.prog 25 #[cfgV ad bs.length c S B] w fun e w'=>∃ I J,e=.returned (.tuple #[.pointer (some ⟨J.q,0,none⟩),.nilIface])∧StoreAt w' I (st0 bs S B)∧BktAt w' J I.p bkt0∧I.ex=BOwn J∧w.grownBy w' none ∧
   (∀ i,Mut I i→w.heap.size≤i)∧(∀ i,BOwn J i→w.heap.size≤i):=by
 have HB:=lh hb;have HM:=lh hm;clear hb hm;unfold cfgV;go_enter Tryz.func25,Tryz.ntmps25
 go_upto_region 1 with (fail)
 refine nmC1 ?_;intro W b0 hz hg;obtain ⟨q,hq_q⟩ : ∃ q,q=w.heap.size:=⟨_,rfl⟩;rw [← hq_q] at b0 hz ⊢;have HQ_q:=lh hq_q;clear hq_q;have HQ:=lh b0;have HG:=lh hg;clear b0 hg;replace HB:=lh (Ints.kept HB.out HG.out);obtain ⟨c0,c1,c2⟩:=HQ.out.c3;go_wp2_with fail
 refine (sof_calls HB.out HM.out).mono ?_;rintro e w1 ⟨I,rfl,hst,hch,hex,hmu,hg⟩;have hwW:=HG.out.size;replace HG:=lh (g2 HG.out hg);clear hg c0 c1 c2 HB HQ hch;have hmu2 : ∀ i,Mut I i→w.heap.size≤i:=fun i hi=>Nat.le_trans hwW (hmu i hi);have HH:=lh hst;have HEX:=lh hex;have HMU:=lh hmu2;clear hst hex hmu2;clear hmu hwW;go_wp2_with fail
 refine (of_calls w1 (r:=1) (by unfold inU;omega)).mono ?_;rintro e w2 ⟨lp,lb,rfl,hsk,hg⟩;have HSK:=lh hsk;have HG2:=lh hg;clear hsk hg;have hmm:=@run_makeMap Tryz.prog;go_wp2;go_ret2;have r1:=RawMap.made Tryz.prog 27 w2;have g1:=World.grownBy_alloc w2 (Obj.map #[] 0) none;have z1:(w2.alloc (Obj.map #[] 0)).heap.size=w2.heap.size+1:=by simp
 obtain ⟨k1,hz1,hg1⟩:=alloc1 (w2.alloc (Obj.map #[] 0)) #[.pointer (some ⟨I.p,0,none⟩),.pointer (some ⟨lp,0,none⟩),.map (some w2.heap.size)] 122;rw [z1] at k1 hz1;have hgg:=g2 g1 hg1;have r2:=r1.kept hg1 (by simp);have hsk:=HSK.out.kept hgg (fun k e=>by cases e);have hl1:0 < bs.length:=by have:=HM.out.l1;omega
 have h12:=HG2.out.size;have hsz:=HG.out.size;have e:wts (fun _=>none)=fun _=>none:=rfl;obtain ⟨J,hJ⟩ : ∃ J:BIds,J=⟨w2.heap.size+1,lp,lb,w2.heap.size,fun k=>w1.heap.size≤k∧k < w2.heap.size⟩:=⟨_,rfl⟩;have hown : ∀ i,BOwn J i→w1.heap.size≤i∧i < w2.heap.size+1+1:=fun i hi=>by
  rw [hJ] at hi;rcases hi with e | e | ⟨e1,e2⟩
  ·rw [e];exact ⟨by show w1.heap.size≤w2.heap.size+1;omega,by show w2.heap.size+1 < _;omega⟩
  ·rw [e];exact ⟨h12,by show w2.heap.size < _;omega⟩
  ·omega
 have hst:=HH.out.reex (I:=I) hl1 (Chg.of (g2 HG2.out hgg)) (BOwn J) (fun i hi=>.inr (hown i hi).1) (fun i hi=>by rw [hz1];exact (hown i hi).2);refine ⟨{ I with ex:=BOwn J },J,by rw [hJ];rfl,hst,?_,rfl,g2 HG.out (g2 HG2.out hgg),HMU.out,fun i hi=>Nat.le_trans hsz (hown i hi).1⟩;rw [hJ];refine ⟨k1,hsk,r2,fun j hj=>⟨by rw [hz1];have:=hj.2;omega,by have:=hj.2;show j≠w2.heap.size+1;omega,by have:=hj.2;show j≠w2.heap.size;omega⟩,by show w2.heap.size+1≠w2.heap.size;omega,?_,?_,by show 1≤100000;omega,?_⟩
 ·intro x h hx;unfold bkt0 hgtOne at hx;simp only at hx;split at hx <;> cases hx
 ·intro x h hx;unfold bkt0 hgtOne at hx;simp only at hx;split at hx
  ·next e=>cases hx;rw [e];exact ⟨by unfold inU;omega,by omega⟩
  ·cases hx
 ·intro x h hx;unfold bkt0 hgtOne at hx;simp only at hx;split at hx
  ·cases hx;omega
  ·cases hx
end
section
variable {w w':World} {I:Ids} {σ:St} {J:BIds} {β:Bkt}
def addB (β:Bkt) (r q:Int) (k:Nat):Bkt:={ β with n:=β.n+1,hgt:=setHgt β.hgt r (k+1),par:=setPar β.par r q }
end
def bputX (β:Bkt) (r give take:Int):Int:=us (ua ((β.bu r).getD 0) give) take
def bputF (β:Bkt) (r give take:Int):Bkt:=
 if bputX β r give take=0 then { β with nb:=if (β.bu r).isSome then β.nb - 1 else β.nb,bu:=fun j=>if j=r then none else β.bu j }
 else { β with nb:=if (β.bu r).isSome then β.nb else β.nb+1,bu:=fun j=>if j=r then some (bputX β r give take) else β.bu j }
section
variable {w w':World} {J:BIds} {p:Nat} {β:Bkt}
theorem zeroU (w:World):(zeroValue 27).run Tryz.prog w=.ok (.int .u64 0) w:=by kernel_rfl
theorem BktAt.look (h:BktAt w J p β) {r:Int} (hr:inU r):(Instr.lookup 120 (.map (some J.mb)) (.int .u64 r) false).run Tryz.prog w=.ok (.int .u64 ((β.bu r).getD 0)) w:=by
 have:=h.buckets.look Tryz.underlying27 Tryz.underlying120 (zeroU w) hr;rw [this];unfold wts;cases β.bu r <;> rfl
theorem BktAt.turn (h:BktAt w J p β) (hg:w.grownBy w' (some J.mb)) {nb:Nat} {bu:Int→Option Int} (hm:RawMap Tryz.prog 27 w' J.mb nb (wts bu)):BktAt w' J p { β with nb:=nb,bu:=bu }:=
 ⟨h.blk.kept hg (fun e=>h.ne (Option.some.inj e).symm),h.list.kept hg (fun k e hk=>(h.lokb k hk).2.2 (Option.some.inj e).symm),hm,fun j hj=>⟨Nat.lt_of_lt_of_le (h.lokb j hj).1 hg.size,(h.lokb j hj).2⟩,h.ne,h.tree,h.keys,h.n,h.hb⟩
theorem wts_upd (bu:Int→Option Int) (r x:Int):upd (wts bu) r (.int .u64 x)=wts (fun j=>if j=r then some x else bu j):=by
 funext j;unfold upd wts;by_cases h:j=r <;> simp [h]
theorem wts_del (bu:Int→Option Int) (r:Int):updel (wts bu) r=wts (fun j=>if j=r then none else bu j):=by
 funext j;unfold updel wts;by_cases h:j=r <;> simp [h]
theorem wts_some (bu:Int→Option Int) (r:Int):(wts bu r).isSome=(bu r).isSome:=by unfold wts;cases bu r <;> rfl
set_option maxHeartbeats 4000000 in
theorem bput_calls (ha:BktAt w J p β) (hn:β.nb < 1000000000) {r give take:Int} (hr:inU r) :
  Calls Tryz.prog 177 #[.pointer (some ⟨J.q,0,none⟩),.int .u64 r,.int .u64 give,.int .u64 take] w fun e w'=>e=.returned (.tuple #[])∧BktAt w' J p (bputF β r give take)∧w.grownBy w' (some J.mb):=by
 have HA:=lh ha;obtain ⟨X,hX⟩ : ∃ X,X=bputX β r give take:=⟨_,rfl⟩;have hput:bputF β r give take=if X=0 then { β with nb:=if (β.bu r).isSome then β.nb - 1 else β.nb,bu:=fun j=>if j=r then none else β.bu j } else { β with nb:=if (β.bu r).isSome then β.nb else β.nb+1,bu:=fun j=>if j=r then some X else β.bu j }:=by rw [hX];rfl
 obtain ⟨R,hR⟩ : ∃ R,R=bputF β r give take:=⟨_,rfl⟩;rw [← hR];rw [← hR] at hput;have HX:=lh hX;have HP:=lh hput;clear hX hput;clear ha hR;go_enter Tryz.func177,Tryz.ntmps177
 go_upto_region 0 with (fail)
 have TK:=lh fun w (hSw:(fun wr=>BktAt wr J p β) w)=>And.intro (show w.cell? ⟨J.q,2,none⟩=some (.map (some J.mb)) from hSw.blk.at 2) <| hSw.look hr
 refine wp_region_late (fun wr=>BktAt wr J p β) [15] (by as_aux_lemma=>kernel_rfl) ?_;have hgd:=gdrew (gR w none);have HG:=lh hgd;have hS:(fun wr=>BktAt wr J p β) w.drew:=HA.out.kept0 hgd;clear hgd HA;generalize w.drew=w2 at HG hS ⊢;refine pM 0 ?_;simp only [zz];refine pM 1 ?_;simp only [zz];refine pM 2 ?_;simp only [zz];refine pM 4 ?_;simp only [zz];refine pM 5 ?_;simp only [zz];refine pM 6 ?_;simp only [zz];refine pM 7 ?_;simp only [zz];refine pM 9 ?_;simp only [zz];refine pM 11 ?_;simp only [zz];refine pM 13 ?_;simp only [zz];refine tM 3 ?_;simp only [zz];refine tM 8 ?_;simp only [zz];refine tM 10 ?_;simp only [zz];refine pM 12 ?_;simp only [zz];refine pM 14 ?_;simp only [zz];refine rM 15 fun K hK=>?_;refine wp_store_any hS.buckets _ _ _ 120 (.inl rfl) Tryz.underlying27 Tryz.underlying120 (by unfold maxLen;omega) hr (.int .u64 X) (by rfl) (by rfl) (by rw [HX.out];rfl) ?_;intro w3 hm hg;rw [wts_upd,wts_some] at hm;have h3:=hS.turn hg hm;replace HG:=lh (gtrans HG.out.mono0 hg);clear hm hg;have HB:=lh h3;clear h3;refine hK.out _ _ (.inr (by decide)) ?_;clear hK K;refine dM ?_ _;have a2:w3.cell? ⟨J.q,2,none⟩=some (.map (some J.mb)):=HB.out.blk.at 2;have hlk:=HB.out.look hr;simp only [if_true,Option.getD_some] at hlk;by_cases h0:X=0
 ·have hp:=HP.out;rw [if_pos h0] at hp;have hx0:(X == 0)=true:=by simp [h0]
  have hbs:(wts (fun j=>if j=r then some X else β.bu j) r).isSome=true:=by rw [wts_some];simp
  have hnb:(if (wts (fun j=>if j=r then some X else β.bu j) r).isSome=true then (if (β.bu r).isSome=true then β.nb else β.nb+1) - 1 else (if (β.bu r).isSome=true then β.nb else β.nb+1))=if (β.bu r).isSome=true then β.nb - 1 else β.nb:=by
   rw [if_pos hbs];split <;> omega
  have hdl:updel (wts (fun j=>if j=r then some X else β.bu j)) r=wts (fun j=>if j=r then none else β.bu j):=by
   rw [wts_del]
   congr 1
   funext j;by_cases e:j=r <;> simp [e]
  replace HP:=lh hp;have HNB:=lh hnb;have HDL:=lh hdl;clear hnb hdl;clear hp h0 hbs;go_wp2_with (refine wpList_drop_any HB.out.buckets rfl _ _ 120 rfl Tryz.underlying27 Tryz.underlying120 hr rfl rfl ?_;intro w4 hm hg;rw [HNB.out,HDL.out] at hm;have HB2:=lh (HB.out.turn hg hm);replace HG:=lh (gtrans HG.out hg);clear hm hg)
  go_end0
  exact ⟨rfl,by rw [HP.out];exact HB2.out,HG.out⟩
 ·have hp:=HP.out;rw [if_neg h0] at hp;have hx0:(X == 0)=false:=by simp [h0]
  replace HP:=lh hp;clear hp h0;go_wp2
  go_end0
  exact ⟨rfl,by rw [HP.out];exact HB.out,HG.out⟩
end
def CgU (c:Cg):Prop:=inU c.root∧inU c.parent∧inU c.frm
def CsU (cs:List Cg):Prop:=∀ c∈cs,CgU c
def VU (n:Nat) (V:Nat→Ent):Prop:=∀ i,i < n→inU (V i).r
theorem u0:inU 0:=by unfold inU;omega
theorem CsU.snoc {cs:List Cg} (h:CsU cs) {c:Cg} (hc:CgU c):CsU (cs++[c]):=fun x hx=>by
 rcases List.mem_append.1 hx with hx | hx
 ·exact h x hx
 ·rw [List.mem_singleton.1 hx];exact hc
theorem frmE_u {x:Ent} (h:inU x.r):inU (frmE x):=by
 unfold frmE;split
 ·exact h
 ·exact u0
section
variable {n:Nat} {e r:Int}
theorem takeStep_u (hr:inU r) {p:(Nat→Ent)×List Cg} {k:Int} (hk:k.toNat < n) (hV:VU n p.1) (hC:CsU p.2):VU n (takeStep e r p k).1∧CsU (takeStep e r p k).2:=by
 unfold takeStep;refine ⟨fun i hi=>?_,?_⟩
 ·show inU (takeV p.1 k.toNat e r i).r;unfold takeV;split
  ·unfold vset;split
   ·exact hr
   ·exact hV i hi
  ·exact hV i hi
 ·simp only;split
  ·exact hC.snoc ⟨hr,u0,frmE_u (hV _ hk)⟩
  ·exact hC
theorem takeAll_u (hr:inU r) : ∀ (ks:List Int) (V:Nat→Ent) (cs:List Cg),(∀ k∈ks,k.toNat < n)→VU n V→CsU cs→VU n (takeAll e r V cs ks).1∧CsU (takeAll e r V cs ks).2
 | [],_,_,_,hV,hC=>⟨hV,hC⟩
 | k :: ks,V,cs,h,hV,hC=>by
  obtain ⟨h1,h2⟩:=takeStep_u (e:=e) hr (p:=(V,cs)) (h k (by simp)) hV hC;exact takeAll_u hr ks _ _ (fun x hx=>h x (List.mem_cons_of_mem _ hx)) h1 h2
theorem banStep_u {p:(Nat→Ent)×List Cg} {k:Int} (hk:k.toNat < n) (hV:VU n p.1) (hC:CsU p.2):VU n (banStep p k).1∧CsU (banStep p k).2:=by
 unfold banStep;split
 ·exact ⟨hV,hC⟩
 ·refine ⟨fun i hi=>?_,hC.snoc ⟨u0,u0,frmE_u (hV _ hk)⟩⟩;show inU (vset p.1 k.toNat { p.1 k.toNat with b:=true } i).r;unfold vset;split
  ·exact hV _ hk
  ·exact hV i hi
theorem banAll_u : ∀ (ks:List Int) (V:Nat→Ent) (cs:List Cg),(∀ k∈ks,k.toNat < n)→VU n V→CsU cs→VU n (banAll V cs ks).1∧CsU (banAll V cs ks).2
 | [],_,_,_,hV,hC=>⟨hV,hC⟩
 | k :: ks,V,cs,h,hV,hC=>by
  obtain ⟨h1,h2⟩:=banStep_u (p:=(V,cs)) (h k (by simp)) hV hC;exact banAll_u ks _ _ (fun x hx=>h x (List.mem_cons_of_mem _ hx)) h1 h2
end
theorem attC_u {σ:St} {cs:List Cg} {v:Vt} {ins:Bool} (hv:inU v.hd) (hV:VU σ.bs.length σ.V) (hC:CsU cs):VU σ.bs.length (attC σ cs v ins).1∧CsU (attC σ cs v ins).2:=by
 unfold attC;split
 ·rename_i hE
  refine takeAll_u hv _ _ _ (fun k hk=>?_) hV hC;unfold attE at hE;cases hR:rightF σ.bs.length σ.S v with
  | false=>rw [hR] at hE;simp at hE
  | true=>
   obtain ⟨j,hj,rfl⟩:=List.mem_iff_getElem.1 hk;have h:=rightF_who hR hj;rw [List.getD_eq_getElem?_getD,List.getElem?_eq_getElem hj] at h;simp only [Option.getD_some] at h;omega
 ·exact ⟨hV,hC⟩
theorem shown_u {σ:St} {cs:List Cg} (a b:Vt) (hV:VU σ.bs.length σ.V) (hC:CsU cs):VU σ.bs.length (banAll σ.V cs (shownF σ.bs.length σ.S a b)).1∧CsU (banAll σ.V cs (shownF σ.bs.length σ.S a b)).2:=
 banAll_u _ _ _ (fun k hk=>by have h:=shownF_mem hk;omega) hV hC
def PU (p:St×List Cg):Prop:=VU p.1.bs.length p.1.V∧CsU p.2
theorem atts_u : ∀ (vs:List Vt) (p:St×List Cg),(∀ v∈vs,inU v.hd)→PU p→PU (vs.foldl attStep p)
 | [],_,_,h=>h
 | v :: vs,p,hv,h=>atts_u vs _ (fun x hx=>hv x (List.mem_cons_of_mem _ hx)) (attC_u (σ:=p.1) (hv v (by simp)) h.1 h.2)
theorem slas_u : ∀ (ps:List (Vt×Vt)) (p:St×List Cg),PU p→PU (ps.foldl slaStep p)
 | [],_,h=>h
 | x :: ps,p,h=>slas_u ps _ (shown_u (σ:=p.1) x.1 x.2 h.1 h.2)
theorem Raised.u {σ σ':St} {cs cs':List Cg} {je jr fe fr:Int} (h:Raised σ cs je jr fe fr σ' cs') (hf:inU fr∨inU σ'.fr) (hC:CsU cs):CsU cs':=by
 unfold Raised at h;split at h
 ·obtain ⟨ks,_,rfl,rfl⟩:=h;exact hC.snoc ⟨hf.elim id id,u0,u0⟩
 ·rw [h.2];exact hC
theorem Applied.u {σ σ':St} {e:Ev} {E:Int} {cs':List Cg} (hw:StWf σ) (hw':StWf σ') (hB:EvB e) (h:Applied σ e E σ' cs'):CsU cs':=by
 have hV:VU σ.bs.length σ.V:=fun i hi=>(hw.vr i hi).1;have h0:CsU []:=fun c hc=>by cases hc
 rcases h with ⟨_,_,rfl,rfl⟩ | ⟨_,h⟩ | ⟨_,_,rfl,rfl⟩ | ⟨_,_,rfl,rfl⟩
 ·exact h0
 ·rcases h with ⟨_,_,rfl,rfl⟩ | ⟨_,_,_,rfl,rfl⟩ | ⟨_,_,_,_,rfl,rfl⟩ | ⟨_,_,_,_,_,rfl,rfl⟩ | ⟨_,_,_,_,_,h⟩
  ·exact h0
  ·exact h0
  ·exact h0
  ·exact h0
  ·obtain ⟨x,σe,cse,hL,hbd,hrd,hend⟩:=h;have hp:PU (propC σ [] e.r e.q e.bs (propX σ e.r e.q e.bs e.vs x) e.vs e.ps):=slas_u _ _ (atts_u _ _ (fun v hv=>(hB.vs v hv).hd) ⟨hV,h0.snoc ⟨hB.r,hB.q,u0⟩⟩);have h1:=hrd.u (.inl hbd.j.fr) hp.2;unfold PropEnd at hend;split at hend
   ·exact hend.u (.inr hw'.fr) h1
   ·rw [hend.2];exact h1
 ·exact (attC_u hB.v.hd hV h0).2
 ·exact (shown_u _ _ hV h0).2
end Go.Proofs.YtndfpmboanohcaaGreatDoor
