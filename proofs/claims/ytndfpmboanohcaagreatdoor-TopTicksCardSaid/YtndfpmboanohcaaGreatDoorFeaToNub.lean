/- Contract of (*array.Engine).Feed at any event. -/
import Derived.Test.YtndfpmboanohcaaGreatDoorFdpToEng
import Derived.LaidEql
import Derived.Stop.Asserts
import Derived.RowKitTokens
namespace Go.Proofs.YtndfpmboanohcaaGreatDoor
set_option maxRecDepth 100000
open Go.RowKit Go.Maps SkipPure
theorem rowChg {S:Nat→Prop} {w w':World} {base:Nat} {e:TypeId} {size n:Nat} {v:Value} {xs:List Value} (h:w.ownsRow base e size v n xs) (hc:Chg S w w') (hs : ∀ k,v.ownBlock=some k→¬ S k):w'.ownsRow base e size v n xs:=by
 obtain ⟨h1,h2⟩:=h;refine ⟨h1,?_⟩;rcases h2 with h2 | ⟨g,cap,cur,rfl,h3,h4,h5⟩
 ·exact .inl h2
 ·exact .inr ⟨g,cap,cur,rfl,h3,(hc.block g (Array.getElem?_eq_some_iff.1 h4).1 (hs g rfl)).trans h4,h5⟩
theorem ArrAt.apart {w:World} {J:AIds} {p:Nat} {α:Arr} (h:ArrAt w J p α) {b:Nat} {cur:Array Value} {e:TypeId} (hb:w.heap[b]? = some (.cells cur e (0,0))) (h1:e≠110) (h2:e≠150):¬ AOwn J b:=by
 intro hi;rcases hi with rfl | rfl
 ·have:=h.blk;unfold Blk at this;rw [this] at hb;cases hb;exact h1 rfl
 ·obtain ⟨_,_,cs,hg,_⟩:=h.row;rw [hg] at hb;cases hb;exact h2 rfl
structure FW (w0 w:World) (I:Ids) (c2:Value) (t2:Nat) (J:AIds) (g c:Nat) (σ:St) (α:Arr) (M j:Nat) (cs:List Cg):Prop where
 st:StoreAt w { I with ch:=c2,tb:=t2,ex:=AOwn { J with g:=g,c:=c } } σ
 ar:ArrAt w { J with g:=g,c:=c } I.p α
 row:w.ownsRow w0.heap.size 178 6 c2 cs.length (cgRow cs)
 chg:Chg (fun i=>Mut I i∨AOwn J i) w0 w
 acj:ACj α σ M cs j
 new:g=J.g∨w0.heap.size≤g
section
variable {w0 w w':World} {I:Ids} {c2:Value} {t2:Nat} {J:AIds} {gn cn:Nat} {σ:St} {α α':Arr} {M j:Nat} {cs:List Cg}
theorem FW.g (h:FW w0 w I c2 t2 J gn cn σ α M j cs) (hg:w.grownBy w' none):FW w0 w' I c2 t2 J gn cn σ α M j cs:=
 ⟨h.st.g hg,h.ar.kept0 hg,ownsRow_g h.row hg,h.chg.trans (Chg.of hg),h.acj,h.new⟩
theorem FW.own (h:FW w0 w I c2 t2 J gn cn σ α M j cs) (i:Nat) (hi:AOwn { J with g:=gn,c:=cn } i):(Mut I i∨AOwn J i)∨w0.heap.size≤i:=by
 rcases hi with hi | hi
 ·exact .inl (.inr (.inl hi))
 ·rcases h.new with e | e
  ·exact .inl (.inr (.inr (by rw [hi];exact e)))
  ·right;rw [hi];exact e
theorem FW.chgd (h:FW w0 w I c2 t2 J gn cn σ α M j cs) {g' c' j':Nat} (hst:StoreAt w' { I with ch:=c2,tb:=t2,ex:=AOwn { J with g:=g',c:=c' } } σ) (har:ArrAt w' { J with g:=g',c:=c' } I.p α') (hc:Chg (AOwn { J with g:=gn,c:=cn }) w w')
  (hg:g'=gn∨w.heap.size≤g') (ha:ACj α' σ M cs j'):FW w0 w' I c2 t2 J g' c' σ α' M j' cs:=
 ⟨hst,har,rowChg h.row hc (fun k hk=>by
  obtain ⟨cur,hcur⟩:=ownsRow_ty h.row hk;exact h.ar.apart hcur (by decide) (by decide)),h.chg.then hc h.own,ha,by
  rcases hg with e | e
  ·rw [e];exact h.new
  ·exact .inr (Nat.le_trans h.chg.size e)⟩
theorem FW.mid (h:FW w0 w I c2 t2 J gn cn σ α M j cs) (har:ArrAt w' { J with g:=gn,c:=cn } I.p α') (hg:w.grownBy w' (some gn)) (hn:α'.n=α.n) (hp : ∀ i,(α'.X i).p=(α.X i).p) (hr : ∀ i,(α'.X i).r=(α.X i).r):FW w0 w' I c2 t2 J gn cn σ α' M j cs:=by
 have hc:Chg (AOwn { J with g:=gn,c:=cn }) w w':=Chg.one hg (.inr rfl);exact h.chgd (h.st.exch hc (fun i hi=>hi)) har hc (.inl rfl) (h.acj.same hn hp hr)
theorem FW.gave (h:FW w0 w I c2 t2 J gn cn σ α M j cs) {r v:Int} (har:ArrAt w' { J with g:=gn,c:=cn } I.p { α with X:=giveF α.X α.n r v }) (hg:w.grownBy w' (some gn)):FW w0 w' I c2 t2 J gn cn σ { α with X:=giveF α.X α.n r v } M j cs:=
 h.mid har hg rfl (fun i=>giveF_p _ _ _ _ i) (fun i=>giveF_r _ _ _ _ i)
theorem FW.took (h:FW w0 w I c2 t2 J gn cn σ α M j cs) {r v:Int} (har:ArrAt w' { J with g:=gn,c:=cn } I.p { α with X:=takeF α.X α.n r v }) (hg:w.grownBy w' (some gn)):FW w0 w' I c2 t2 J gn cn σ { α with X:=takeF α.X α.n r v } M j cs:=
 h.mid har hg rfl (fun i=>takeF_p _ _ _ _ i) (fun i=>takeF_r _ _ _ _ i)
theorem FW.next (h:FW w0 w I c2 t2 J gn cn σ α M j cs) {x:Cg} (hx:cs[j]? = some x) (hk:x.kind≠0):FW w0 w I c2 t2 J gn cn σ α M (j+1) cs:=⟨h.st,h.ar,h.row,h.chg,h.acj.next hx hk,h.new⟩
theorem EvAt.g {ok:Nat→Prop} {e:Ev} {cells:Array Value} (h:EvAt w ok e cells) (hg:w.grownBy w' none):EvAt w' ok e cells:=
 h.chg (S:=fun _=>False) (Chg.of hg) (fun _ _ h=>h) (fun _ h=>h)
theorem own_slice {base:Nat} {e:TypeId} {size n:Nat} {v:Value} {xs:List Value} (h:w.ownsRow base e size v n xs) : ∃ a k,v=.slice a n k∧(0 < n→∃ g,a=some ⟨g,0,none⟩):=by
 rcases h.2 with ⟨rfl,hn⟩ | ⟨g,cap,cur,rfl,_⟩
 ·exact ⟨none,0,by rw [hn],fun h=>by omega⟩
 ·exact ⟨_,_,rfl,fun _=>⟨g,rfl⟩⟩
end
def astepC (σ:St) (β:Arr) (c:Cg):Arr:=
 if c.kind=0 then addA β c.root c.parent
 else if c.kind=1 then (if c.had then { β with X:=giveF (takeF β.X β.n c.frm (sumF σ.bs [c.who])) β.n c.root (sumF σ.bs [c.who]) } else { β with X:=giveF β.X β.n c.root (sumF σ.bs [c.who]) })
 else if c.kind=2 then (if c.had then { β with X:=takeF β.X β.n c.frm (sumF σ.bs [c.who]) } else β)
 else cutA (passF β (boostF σ.bs σ.S σ.B) σ.boosted) fun r=>(σ.F r).isSome
def anx (σ:St) (β:Arr) (cs:List Cg) (j:Nat):Arr:=(cs.take j).foldl (astepC σ) β
theorem anx_succ {σ:St} {β:Arr} {cs:List Cg} {j:Nat} {x:Cg} (h:cs[j]? = some x):anx σ β cs (j+1)=astepC σ (anx σ β cs j) x:=by
 unfold anx;rw [List.take_add_one,h,List.foldl_append];rfl
theorem anx_all (σ:St) (β:Arr) (cs:List Cg):anx σ β cs cs.length=cs.foldl (astepC σ) β:=by unfold anx;rw [List.take_length]
section
variable {w0:World} {I:Ids} {σ:St} {J:AIds} {α:Arr} {M N:Nat}
set_option maxHeartbeats 16000000 in
theorem feed_calls (h:StoreAt w0 I σ) (hI:Inv σ N) (hN:N < 1000) (ha:ArrAt w0 J I.p α) (hx:I.ex=AOwn J) (hcv:ACov α σ M) (hM:M≤1500) {e:Ev} (hB:EvB e) {cells:Array Value} (he:EvAt w0 (fun i=>i < w0.heap.size∧¬ Mut I i) e cells) :
  Calls Tryz.prog 157 #[.pointer (some ⟨J.q,0,none⟩),.agg cells] w0 fun z w'=>∃ E c2 t2 g c σ' α' cs',z=.returned (errV E)∧Applied σ e E σ' cs'∧StoreAt w' { I with ch:=c2,tb:=t2,ex:=AOwn { J with g:=g,c:=c } } σ' ∧
   ArrAt w' { J with g:=g,c:=c } I.p α'∧Inv σ' (N+1)∧ACov α' σ' (M+1)∧Adds σ σ' cs'∧Chg (fun i=>Mut I i∨AOwn J i) w0 w'∧(g=J.g∨w0.heap.size≤g)∧(t2=I.tb∨w0.heap.size≤t2)∧α'=cs'.foldl (astepC σ') α:=by
 obtain ⟨va,vc,pa,pc,vw,vwc,aw,ac,bw,bc,rfl,k1,k2,k3,k4,k5,k6,k7,k8⟩:=he;have hev:EvAt w0 (fun i=>i < w0.heap.size∧¬ Mut I i) e (evC e va vc pa pc vw vwc aw ac bw bc):=⟨va,vc,pa,pc,vw,vwc,aw,ac,bw,bc,rfl,k1,k2,k3,k4,k5,k6,k7,k8⟩;have HEV:=lh hev;have HH:=lh h;have HA:=lh ha;have hpl:=h.blk.lt;have hql:=ha.blk.lt;have HX:=lh hx;have HI:=lh hI;have HCV:=lh hcv;have HB:=lh hB;clear hx hI hcv hB;clear h ha hev k1 k2 k3 k4 k5 k6 k7 k8;go_enter Tryz.func157,Tryz.ntmps157
 go_upto_region 1 with (fail)
 refine nmC1 ?_;intro W b0 hz hg;obtain ⟨qb,hq_qb⟩ : ∃ q,q=w0.heap.size:=⟨_,rfl⟩;rw [← hq_qb] at b0 hz hpl hql ⊢;have HQ_qb:=lh hq_qb;clear hq_qb;change Blk W qb (evC e va vc pa pc vw vwc aw ac bw bc) 68 at b0;have HB0:=lh b0;have HG:=lh hg;clear b0 hg;replace HH:=lh (HH.out.g HG.out);replace HA:=lh (HA.out.kept0 HG.out);replace HEV:=lh (HEV.out.g HG.out);have TK:=lh fun w (hSw:(fun wr=>StoreAt wr I σ∧ArrAt wr J I.p α∧Blk wr qb (evC e va vc pa pc vw vwc aw ac bw bc) 68∧EvAt wr (fun i=>i < qb∧¬ Mut I i) e (evC e va vc pa pc vw vwc aw ac bw bc)) w)=>show w.cell? ⟨J.q,0,none⟩=some (.pointer (some ⟨I.p,0,none⟩)) from hSw.2.1.blk.at 0
 refine wp_region_late (fun wr=>StoreAt wr I σ∧ArrAt wr J I.p α∧Blk wr qb (evC e va vc pa pc vw vwc aw ac bw bc) 68∧EvAt wr (fun i=>i < qb∧¬ Mut I i) e (evC e va vc pa pc vw vwc aw ac bw bc)) [5] (by as_aux_lemma=>kernel_rfl) ?_;have hgd:=gdrew (gR W none);have hS:(fun wr=>StoreAt wr I σ∧ArrAt wr J I.p α∧Blk wr qb (evC e va vc pa pc vw vwc aw ac bw bc) 68∧EvAt wr (fun i=>i < qb∧¬ Mut I i) e (evC e va vc pa pc vw vwc aw ac bw bc)) W.drew:=
  ⟨HH.out.g hgd,HA.out.kept0 hgd,HB0.out.g hgd,(HEV.out.g hgd).chg (S:=fun _=>False) (Chg.refl _ _) (fun _ _ h=>h) (fun i hi=>⟨by rw [HQ_qb.out];exact hi.1,hi.2⟩)⟩
 replace HG:=lh (g2 HG.out hgd);clear hgd HH HA HB0 HEV;generalize W.drew=w2 at HG hS ⊢;refine pM 0 ?_;simp only [zz];refine pM 1 ?_;simp only [zz];refine pM 2 ?_;simp only [zz];refine tM 3 ?_;simp only [zz];refine wM 4 ?_ ?_ hS ?_;rotate_left;· intro w hSw;(refine exec_load_blk (ty:=68) (off:=0) (hSw.2.2.1) ?_ _ Tryz.underlying68 rfl (evC e va vc pa pc vw vwc aw ac bw bc) ?_ ?_ <;> first | exact ⟨_,rfl,rfl⟩ | rfl | (as_aux_lemma=>kernel_rfl))
 simp only [zz];refine rM 5 fun K hK=>?_;go_simp;have hqb2:=hS.2.2.1.lt;refine (apply_calls hS.1 HI.out hN HB.out (hS.2.2.2.chg (S:=fun _=>False) (Chg.refl _ _) (fun _ _ h=>h) (fun i hi=>⟨by omega,hi.2⟩))).mono ?_;rintro e2 w3 ⟨E,I2,σ2,cs2,rfl,hapd⟩;have ha3:=hS.2.1.chg hapd.chg (hS.1.exd _ (by rw [HX.out];exact .inl rfl)) (hS.1.exd _ (by rw [HX.out];exact .inr rfl));have hids:=hapd.ids;obtain ⟨c2,hc2⟩ : ∃ c2,c2=I2.ch:=⟨_,rfl⟩;obtain ⟨t2,ht2⟩ : ∃ t2,t2=I2.tb:=⟨_,rfl⟩;rw [← hc2,← ht2] at hids;clear hc2 ht2;subst hids;have hads:=hapd.ap.adds HI.out.wf HB.out;have hrow:=own_base hapd.row HG.out.size;have hcc:Chg (fun i=>Mut I i∨AOwn J i) w0 w3:=(Chg.of HG.out).trans (hapd.chg.mono (fun i hi=>.inl hi));have hfw:FW w0 w3 I c2 t2 J J.g J.c σ2 α M 0 cs2:=⟨by
  have h:=hapd.st;rw [show AOwn { J with g:=J.g,c:=J.c }=I.ex from HX.out.symm];exact h,ha3,hrow,hcc,HCV.out.start hads,.inl rfl⟩
 have hmay:MayBe σ2.bs σ2.S σ2.B:=hapd.inv.wf.may;have hff:=hapd.inv.wf.tree.first
 have htb:t2=I.tb∨w0.heap.size≤t2:=hapd.tbn.imp id (fun h=>Nat.le_trans HG.out.size h);have HAP:=lh (And.intro hapd.ap (And.intro hapd.inv htb));have hlen:=hapd.len;obtain ⟨sa,sc,rfl,hsa⟩:=own_slice hrow;clear HG hapd ha3 hrow hcc hqb2 htb;have HF:=lh hfw;have HADS:=lh hads;have HM2:=lh hmay;have HFF:=lh hff;have HSA:=lh hsa;clear hfw hads hmay hff hsa;obtain ⟨EV,hEV⟩ : ∃ EV,EV=errV E:=⟨_,rfl⟩;rw [← hEV];have HEVV:=lh hEV;clear hEV;refine hK.out _ _ (.inr (by decide)) ?_;clear hK K;refine pM 6 ?_;simp only [zz];refine pM 7 ?_;simp only [zz];refine pM 8 ?_;simp only [zz];refine pM 9 ?_;simp only [zz];refine pM 10 ?_;simp only [zz];refine dM ?_ _;go_wp2_with fail
 go_loopw [21] (fun v21 wr=>∃ (j:Nat),v21=.int .i64 (j:Int)∧j≤cs2.length∧∃ g c β,FW w0 wr I (.slice sa cs2.length sc) t2 J g c σ2 β M j cs2∧β=anx σ2 α cs2 j) (fun v21 _=>cs2.length - (intOf v21).toNat)
 case atStart=>exact ⟨0,rfl,by omega,_,_,_,HF.out,rfl⟩
 case round=>
  obtain ⟨j,rfl,hj,g,c,β,hfw,hbe⟩:=hrel;have HBE:=lh hbe;clear HF hbe;by_cases hlt:j < cs2.length
  ·obtain ⟨x,hx⟩ : ∃ x,cs2[j]? = some x:=⟨_,List.getElem?_eq_getElem hlt⟩;obtain ⟨gc,hgc⟩:=HSA.out (by omega);subst hgc;obtain ⟨d0,d1,d2,d3,d4,d5⟩:=cg_cells hfw.row hx;obtain ⟨hk,hw0,hw1⟩:=HADS.out.who x (List.mem_of_getElem? hx);have hin:=HADS.out.root x (List.mem_of_getElem? hx);have hnx:=anx_succ (σ:=σ2) (β:=α) hx;rw [← HBE.out] at hnx;unfold astepC at hnx;have hj0:x.kind=0→j=0:=fun hk=>by
    rcases Nat.eq_zero_or_pos j with h | h
    ·exact h
    ·exact absurd hk (HADS.out.tail j x hx h)
   obtain ⟨k,r,q,wh,fm,hd⟩:=x;simp only at d0 d1 d2 d3 d4 d5 hk hw0 hw1 hin hj0 hnx;have HNX:=lh hnx;clear hnx;have hpl3:=hfw.st.blk.lt;have hql3:=hfw.ar.blk.lt;have hgl3:=hfw.ar.row.lt;simp only at hpl3 hql3 hgl3;have HF:=lh hfw;have HXJ:=lh hx;have HIN:=lh hin;have HJ0:=lh hj0;clear hfw hx hin hj0;clear hpl hql;go_upto_region 5 with (fail)
   clear d0 d1 d2 d3 d4 d5;refine nmC1 ?_;intro W4 b4 hz4 hg4;obtain ⟨qc,hq_qc⟩ : ∃ q,q=wr.heap.size:=⟨_,rfl⟩;rw [← hq_qc] at b4 hz4 hql3 hpl3 hgl3 ⊢;have HQ_qc:=lh hq_qc;clear hq_qc;have HQC:=lh b4;replace HF:=lh (HF.out.g hg4);clear b4 hg4 hz4;have hwf:(Lit.int .i64 wh).wf=true:=by simp [Lit.wf,IntKind.min,IntKind.max,IntKind.signed,IntKind.bits];omega
   have HWF:=lh hwf;clear hwf hw0 hw1;have TK:=lh fun w (hSw:(fun wr=>FW w0 wr I (.slice (some ⟨gc,0,none⟩) cs2.length sc) t2 J g c σ2 β M j cs2∧Blk wr qc #[.int .i64 k,.int .u64 r,.int .u64 q,.int .i64 wh,.int .u64 fm,.bool hd] 178) w)=>And.intro (show w.cell? ⟨J.q,0,none⟩=some (.pointer (some ⟨I.p,0,none⟩)) from hSw.1.ar.blk.at 0) <| And.intro hSw.1.st.s0 <| And.intro hSw.1.st.s1 <| And.intro hSw.1.st.s2 <| show w.cell? ⟨qc,3,none⟩=some (.int .i64 wh) from hSw.2.at 3
   refine wp_region_late (fun wr=>FW w0 wr I (.slice (some ⟨gc,0,none⟩) cs2.length sc) t2 J g c σ2 β M j cs2∧Blk wr qc #[.int .i64 k,.int .u64 r,.int .u64 q,.int .i64 wh,.int .u64 fm,.bool hd] 178) [] (by as_aux_lemma=>kernel_rfl) ?_;have hgd:=gdrew (gR W4 none);have hS:(fun wr=>FW w0 wr I (.slice (some ⟨gc,0,none⟩) cs2.length sc) t2 J g c σ2 β M j cs2∧Blk wr qc #[.int .i64 k,.int .u64 r,.int .u64 q,.int .i64 wh,.int .u64 fm,.bool hd] 178) W4.drew:=⟨HF.out.g hgd,HQC.out.g hgd⟩;clear hgd HF HQC;generalize W4.drew=w5 at hS ⊢;refine pM 0 ?_;simp only [zz];refine pM 1 ?_;simp only [zz];refine pM 2 ?_;simp only [zz];refine pM 7 ?_;simp only [zz];refine tM 3 ?_;simp only [zz];refine pM 4 ?_;simp only [zz];refine pM 5 ?_;simp only [zz];refine tM 6 ?_;simp only [zz];refine tM 8 ?_;simp only [zz];refine rM 9 fun K hK=>?_;go_simp;refine nmA1 ?_;intro w6 b6 hg6;generalize w5.heap.size=gm at b6 ⊢;have HB6:=lh b6;have hS2:(fun wr=>_) w6:=And.intro (hS.1.g hg6) (hS.2.g hg6);clear hg6 b6;refine hK.out _ _ (.inl (fun _=>hS2)) ?_;replace hS:=hS2;clear hK K hS2;try simp only [zz]
   refine rM 10 fun K hK=>?_;go_simp;refine (sum_calls (ks:=[wh]) hS.1.st.bal rfl (Ints.one HB6.out) rfl HM2.out.bal (by simp) (wf_one wh HWF.out)).mono ?_;rintro e w7 ⟨rfl,hg7⟩;have hS2:(fun wr=>_) w7:=And.intro (hS.1.g hg7) (hS.2.g hg7);have hnx:=HNX.out;generalize sumF σ2.bs [wh]=sm at hnx ⊢;replace HNX:=lh hnx;clear hnx;clear hg7 HB6;refine hK.out _ _ (.inl (fun _=>hS2)) ?_;replace hS:=hS2;clear hK K hS2;try simp only [zz]
   refine pM 11 ?_;simp only [zz];refine dM ?_ _;have hfw:=hS.1;have hqc:=hS.2;clear hS;have HF:=lh hfw;have HQC:=lh hqc;clear hfw hqc;rcases hk with rfl | rfl | rfl | rfl
   ·have r0:w7.cell? ⟨qc,0,none⟩=some (.int .i64 0):=HQC.out.at 0;go_upto_region 9 with (fail)
    clear r0;have hj00:=HJ0.out rfl;have hacj:=HF.out.acj;have hn3:=hacj.n3 hj00;have hadd:=hacj.added HXJ.out hj00 (HIN.out rfl) q;have HADD:=lh hadd;clear hacj hadd hj00;have TK:=lh fun w (hSw:(fun wr=>Blk wr J.q #[.pointer (some ⟨I.p,0,none⟩),.slice (some ⟨g,0,none⟩) β.n c,.int .u64 β.b] 110∧Blk wr qc #[.int .i64 0,.int .u64 r,.int .u64 q,.int .i64 wh,.int .u64 fm,.bool hd] 178) w)=>And.intro (show w.cell? ⟨J.q,1,none⟩=some (.slice (some ⟨g,0,none⟩) β.n c) from hSw.1.at 1) <| And.intro (show w.cell? ⟨qc,1,none⟩=some (.int .u64 r) from hSw.2.at 1) <| show w.cell? ⟨qc,2,none⟩=some (.int .u64 q) from hSw.2.at 2
    refine wp_region_late (fun wr=>Blk wr J.q #[.pointer (some ⟨I.p,0,none⟩),.slice (some ⟨g,0,none⟩) β.n c,.int .u64 β.b] 110∧Blk wr qc #[.int .i64 0,.int .u64 r,.int .u64 q,.int .i64 wh,.int .u64 fm,.bool hd] 178) [16] (by as_aux_lemma=>kernel_rfl) ?_;have hgd:=gdrew (gR w7 none);have hS:(fun wr=>Blk wr J.q #[.pointer (some ⟨I.p,0,none⟩),.slice (some ⟨g,0,none⟩) β.n c,.int .u64 β.b] 110∧Blk wr qc #[.int .i64 0,.int .u64 r,.int .u64 q,.int .i64 wh,.int .u64 fm,.bool hd] 178) w7.drew:=⟨HF.out.ar.blk.g hgd,HQC.out.g hgd⟩;have HFW:=lh (HF.out.g hgd);clear hgd HQC HF;obtain ⟨i0,hi0⟩:=elem_nd;have HI0:=lh hi0;clear hi0;generalize w7.drew=w8 at hS HFW ⊢;refine pM 0 ?_;simp only [zz];refine pM 1 ?_;simp only [zz];refine pM 2 ?_;simp only [zz];refine pM 3 ?_;simp only [zz];refine pM 5 ?_;simp only [zz];refine pM 7 ?_;simp only [zz];refine pM 8 ?_;simp only [zz];refine tM 4 ?_;simp only [zz];refine tM 6 ?_;simp only [zz];refine tM 9 ?_;simp only [zz];refine rM 10 fun K hK=>?_;go_simp;refine (find_calls HFW.out.ar q).mono ?_;rintro e w9 ⟨rfl,hg⟩;have hS2:(fun wr=>_) w9:=And.intro (hS.1.g hg) (hS.2.g hg);replace HFW:=lh (HFW.out.g hg);clear hg;obtain ⟨at_,hat⟩ : ∃ at_,at_=fnd β.X q β.n:=⟨_,rfl⟩;rw [← hat];have HAT:=lh hat;clear hat;refine hK.out _ _ (.inl (fun _=>hS2)) ?_;replace hS:=hS2;clear hK K hS2;try simp only [zz]
    refine pM 11 ?_;simp only [zz];refine rM 12 fun K hK=>?_;go_simp;refine nmA1 ?_;intro w10 b10 hg;generalize hgm:w9.heap.size=gm at b10 ⊢;have hS2:(fun wr=>_) w10:=And.intro (hS.1.g hg) (hS.2.g hg);have HB10:=lh b10;have hsz9:g < gm:=by rw [← hgm];exact HFW.out.ar.row.lt
    replace HFW:=lh (HFW.out.g hg);clear hg b10 hgm;refine hK.out _ _ (.inl (fun _=>hS2)) ?_;replace hS:=hS2;clear hK K hS2;try simp only [zz]
    refine rM 13 fun K hK=>?_;refine wp_append_lies _ _ _ 108 (by rfl) 0 150 i0 (.agg #[.int .u64 0,.int .i64 0,.int .u64 0,.int .u64 0,.int .u64 0]) 5 40 Tryz.underlying108 HI0.out.1 HI0.out.2.1 HI0.out.2.2.1 HI0.out.2.2.2 rfl (by decide) (.slice (some ⟨g,0,none⟩) β.n c) β.n (rowsOf β.X β.n) (by rfl) (HFW.out.ar.row.owns (Nat.zero_le _)) ⟨gm,0,none⟩ 1 1
     [.int .u64 r,.int .i64 at_,.int .u64 0,.int .u64 0,.int .u64 0] (by rfl) (by rfl) (World.news_of_block HB10.out) (by simp [Value.oneCell']) (by omega) (by unfold maxLen;omega) (by omega) (Nat.zero_le _) _ rfl ?_
    intro g1 c1 w11 hown hg11 hat11 hlt11;have hrow:rowsOf β.X β.n++[.int .u64 r,.int .i64 at_,.int .u64 0,.int .u64 0,.int .u64 0]=rowsOf (nset β.X β.n ⟨r,at_,0,0,0⟩) (β.n+1):=by
     rw [rowsOf_succ,rowsOf_congr β.n (X:=nset β.X β.n ⟨r,at_,0,0,0⟩) (Y:=β.X) (fun i hi=>by unfold nset;rw [if_neg (by omega)])];simp [nset]
    rw [hrow] at hown;have hb11:=hS.1.kept hg11 (by simpa [Value.ownBlock] using fun e=>HFW.out.ar.ne e.symm);have hS2:(fun wr=>_) w11:=And.intro hb11 (hS.2.kept hg11 (by simp [Value.ownBlock];omega));have HN11:=lh (NAt.of_owns hown);have hsz:=HFW.out.ar.row.lt;have hg1:g1=g∨w10.heap.size≤g1:=by
     rcases hat11 with h | h
     ·left;simpa [Value.ownBlock] using h.symm
     ·right;omega
    have HG1:=lh hg1;have HG11:=lh hg11;clear hown hrow hat11 hsz hg1 hg11 hb11;refine hK.out _ _ (.inl (fun _=>hS2)) ?_;replace hS:=hS2;clear hK K hS2;try simp only [zz]
    refine pM 14 ?_;simp only [zz];refine pM 15 ?_;simp only [zz];refine rM 16 fun K hK=>?_;have a1:w11.cell? ⟨J.q,1,none⟩=some (.slice (some ⟨g,0,none⟩) β.n c):=hS.1.at 1;have f1:=hS.1.fr 1;go_simp;refine hK.out _ _ (.inr (by decide)) ?_;clear hK K;try simp only [zz]
    refine dM ?_ _;have hs:=hS.1.set 1 (.slice (some ⟨g1,0,none⟩) (β.n+1) c1);simp only [List.setIfInBounds_toArray,List.set_cons_zero,List.set_cons_succ] at hs;have hg12:=gset w11 J.q 1 (.slice (some ⟨g1,0,none⟩) (β.n+1) c1);have hne:J.q≠g:=HFW.out.ar.ne;have hbA:J.q < w10.heap.size:=HFW.out.ar.blk.lt;have hne1:J.q≠g1:=by rcases HG1.out with h | h <;> omega
    have hn12:=HN11.out.kept hg12 (by simpa using hne1);have hcA:Chg (AOwn { J with g:=g,c:=c }) w10 (w11.setCell ⟨J.q,1,none⟩ (.slice (some ⟨g1,0,none⟩) (β.n+1) c1)):=(Chg.one HG11.out (.inr rfl)).trans (Chg.one hg12 (.inl rfl));have hsz11:=hcA.size;have hN0:0 < σ2.bs.length:=by have:=HM2.out.l1;omega
    have hgA:g < w10.heap.size:=HFW.out.ar.row.lt;have hst:=HFW.out.st.reex hN0 hcA (AOwn { J with g:=g1,c:=c1 }) (fun i hi=>by
     rcases hi with hi | hi
     ·exact .inl (.inl hi)
     ·rw [hi];rcases HG1.out with h | h
      ·exact .inl (.inr h)
      ·exact .inr h) (fun i hi=>by
     rcases hi with hi | hi
     ·rw [hi];show J.q < _;omega
     ·rw [hi];show g1 < _;have:=HN11.out.lt;simpa using this)
    have hat:ArrAt _ { J with g:=g1,c:=c1 } I.p (addA β r q):=⟨hs,by unfold addA;simp only;rw [← HAT.out];exact hn12,hne1,by show β.n+1≤100000;omega⟩;have hfw:=HFW.out.chgd hst hat hcA HG1.out HADD.out;generalize w11.setCell ⟨J.q,1,none⟩ (.slice (some ⟨g1,0,none⟩) (β.n+1) c1)=w12 at hfw ⊢;clear hs hg12 hn12 hcA hsz11 HFW HG11 HN11 hS HB10 hst hat;have HF:=lh hfw;clear hfw;go_wp2_with fail
    exact ⟨⟨j+1,by simp,by omega,_,_,_,HF.out,by rw [HNX.out];simp⟩,by simp [intOf];omega⟩
   ·have r0:w7.cell? ⟨qc,0,none⟩=some (.int .i64 1):=HQC.out.at 0;have r1:w7.cell? ⟨qc,1,none⟩=some (.int .u64 r):=HQC.out.at 1;have r4:w7.cell? ⟨qc,4,none⟩=some (.int .u64 fm):=HQC.out.at 4;have r5:w7.cell? ⟨qc,5,none⟩=some (.bool hd):=HQC.out.at 5;cases hd
    ·go_wp2_with fail
     refine (give_calls HF.out.ar r sm).mono ?_;rintro e w8 ⟨rfl,har,hg8⟩;have hfw:=(HF.out.gave har hg8).next HXJ.out (by simp)
     clear har hg8 HF HQC r0 r1 r4 r5;have HF:=lh hfw;clear hfw;go_wp2_with fail
     exact ⟨⟨j+1,by simp,by omega,_,_,_,HF.out,by rw [HNX.out];simp⟩,by simp [intOf];omega⟩
    ·go_wp2_with fail
     refine (take_calls HF.out.ar fm sm).mono ?_;rintro e w8 ⟨rfl,har,hg8⟩;have hfw:=HF.out.took har hg8;have hqc:=HQC.out.kept hg8 (by simp;omega);clear har hg8 HF HQC r0 r1 r4 r5;have r0:w8.cell? ⟨qc,0,none⟩=some (.int .i64 1):=hqc.at 0;have r1:w8.cell? ⟨qc,1,none⟩=some (.int .u64 r):=hqc.at 1;have HF:=lh hfw;have HQC:=lh hqc;clear hfw hqc;go_wp2_with fail
     refine (give_calls HF.out.ar r sm).mono ?_;rintro e w9 ⟨rfl,har,hg9⟩;have hfw:=(HF.out.gave har hg9).next HXJ.out (by simp)
     clear har hg9 HF HQC r0 r1;have HF:=lh hfw;clear hfw;go_wp2_with fail
     exact ⟨⟨j+1,by simp,by omega,_,_,_,HF.out,by rw [HNX.out];simp⟩,by simp [intOf];omega⟩
   ·have r0:w7.cell? ⟨qc,0,none⟩=some (.int .i64 2):=HQC.out.at 0;have r4:w7.cell? ⟨qc,4,none⟩=some (.int .u64 fm):=HQC.out.at 4;have r5:w7.cell? ⟨qc,5,none⟩=some (.bool hd):=HQC.out.at 5;cases hd
    ·have hfw:=HF.out.next HXJ.out (by simp)
     clear HF;have HF:=lh hfw;clear hfw;go_wp2_with fail
     exact ⟨⟨j+1,by simp,by omega,_,_,_,HF.out,by rw [HNX.out];simp⟩,by simp [intOf];omega⟩
    ·go_wp2_with fail
     refine (take_calls HF.out.ar fm sm).mono ?_;rintro e w8 ⟨rfl,har,hg8⟩;have hfw:=(HF.out.took har hg8).next HXJ.out (by simp)
     have hqc:=HQC.out.kept hg8 (by simp;omega);clear har hg8 HF HQC r0 r4 r5;have r0:w8.cell? ⟨qc,0,none⟩=some (.int .i64 2):=hqc.at 0;have HF:=lh hfw;have HQC:=lh hqc;clear hfw hqc;go_wp2_with fail
     exact ⟨⟨j+1,by simp,by omega,_,_,_,HF.out,by rw [HNX.out];simp⟩,by simp [intOf];omega⟩
   ·have r0:w7.cell? ⟨qc,0,none⟩=some (.int .i64 3):=HQC.out.at 0;go_wp2_with fail
    have hacj:=HF.out.acj;have hn2:=hacj.n2;obtain ⟨γ,hγ⟩ : ∃ γ,γ=passF β (boostF σ2.bs σ2.S σ2.B) σ2.boosted:=⟨_,rfl⟩;have HGA:=lh hγ.symm;have hγn:γ.n=β.n:=by rw [hγ];rfl
    have hγp : ∀ i,(γ.X i).p=(β.X i).p:=fun i=>by rw [hγ];exact passF_p _ _ _ i
    have hγr : ∀ i,(γ.X i).r=(β.X i).r:=fun i=>by rw [hγ];exact passF_r _ _ _ i
    have hko:=hacj.cutok HXJ.out (by simp) HADS.out.tail HFF.out hγn hγr;have hcut:=hacj.cut HXJ.out (by simp) HADS.out.tail HFF.out hγn hγp hγr;refine (acut_calls HF.out.st HM2.out HF.out.ar rfl hacj.par hacj.root (by omega) hγ hko).mono ?_;rintro e w8 ⟨rfl,g1,c1,har,hst,hc,hg1⟩;have hfw:=HF.out.chgd hst har hc (.inr hg1) hcut;clear har hst hc hg1 HF HQC r0 hacj hγ hγn hγp hγr hko hcut hn2;have HF:=lh hfw;clear hfw;go_wp2_with fail
    exact ⟨⟨j+1,by simp,by omega,_,_,_,HF.out,by rw [HNX.out,HGA.out];simp⟩,by simp [intOf];omega⟩
  ·have hje:j=cs2.length:=by omega
   subst hje;have HF:=lh hfw;clear hfw;go_wp2_with fail
   go_ret;exact ⟨E,_,t2,g,c,σ2,_,cs2,by rw [HEVV.out];rfl,HAP.out.1,HF.out.st,HF.out.ar,HAP.out.2.1,HF.out.acj.done,HADS.out,HF.out.chg,HF.out.new,HAP.out.2.2,by rw [HBE.out,anx_all]⟩
end
end Go.Proofs.YtndfpmboanohcaaGreatDoor
namespace Go.Proofs.YtndfpmboanohcaaGreatDoor
open Go.RowKit Go.Extern.Stop Go.Stop Go.Extern
theorem Nb.valueOf124 (t:Addr) (w:World):(ReflectliteValue.unpack (.iface 124 (.pointer (some t)))).run Tryz.prog w
  = .ok (.agg #[.pointer (some ⟨1,124,none⟩),.pointer (some ⟨w.heap.size,0,none⟩),.int .u64 150]) (w.alloc (.cells #[.pointer (some t)] 124)):=by kernel_rfl
theorem Nb.type124 (a : Addr) (w : World) : (ReflectliteValue.methodAny (ReflectliteValue.valueError "reflectlite.Value.Type" 0) (fun t _ _ _ => ReflectliteType.toType t) #[.agg #[.pointer (some ⟨1, 124, none⟩), .pointer (some a), .int .u64 150]]).run Tryz.prog w
  = .ok (.iface 199 (.agg #[.pointer (some ⟨1,124,none⟩)])) w:=by kernel_rfl
theorem Nb.methodKind (h : Value) (w : World) : (Go.method 402 199 (.agg #[h]) "Kind").run Tryz.prog w = .ok (139, h) w := by kernel_rfl
theorem Nb.kind124 (w:World):((ReflectliteType.abiMethod fun t=>(fun a:Nat=>Value.int IntKind.u8 (a:Int)) <$> Rtype.kind t) #[.pointer (some ⟨1,124,none⟩)]).run Tryz.prog w=.ok (.int .u8 22) w:=by kernel_rfl
theorem Nb.kind46 (w:World):((ReflectliteType.abiMethod fun t=>(fun a:Nat=>Value.int IntKind.u8 (a:Int)) <$> Rtype.kind t) #[.pointer (some ⟨1,46,none⟩)]).run Tryz.prog w=.ok (.int .u8 2) w:=by kernel_rfl
theorem Nb.rlm (z:Sem Value) (f:TypeId→Addr→Nat→Nat→Sem Value) (v:Value) :
  ReflectliteValue.method z f #[v]=(do match ← ReflectliteValue.parts v with | none=>z | some (t,a,fl)=>f t a fl (fl % 32)):=rfl
theorem Nb.parts124 (a:Addr) (w:World):(ReflectliteValue.parts (.agg #[.pointer (some ⟨1,124,none⟩),.pointer (some a),.int .u64 150])).run Tryz.prog w=.ok (some (124,a,150)) w:=by kernel_rfl
theorem Nb.isNil124 (a p:Addr) (W:World) (ha:W.cell? a=some (.pointer (some p))) :
  (ReflectliteValue.method (ReflectliteValue.valueError "reflectlite.Value.IsNil" 0) ReflectliteValue.isNil #[.agg #[.pointer (some ⟨1, 124, none⟩), .pointer (some a), .int .u64 150]]).run Tryz.prog W = .ok (.bool false) W := by
 rw [Nb.rlm];simp only [Sem.run_bind,Nb.parts124,Result.andThen];simp [ReflectliteValue.isNil,loadVar,isAgg,underlying,Tryz.underlying124,ha,Result.andThen]
theorem Nb.methodElem (h : Value) (w : World) : (Go.method 402 199 (.agg #[h]) "Elem").run Tryz.prog w = .ok (184, .agg #[h]) w := by kernel_rfl
theorem Nb.methodImplements (h : Value) (w : World) : (Go.method 402 199 (.agg #[h]) "Implements").run Tryz.prog w = .ok (185, .agg #[h]) w := by kernel_rfl
theorem Nb.methodAssignableTo (h : Value) (w : World) : (Go.method 402 199 (.agg #[h]) "AssignableTo").run Tryz.prog w = .ok (182, .agg #[h]) w := by kernel_rfl
theorem Nb.elem124 (w:World):(ReflectliteType.method ReflectliteType.elem #[.agg #[.pointer (some ⟨1,124,none⟩)]]).run Tryz.prog w=.ok (.iface 199 (.agg #[.pointer (some ⟨1,46,none⟩)])) w:=by kernel_rfl
theorem Nb.implements46 (w : World) : (ReflectliteType.relation "Implements" ReflectliteType.implements_ #[.agg #[.pointer (some ⟨1, 46, none⟩)], .iface 199 (.agg #[.pointer (some ⟨1, 42, none⟩)])]).run Tryz.prog w = .ok (.bool true) w := by kernel_rfl
theorem Nb.typeOf46 (v:Value) (w:World):(ReflectliteType.typeOf #[.iface 46 v]).run Tryz.prog w=.ok (.iface 199 (.agg #[.pointer (some ⟨1,46,none⟩)])) w:=by kernel_rfl
theorem Nb.assignable46 (w : World) : (ReflectliteType.relation "AssignableTo" ReflectliteType.assignableTo #[.agg #[.pointer (some ⟨1, 46, none⟩)], .iface 199 (.agg #[.pointer (some ⟨1, 46, none⟩)])]).run Tryz.prog w = .ok (.bool true) w := by kernel_rfl
theorem Nb.valueOf46 (k:Int) (w:World):(ReflectliteValue.unpack (.iface 46 (.int .i64 k))).run Tryz.prog w
  = .ok (.agg #[.pointer (some ⟨1,46,none⟩),.pointer (some ⟨w.heap.size,0,none⟩),.int .u64 130]) (w.alloc (.cells #[.int .i64 k] 46)):=by kernel_rfl
theorem Nb.elemOf124 (w:World):(Rtype.elem? 124).run Tryz.prog w=.ok (some 46) w:=by kernel_rfl
theorem Nb.mk46 (p:Addr) (w:World):(ReflectliteValue.mk 46 p ReflectliteValue.flagAddr).run Tryz.prog w=.ok (.agg #[.pointer (some ⟨1,46,none⟩),.pointer (some p),.int .u64 386]) w:=by kernel_rfl
theorem Nb.elemV124 (a p:Addr) (W:World) (ha:W.cell? a=some (.pointer (some p))) :
  (ReflectliteValue.method (ReflectliteValue.valueError "reflectlite.Value.Elem" 0) ReflectliteValue.elem #[.agg #[.pointer (some ⟨1, 124, none⟩), .pointer (some a), .int .u64 150]]).run Tryz.prog W
    = .ok (.agg #[.pointer (some ⟨1,46,none⟩),.pointer (some p),.int .u64 386]) W:=by
 rw [Nb.rlm];simp only [Sem.run_bind,Nb.parts124,Result.andThen];simp [ReflectliteValue.elem,loadVar,isAgg,underlying,Tryz.underlying124,ha,Result.andThen,Nb.elemOf124,Nb.mk46]
theorem Nb.rls (v x:Value):ReflectliteValue.set #[v,x]=(do
  let (some (dst,a,fl),some (src,b,_)):=(← ReflectliteValue.parts v,← ReflectliteValue.parts x)
   | unsupported (.noEntry "extern/(internal/reflectlite.Value).Set.zeroValue")
  if fl / ReflectliteValue.flagAddr % 2 == 0 then unsupported (.noEntry "extern/(internal/reflectlite.Value).Set.unaddressable")
  let val ← loadVar src b
  if ← Rtype.directlyAssignable dst src then storeVar dst a val
  else if ← Rtype.implements dst src then
   if (← Rtype.kind src) == 20 then
    match val with
    | .nilIface => unsupported (.noEntry "extern/reflectlite: a nil value of one interface type handed on as a value of another")
    | _=>storeVar dst a val
   else storeVar dst a (.iface src val)
  else panicString ("reflectlite.Set: value of type " ++ (← Rtype.spelt src) ++ " is not assignable to type " ++ (← Rtype.spelt dst))
  pure (.tuple #[])):=rfl
theorem Nb.parts46a (a:Addr) (w:World):(ReflectliteValue.parts (.agg #[.pointer (some ⟨1,46,none⟩),.pointer (some a),.int .u64 386])).run Tryz.prog w=.ok (some (46,a,386)) w:=by kernel_rfl
theorem Nb.parts46 (a:Addr) (w:World):(ReflectliteValue.parts (.agg #[.pointer (some ⟨1,46,none⟩),.pointer (some a),.int .u64 130])).run Tryz.prog w=.ok (some (46,a,130)) w:=by kernel_rfl
theorem Nb.direct46 (w:World):(Rtype.directlyAssignable 46 46).run Tryz.prog w=.ok true w:=by kernel_rfl
theorem Nb.set46 (ta b:Addr) (k:Int) (old:Value) (W:World) (hb:W.cell? b=some (.int .i64 k)) (ht:W.cell? ta=some old) (hf:W.frozen? ta=false) :
  (ReflectliteValue.set #[.agg #[.pointer (some ⟨1,46,none⟩),.pointer (some ta),.int .u64 386],.agg #[.pointer (some ⟨1,46,none⟩),.pointer (some b),.int .u64 130]]).run Tryz.prog W
    = .ok (.tuple #[]) (W.setCell ta (.int .i64 k)):=by
 rw [Nb.rls];simp only [Sem.run_bind,Nb.parts46a,Nb.parts46,Result.andThen];simp [ReflectliteValue.flagAddr,loadVar,isAgg,underlying,Tryz.underlying46,hb,Result.andThen,Nb.direct46,storeVar,Value.cells,storeCells,Addr.add];rw [run_store Tryz.prog W ta _ _ (by rfl)];simp [ht,hf]
theorem set_any (w:World) (t:Addr) (v:Value):w.grownBy (w.setCell t v) (some t.block):=
 ⟨rfl,rfl,rfl,by simp,fun k _ hk=>heap_setCell_other w t k v (fun e=>hk (by rw [e]))⟩
set_option maxHeartbeats 4000000 in
theorem as_errno (k:Int) (t:Addr) (old:Value) (w:World) (hg:w.cell? ⟨0,0,none⟩=some (.iface 199 (.agg #[.pointer (some ⟨1,42,none⟩)]))) (ht0:w.cell? t=some old) (hf0:w.frozen? t=false) :
  Calls Tryz.prog 26 #[.iface 46 (.int .i64 k),.iface 124 (.pointer (some t))] w fun ev w'=>ev=.returned (.bool true)∧w'.cell? t=some (.int .i64 k)∧w.grownBy w' (some t.block):=by
 have h6 := @run_callFunc_extern Tryz.prog 43 _ (fun args => ReflectliteValue.unpack (args.getD 0 (.tuple #[]))) Tryz.func43 (by kernel_rfl) (by kernel_rfl) (by kernel_rfl) (by kernel_rfl);have h7 := @run_callFunc_extern Tryz.prog 44 _ (ReflectliteValue.methodAny (ReflectliteValue.valueError "reflectlite.Value.Type" 0) (fun t _ _ _ => ReflectliteType.toType t)) Tryz.func44 (by kernel_rfl) (by kernel_rfl) (by kernel_rfl) (by kernel_rfl);have h8 := @run_callFunc_extern Tryz.prog 45 _ (ReflectliteValue.method (ReflectliteValue.valueError "reflectlite.Value.IsNil" 0) ReflectliteValue.isNil) Tryz.func45 (by kernel_rfl) (by kernel_rfl) (by kernel_rfl) (by kernel_rfl);have h27 := @run_callFunc_extern Tryz.prog 139 _ (ReflectliteType.abiMethod fun t => do pure (.int .u8 (← Rtype.kind t))) Tryz.func139 (by kernel_rfl) (by kernel_rfl) (by kernel_rfl) (by kernel_rfl);have h37 := @run_callFunc_extern Tryz.prog 184 _ (ReflectliteType.method ReflectliteType.elem) Tryz.func184 (by kernel_rfl) (by kernel_rfl) (by kernel_rfl) (by kernel_rfl);have h38 := @run_callFunc_extern Tryz.prog 185 _ (ReflectliteType.relation "Implements" ReflectliteType.implements_) Tryz.func185 (by kernel_rfl) (by kernel_rfl) (by kernel_rfl) (by kernel_rfl);have h10 := @run_callFunc_extern Tryz.prog 63 _ ReflectliteType.typeOf Tryz.func63 (by kernel_rfl) (by kernel_rfl) (by kernel_rfl) (by kernel_rfl);have h35 := @run_callFunc_extern Tryz.prog 182 _ (ReflectliteType.relation "AssignableTo" ReflectliteType.assignableTo) Tryz.func182 (by kernel_rfl) (by kernel_rfl) (by kernel_rfl) (by kernel_rfl);have h11 := @run_callFunc_extern Tryz.prog 64 _ (ReflectliteValue.method (ReflectliteValue.valueError "reflectlite.Value.Elem" 0) ReflectliteValue.elem) Tryz.func64 (by kernel_rfl) (by kernel_rfl) (by kernel_rfl) (by kernel_rfl);have h12 := @run_callFunc_extern Tryz.prog 65 _ ReflectliteValue.set Tryz.func65 (by kernel_rfl) (by kernel_rfl) (by kernel_rfl) (by kernel_rfl);have tO := Nb.typeOf46;have mA := Nb.methodAssignableTo;have a25 := Nb.assignable46;have v25 := Nb.valueOf46;have f6 := Nb.valueOf124;have f7 := Nb.type124;have mK := Nb.methodKind;have mE := Nb.methodElem;have mI := Nb.methodImplements;have k27 := Nb.kind124;have k25 := Nb.kind46;have e27 := Nb.elem124;have i25 := Nb.implements46;have n8 := Nb.isNil124 ⟨w.heap.size, 0, none⟩ t ((w.alloc (.cells #[.pointer (some t)] 124)).alloc (.cells #[.pointer (some ⟨1, 124, none⟩), .pointer (some ⟨w.heap.size, 0, none⟩), .int .u64 150] 158)) (by simp);have hlt : 0 < w.heap.size := by
  rcases Nat.eq_zero_or_pos w.heap.size with h0 | h
  ·simp [World.cell?,h0] at hg
  ·exact h
 have hg2:((w.alloc (.cells #[.pointer (some t)] 124)).alloc (.cells #[.pointer (some ⟨1,124,none⟩),.pointer (some ⟨w.heap.size,0,none⟩),.int .u64 150] 158)).cell? ⟨0,0,none⟩=some (.iface 199 (.agg #[.pointer (some ⟨1,42,none⟩)])):=by
  rw [World.cell?_alloc_lt _ _ ⟨0,0,none⟩ (by simp),World.cell?_alloc_lt _ _ ⟨0,0,none⟩ hlt];exact hg
 have htl:t.block < w.heap.size:=by
  rcases Nat.lt_or_ge t.block w.heap.size with h | h
  ·exact h
  ·simp [World.cell?,Array.getElem?_eq_none h] at ht0
 have el:=Nb.elemV124 ⟨w.heap.size,0,none⟩ t (((w.alloc (.cells #[.pointer (some t)] 124)).alloc (.cells #[.pointer (some ⟨1,124,none⟩),.pointer (some ⟨w.heap.size,0,none⟩),.int .u64 150] 158)).alloc (.cells #[.pointer (some ⟨1,124,none⟩),.pointer (some ⟨w.heap.size,0,none⟩),.int .u64 150] 158)) (by rw [World.cell?_alloc_lt _ _ ⟨w.heap.size,0,none⟩ (by simp;omega)];simp);have ht4:((((w.alloc (.cells #[.pointer (some t)] 124)).alloc (.cells #[.pointer (some ⟨1,124,none⟩),.pointer (some ⟨w.heap.size,0,none⟩),.int .u64 150] 158)).alloc (.cells #[.pointer (some ⟨1,124,none⟩),.pointer (some ⟨w.heap.size,0,none⟩),.int .u64 150] 158)).alloc (.cells #[.int .i64 k] 46)).cell? t=some old:=by rw [World.cell?_alloc_lt _ _ t (by simp;omega),World.cell?_alloc_lt _ _ t (by simp;omega),World.cell?_alloc_lt _ _ t (by simp;omega),World.cell?_alloc_lt _ _ t htl];exact ht0
 have st:=Nb.set46 t ⟨w.heap.size+1+1+1,0,none⟩ k old ((((w.alloc (.cells #[.pointer (some t)] 124)).alloc (.cells #[.pointer (some ⟨1,124,none⟩),.pointer (some ⟨w.heap.size,0,none⟩),.int .u64 150] 158)).alloc (.cells #[.pointer (some ⟨1,124,none⟩),.pointer (some ⟨w.heap.size,0,none⟩),.int .u64 150] 158)).alloc (.cells #[.int .i64 k] 46))
  (by rw [World.cell?_alloc_at _ _ _ _ (by simp)];rfl) ht4
  (by rw [World.frozen?_alloc_old _ _ t (by simp;omega),World.frozen?_alloc_old _ _ t (by simp;omega),World.frozen?_alloc_old _ _ t (by simp;omega),World.frozen?_alloc_old _ _ t (Nat.ne_of_lt htl)];exact hf0)
 have HT4:=lh ht4;clear ht4;go_enter Tryz.func26,Tryz.ntmps26
 go_wp2;refine wp_loop_rounds 1 ?_;rw [rounds_succ];go_wp2;go_ret;refine ⟨rfl,World.cell?_setCell_same' _ _ _ (by rw [HT4.out];rfl),?_⟩;exact ((((World.grownBy_alloc w _ _).andThen (World.grownBy_alloc _ _ (some t.block)) (fun _ e=>.inr e)).andThen (World.grownBy_alloc _ _ (some t.block)) (fun _ e=>.inr e)).andThen (World.grownBy_alloc _ _ (some t.block)) (fun _ e=>.inr e)).andThen (set_any _ t _) (fun _ e=>.inr e)
theorem number_errno (k:Int) (w:World) (hg:w.cell? ⟨0,0,none⟩=some (.iface 199 (.agg #[.pointer (some ⟨1,42,none⟩)]))) :
  Calls Tryz.prog 16 #[.iface 46 (.int .i64 k)] w fun e w'=>e=.returned (.int .i64 k)∧w.grownBy w' none:=by
 have hlt:0 < w.heap.size:=by
  rcases Nat.eq_zero_or_pos w.heap.size with h0 | h
  ·simp [World.cell?,h0] at hg
  ·exact h
 have hg2:(w.alloc (.cells #[.int .i64 0] 46)).cell? ⟨0,0,none⟩=some (.iface 199 (.agg #[.pointer (some ⟨1,42,none⟩)])):=by
  rw [World.cell?_alloc_lt _ _ ⟨0,0,none⟩ hlt];exact hg
 have ht:(w.alloc (.cells #[.int .i64 0] 46)).cell? ⟨w.heap.size,0,none⟩=some (.int .i64 0):=by simp
 have hf:(w.alloc (.cells #[.int .i64 0] 46)).frozen? ⟨w.heap.size,0,none⟩=false:=by simp
 have HAS:=lh (as_errno k ⟨w.heap.size,0,none⟩ _ _ hg2 ht hf);have HAL:=lh (World.grownBy_alloc w (.cells #[.int .i64 0] 46) none);clear hg2 ht hf hg;go_enter Tryz.func16,Tryz.ntmps16
 go_wp2_with fail
 refine HAS.out.mono ?_;rintro e w2 ⟨rfl,hc,hgr⟩;have HG:=lh (HAL.out.andThen hgr (fun j e=>by cases e;exact .inl (Nat.le_refl _)));clear hgr;go_wp2;go_ret;exact ⟨rfl,HG.out⟩
end Go.Proofs.YtndfpmboanohcaaGreatDoor
