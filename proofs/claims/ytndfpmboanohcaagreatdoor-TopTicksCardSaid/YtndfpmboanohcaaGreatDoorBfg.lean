/- Contract of (*bucket.Engine).Feed at any event. -/
import Derived.Test.YtndfpmboanohcaaGreatDoorMdwToCgu
namespace Go.Proofs.YtndfpmboanohcaaGreatDoor
set_option maxRecDepth 100000
open Go.RowKit Go.Maps SkipPure
def addN (β:Bkt) (r q:Int):Bkt:=
 match β.hgt q with
 | some k=>if (β.hgt r).isSome then β else addB β r q k
 | none=>β
def bstepC (bs:List Int) (β:Bkt) (c:Cg):Bkt:=
 if c.kind=0 then addN β c.root c.parent
 else if c.kind=1 then bputF (if c.had then bputF β c.frm 0 (sumF bs [c.who]) else β) c.root (sumF bs [c.who]) 0
 else if c.kind=2 then (if c.had then bputF β c.frm 0 (sumF bs [c.who]) else β)
 else β
section
variable {w w':World} {J:BIds} {p:Nat} {β:Bkt}
theorem badd_calls (ha:BktAt w J p β) (hn:β.n≤2000) (hh : ∀ r h,β.hgt r=some h→h≤50000) {r q:Int} (hr:inU r) (hq:inU q) :
  Calls Tryz.prog 8 #[.pointer (some ⟨J.lp,0,none⟩),.int .u64 r,.int .u64 q] w fun e w'=>∃ b lok,e=.returned (.bool b)∧BktAt w' { J with lok:=lok } p (addN β r q)∧w.grownBy w' (some J.lb)∧∀ i,lok i→J.lok i∨(w.heap.size≤i∧i < w'.heap.size):=by
 have hlb:=ha.lokb J.lb ha.list.2.1;cases hhq:β.hgt q with
 | none=>
  refine (add_no ha.list hr hq (.inl hhq)).mono ?_;rintro e w' ⟨rfl,hg⟩;refine ⟨false,J.lok,rfl,?_,hg.mono0,fun i hi=>.inl hi⟩;have e1:addN β r q=β:=by unfold addN;rw [hhq]
  rw [e1];exact ha.kept0 hg
 | some k=>
  cases hhr:β.hgt r with
  | some k2=>
   refine (add_no ha.list hr hq (.inr (by rw [hhr];rfl))).mono ?_;rintro e w' ⟨rfl,hg⟩;refine ⟨false,J.lok,rfl,?_,hg.mono0,fun i hi=>.inl hi⟩;have e1:addN β r q=β:=by unfold addN;rw [hhq,hhr];simp
   rw [e1];exact ha.kept0 hg
  | none=>
   have hk:=hh q k hhq;refine (add_yes ha.list (fun j hj=>(ha.lokb j hj).1) ha.tree ha.keys (by omega) hr (by omega) hhq hhr).mono ?_;rintro e w' ⟨rfl,hg,hsk⟩;have e1:addN β r q=addB β r q k:=by unfold addN;rw [hhq,hhr];simp
   rw [e1];have hbq:=ha.blk.lt;have hbm:=ha.buckets.lt;refine ⟨true,fun j=>J.lok j∨(w.heap.size≤j∧j < w'.heap.size),rfl,⟨ha.blk.kept hg (by simpa using fun e=>hlb.2.1 e),hsk,ha.buckets.kept hg (by simpa using fun e=>hlb.2.2 e.symm),fun j hj=>?_,ha.ne,ha.tree.set hhr hhq,fun x' m hm=>?_,by show β.n+1≤100000;omega,fun x' m hm=>?_⟩,hg,fun i hi=>hi⟩
   ·rcases hj with hj | hj
    ·exact ⟨Nat.lt_of_lt_of_le (ha.lokb j hj).1 hg.size,(ha.lokb j hj).2⟩
    ·exact ⟨hj.2,by show j≠J.q;omega,by show j≠J.mb;omega⟩
   ·unfold addB setHgt at hm;simp only at hm;split at hm
    ·next e=>cases hm;rw [e];exact ⟨hr,by omega⟩
    ·exact ha.keys x' m hm
   ·unfold addB setHgt at hm;simp only at hm;split at hm
    ·cases hm;omega
    ·exact ha.hb x' m hm
end
structure BBd (β:Bkt) (N NB:Nat):Prop where
 n:β.n≤N
 hb : ∀ r h,β.hgt r=some h→h < N
 nb:β.nb≤NB
theorem BBd.mono {β:Bkt} {n nb n' nb':Nat} (h:BBd β n nb) (h1:n≤n') (h2:nb≤nb'):BBd β n' nb':=
 ⟨Nat.le_trans h.n h1,fun r x e=>Nat.lt_of_lt_of_le (h.hb r x e) h1,Nat.le_trans h.nb h2⟩
theorem BBd.put {β:Bkt} {n nb:Nat} (h:BBd β n nb) (r give take:Int):BBd (bputF β r give take) n (nb+1):=by
 have h2:=h.nb;have e1:(if (β.bu r).isSome=true then β.nb - 1 else β.nb)≤nb+1:=by split <;> omega
 have e2:(if (β.bu r).isSome=true then β.nb else β.nb+1)≤nb+1:=by split <;> omega
 unfold bputF;split
 ·exact ⟨h.n,h.hb,e1⟩
 ·exact ⟨h.n,h.hb,e2⟩
theorem BBd.add {β:Bkt} {n nb:Nat} (h:BBd β n nb) (r q:Int):BBd (addN β r q) (n+1) nb:=by
 unfold addN;split
 ·rename_i k hk
  split
  ·exact h.mono (by omega) (Nat.le_refl _)
  ·refine ⟨by show β.n+1≤n+1;have:=h.n;omega,fun x m hm=>?_,h.nb⟩;unfold addB setHgt at hm;simp only at hm;split at hm
   ·cases hm;have:=h.hb q k hk;omega
   ·have:=h.hb x m hm;omega
 ·exact h.mono (by omega) (Nat.le_refl _)
structure BFW (w0 w:World) (I:Ids) (c2:Value) (t2:Nat) (J:BIds) (lok:Nat→Prop) (σ:St) (β:Bkt) (N NB:Nat) (cs:List Cg):Prop where
 st:StoreAt w { I with ch:=c2,tb:=t2,ex:=BOwn { J with lok:=lok } } σ
 bk:BktAt w { J with lok:=lok } I.p β
 row:w.ownsRow w0.heap.size 178 6 c2 cs.length (cgRow cs)
 chg:Chg (fun i=>Mut I i∨BOwn J i) w0 w
 new : ∀ i,lok i→J.lok i∨w0.heap.size≤i
 bd:BBd β N NB
section
variable {w0 w w':World} {I:Ids} {c2:Value} {t2:Nat} {J:BIds} {lok:Nat→Prop} {σ:St} {β β':Bkt} {n nb:Nat} {cs:List Cg}
theorem BFW.g (h:BFW w0 w I c2 t2 J lok σ β n nb cs) (hg:w.grownBy w' none):BFW w0 w' I c2 t2 J lok σ β n nb cs:=
 ⟨h.st.g hg,h.bk.kept0 hg,ownsRow_g h.row hg,h.chg.trans (Chg.of hg),h.new,h.bd⟩
theorem RawMap.apart {P:Program} {kt:TypeId} {b n:Nat} {F:Int→Option Value} (h:RawMap P kt w b n F) {k:Nat} {cur:Array Value} {e:TypeId} {x:Nat×Nat} (hb:w.heap[k]? = some (.cells cur e x)):k≠b:=fun e1=>by
 obtain ⟨D,⟨es,clock,h2,_⟩,_⟩:=h;rw [e1,h2] at hb;cases hb
theorem BFW.mono (h:BFW w0 w I c2 t2 J lok σ β n nb cs) {n' nb':Nat} (h1:n≤n') (h2:nb≤nb'):BFW w0 w I c2 t2 J lok σ β n' nb' cs:=⟨h.st,h.bk,h.row,h.chg,h.new,h.bd.mono h1 h2⟩
theorem BFW.own (h:BFW w0 w I c2 t2 J lok σ β n nb cs) (i:Nat) (hi:BOwn { J with lok:=lok } i):(Mut I i∨BOwn J i)∨w0.heap.size≤i:=by
 rcases hi with hi | hi | hi
 ·exact .inl (.inr (.inl hi))
 ·exact .inl (.inr (.inr (.inl hi)))
 ·rcases h.new i hi with h1 | h1
  ·exact .inl (.inr (.inr (.inr h1)))
  ·exact .inr h1
theorem BFW.put (h:BFW w0 w I c2 t2 J lok σ β n nb cs) {r give take:Int} (hb:BktAt w' { J with lok:=lok } I.p (bputF β r give take)) (hg:w.grownBy w' (some J.mb)):BFW w0 w' I c2 t2 J lok σ (bputF β r give take) n (nb+1) cs:=by
 have hc:Chg (BOwn { J with lok:=lok }) w w':=Chg.one hg (.inr (.inl rfl));have hc1:Chg (fun i=>i=J.mb) w w':=Chg.one hg rfl;exact ⟨h.st.exch hc (fun i hi=>hi),hb,rowChg h.row hc1 (fun k hk e=>by
  obtain ⟨cur,hcur⟩:=ownsRow_ty h.row hk;exact h.bk.buckets.apart hcur e),h.chg.then hc h.own,h.new,h.bd.put _ _ _⟩
theorem BFW.add (h:BFW w0 w I c2 t2 J lok σ β n nb cs) (hN0:0 < σ.bs.length) {r q:Int} {lok':Nat→Prop} (hb:BktAt w' { J with lok:=lok' } I.p (addN β r q)) (hg:w.grownBy w' (some J.lb)) (hl : ∀ i,lok' i→lok i∨(w.heap.size≤i∧i < w'.heap.size)) :
  BFW w0 w' I c2 t2 J lok' σ (addN β r q) (n+1) nb cs:=by
 have hlb:=h.bk.list.2.1;have hc:Chg (BOwn { J with lok:=lok }) w w':=Chg.one hg (.inr (.inr hlb));have hc1:Chg (fun i=>i=J.lb) w w':=Chg.one hg rfl;have hsz:=hg.size;have hq:=h.bk.blk.lt;have hm:=h.bk.buckets.lt;have hst:=h.st.reex hN0 hc (BOwn { J with lok:=lok' }) (fun i hi=>by
  rcases hi with hi | hi | hi
  ·exact .inl (.inl hi)
  ·exact .inl (.inr (.inl hi))
  ·rcases hl i hi with h1 | h1
   ·exact .inl (.inr (.inr h1))
   ·exact .inr h1.1) (fun i hi=>by
  rcases hi with hi | hi | hi
  ·rw [hi];show J.q < _;simp only at hq;omega
  ·rw [hi];show J.mb < _;simp only at hm;omega
  ·exact (hb.lokb i hi).1)
 refine ⟨hst,hb,rowChg h.row hc1 (fun k hk e=>?_),h.chg.then hc h.own,fun i hi=>?_,h.bd.add _ _⟩
 ·obtain ⟨cur,hcur⟩:=ownsRow_ty h.row hk;obtain ⟨_,_,_,_,F,h5,_⟩:=h.bk.list;exact RawMap.apart h5 hcur e
 ·rcases hl i hi with h1 | h1
  ·exact h.new i h1
  ·right;have:=h.chg.size;omega
end
def bnx (bs:List Int) (β:Bkt) (cs:List Cg) (j:Nat):Bkt:=(cs.take j).foldl (bstepC bs) β
theorem bnx_succ {bs:List Int} {β:Bkt} {cs:List Cg} {j:Nat} {x:Cg} (h:cs[j]? = some x):bnx bs β cs (j+1)=bstepC bs (bnx bs β cs j) x:=by
 unfold bnx;rw [List.take_add_one,h,List.foldl_append];rfl
theorem bnx_all (bs:List Int) (β:Bkt) (cs:List Cg):bnx bs β cs cs.length=cs.foldl (bstepC bs) β:=by unfold bnx;rw [List.take_length]
section
variable {w0:World} {I:Ids} {σ:St} {J:BIds} {β:Bkt} {M N:Nat}
set_option maxHeartbeats 16000000 in
theorem bfeed_calls (h:StoreAt w0 I σ) (hI:Inv σ N) (hN:N < 1000) (ha:BktAt w0 J I.p β) (hx:I.ex=BOwn J) (hbd:BBd β N (N * 120000)) {e:Ev} (hB:EvB e) {cells:Array Value} (he:EvAt w0 (fun i=>i < w0.heap.size∧¬ Mut I i) e cells) :
  Calls Tryz.prog 174 #[.pointer (some ⟨J.q,0,none⟩),.agg cells] w0 fun z w'=>∃ E c2 t2 lok σ' cs',z=.returned (errV E)∧Applied σ e E σ' cs'∧StoreAt w' { I with ch:=c2,tb:=t2,ex:=BOwn { J with lok:=lok } } σ' ∧
   BktAt w' { J with lok:=lok } I.p (cs'.foldl (bstepC σ'.bs) β)∧Inv σ' (N+1)∧BBd (cs'.foldl (bstepC σ'.bs) β) (N+1) ((N+1) * 120000)∧Adds σ σ' cs'∧Chg (fun i=>Mut I i∨BOwn J i) w0 w'∧(∀ i,lok i→J.lok i∨w0.heap.size≤i)∧(t2=I.tb∨w0.heap.size≤t2):=by
 obtain ⟨va,vc,pa,pc,vw,vwc,aw,ac,bw,bc,rfl,k1,k2,k3,k4,k5,k6,k7,k8⟩:=he;have hev:EvAt w0 (fun i=>i < w0.heap.size∧¬ Mut I i) e (evC e va vc pa pc vw vwc aw ac bw bc):=⟨va,vc,pa,pc,vw,vwc,aw,ac,bw,bc,rfl,k1,k2,k3,k4,k5,k6,k7,k8⟩;have HEV:=lh hev;have HH:=lh h;have HA:=lh ha;have hpl:=h.blk.lt;have hql:=ha.blk.lt;have HX:=lh hx;have HI:=lh hI;have HBD:=lh hbd;have HB:=lh hB;clear hx hI hbd hB;clear h ha hev k1 k2 k3 k4 k5 k6 k7 k8;go_enter Tryz.func174,Tryz.ntmps174
 go_upto_region 1 with (fail)
 refine nmC1 ?_;intro W b0 hz hg;obtain ⟨qb,hq_qb⟩ : ∃ q,q=w0.heap.size:=⟨_,rfl⟩;rw [← hq_qb] at b0 hz hpl hql ⊢;have HQ_qb:=lh hq_qb;clear hq_qb;change Blk W qb (evC e va vc pa pc vw vwc aw ac bw bc) 68 at b0;have HB0:=lh b0;have HG:=lh hg;clear b0 hg;replace HH:=lh (HH.out.g HG.out);replace HA:=lh (HA.out.kept0 HG.out);replace HEV:=lh (HEV.out.g HG.out);have TK:=lh fun w (hSw:(fun wr=>StoreAt wr I σ∧BktAt wr J I.p β∧Blk wr qb (evC e va vc pa pc vw vwc aw ac bw bc) 68∧EvAt wr (fun i=>i < qb∧¬ Mut I i) e (evC e va vc pa pc vw vwc aw ac bw bc)) w)=>show w.cell? ⟨J.q,0,none⟩=some (.pointer (some ⟨I.p,0,none⟩)) from hSw.2.1.blk.at 0
 refine wp_region_late (fun wr=>StoreAt wr I σ∧BktAt wr J I.p β∧Blk wr qb (evC e va vc pa pc vw vwc aw ac bw bc) 68∧EvAt wr (fun i=>i < qb∧¬ Mut I i) e (evC e va vc pa pc vw vwc aw ac bw bc)) [5] (by as_aux_lemma=>kernel_rfl) ?_;have hgd:=gdrew (gR W none);have hS:(fun wr=>StoreAt wr I σ∧BktAt wr J I.p β∧Blk wr qb (evC e va vc pa pc vw vwc aw ac bw bc) 68∧EvAt wr (fun i=>i < qb∧¬ Mut I i) e (evC e va vc pa pc vw vwc aw ac bw bc)) W.drew:=
  ⟨HH.out.g hgd,HA.out.kept0 hgd,HB0.out.g hgd,(HEV.out.g hgd).chg (S:=fun _=>False) (Chg.refl _ _) (fun _ _ h=>h) (fun i hi=>⟨by rw [HQ_qb.out];exact hi.1,hi.2⟩)⟩
 replace HG:=lh (g2 HG.out hgd);clear hgd HH HA HB0 HEV;generalize W.drew=w2 at HG hS ⊢;refine pM 0 ?_;simp only [zz];refine pM 1 ?_;simp only [zz];refine pM 2 ?_;simp only [zz];refine tM 3 ?_;simp only [zz];refine wM 4 ?_ ?_ hS ?_;rotate_left;· intro w hSw;(refine exec_load_blk (ty:=68) (off:=0) (hSw.2.2.1) ?_ _ Tryz.underlying68 rfl (evC e va vc pa pc vw vwc aw ac bw bc) ?_ ?_ <;> first | exact ⟨_,rfl,rfl⟩ | rfl | (as_aux_lemma=>kernel_rfl))
 simp only [zz];refine rM 5 fun K hK=>?_;go_simp;have hqb2:=hS.2.2.1.lt;refine (apply_calls hS.1 HI.out hN HB.out (hS.2.2.2.chg (S:=fun _=>False) (Chg.refl _ _) (fun _ _ h=>h) (fun i hi=>⟨by omega,hi.2⟩))).mono ?_;rintro e2 w3 ⟨E,I2,σ2,cs2,rfl,hapd⟩;have ha3:=hS.2.1.chg hapd.chg (fun i hi=>hS.1.exd i (by rw [HX.out];exact hi));have hids:=hapd.ids;obtain ⟨c2,hc2⟩ : ∃ c2,c2=I2.ch:=⟨_,rfl⟩;obtain ⟨t2,ht2⟩ : ∃ t2,t2=I2.tb:=⟨_,rfl⟩;rw [← hc2,← ht2] at hids;clear hc2 ht2;subst hids;have hads:=hapd.ap.adds HI.out.wf HB.out;have hcu:=hapd.ap.u HI.out.wf hapd.inv.wf HB.out;have hrow:=own_base hapd.row HG.out.size;have hcc:Chg (fun i=>Mut I i∨BOwn J i) w0 w3:=(Chg.of HG.out).trans (hapd.chg.mono (fun i hi=>.inl hi));have hfw:BFW w0 w3 I c2 t2 J J.lok σ2 β (N+min 0 1) (N * 120000+2 * 0) cs2:=⟨by
  have h:=hapd.st;rw [show BOwn { J with lok:=J.lok }=I.ex from HX.out.symm];exact h,ha3,hrow,hcc,fun i hi=>.inl hi,HBD.out.mono (by omega) (by omega)⟩
 have hmay:MayBe σ2.bs σ2.S σ2.B:=hapd.inv.wf.may;have htb:t2=I.tb∨w0.heap.size≤t2:=hapd.tbn.imp id (fun h=>Nat.le_trans HG.out.size h);have HAP:=lh (And.intro hapd.ap (And.intro hapd.inv htb));have hlen:=hapd.len;obtain ⟨sa,sc,rfl,hsa⟩:=own_slice hrow;clear HG hapd ha3 hrow hcc hqb2 htb HBD;have HF:=lh hfw;have HADS:=lh hads;have HM2:=lh hmay;have HSA:=lh hsa;have HCU:=lh hcu;clear hfw hads hmay hsa hcu;obtain ⟨EV,hEV⟩ : ∃ EV,EV=errV E:=⟨_,rfl⟩;rw [← hEV];have HEVV:=lh hEV;clear hEV;refine hK.out _ _ (.inr (by decide)) ?_;clear hK K;refine pM 6 ?_;simp only [zz];refine pM 7 ?_;simp only [zz];refine pM 8 ?_;simp only [zz];refine pM 9 ?_;simp only [zz];refine pM 10 ?_;simp only [zz];refine dM ?_ _;go_wp2_with fail
 go_loopw [21] (fun v21 wr=>∃ (j:Nat),v21=.int .i64 (j:Int)∧j≤cs2.length∧∃ lok,BFW w0 wr I (.slice sa cs2.length sc) t2 J lok σ2 (bnx σ2.bs β cs2 j) (N+min j 1) (N * 120000+2 * j) cs2) (fun v21 _=>cs2.length - (intOf v21).toNat)
 case atStart=>exact ⟨0,rfl,by omega,_,HF.out⟩
 case round=>
  obtain ⟨j,rfl,hj,lok,hfw⟩:=hrel;clear HF;by_cases hlt:j < cs2.length
  ·obtain ⟨x,hx⟩ : ∃ x,cs2[j]? = some x:=⟨_,List.getElem?_eq_getElem hlt⟩;have hnx:=bnx_succ (bs:=σ2.bs) (β:=β) hx;obtain ⟨γ,hγ⟩ : ∃ γ,γ=bnx σ2.bs β cs2 j:=⟨_,rfl⟩;rw [← hγ] at hnx hfw;clear hγ;obtain ⟨gc,hgc⟩:=HSA.out (by omega);subst hgc;obtain ⟨d0,d1,d2,d3,d4,d5⟩:=cg_cells hfw.row hx;obtain ⟨hk,hw0,hw1⟩:=HADS.out.who x (List.mem_of_getElem? hx);obtain ⟨hur,huq,huf⟩:=HCU.out x (List.mem_of_getElem? hx);have hj0:x.kind=0→j=0:=fun hk=>by
    rcases Nat.eq_zero_or_pos j with h | h
    ·exact h
    ·exact absurd hk (HADS.out.tail j x hx h)
   obtain ⟨k,r,q,wh,fm,hd⟩:=x;simp only at d0 d1 d2 d3 d4 d5 hk hw0 hw1 hj0 hur huq huf;have hpl3:=hfw.st.blk.lt;have hql3:=hfw.bk.blk.lt;have hgl3:=(hfw.bk.lokb J.lb hfw.bk.list.2.1).1;have hml3:=hfw.bk.buckets.lt;simp only at hpl3 hql3 hgl3 hml3;have HF:=lh hfw;have HNX:=lh hnx;have HJ0:=lh hj0;clear hfw hnx hj0;clear hpl hql hx;go_upto_region 5 with (fail)
   clear d0 d1 d2 d3 d4 d5;refine nmC1 ?_;intro W4 b4 hz4 hg4;obtain ⟨qc,hq_qc⟩ : ∃ q,q=wr.heap.size:=⟨_,rfl⟩;rw [← hq_qc] at b4 hz4 hql3 hpl3 hgl3 hml3 ⊢;have HQ_qc:=lh hq_qc;clear hq_qc;have HQC:=lh b4;replace HF:=lh (HF.out.g hg4);clear b4 hg4 hz4;have hwf:(Lit.int .i64 wh).wf=true:=by simp [Lit.wf,IntKind.min,IntKind.max,IntKind.signed,IntKind.bits];omega
   have HWF:=lh hwf;clear hwf hw0 hw1;have TK:=lh fun w (hSw:(fun wr=>BFW w0 wr I (.slice (some ⟨gc,0,none⟩) cs2.length sc) t2 J lok σ2 γ (N+min j 1) (N * 120000+2 * j) cs2∧Blk wr qc #[.int .i64 k,.int .u64 r,.int .u64 q,.int .i64 wh,.int .u64 fm,.bool hd] 178) w)=>And.intro (show w.cell? ⟨J.q,0,none⟩=some (.pointer (some ⟨I.p,0,none⟩)) from hSw.1.bk.blk.at 0) <| And.intro hSw.1.st.s0 <| And.intro hSw.1.st.s1 <| And.intro hSw.1.st.s2 <| show w.cell? ⟨qc,3,none⟩=some (.int .i64 wh) from hSw.2.at 3
   refine wp_region_late (fun wr=>BFW w0 wr I (.slice (some ⟨gc,0,none⟩) cs2.length sc) t2 J lok σ2 γ (N+min j 1) (N * 120000+2 * j) cs2∧Blk wr qc #[.int .i64 k,.int .u64 r,.int .u64 q,.int .i64 wh,.int .u64 fm,.bool hd] 178) [] (by as_aux_lemma=>kernel_rfl) ?_;have hgd:=gdrew (gR W4 none);have hS:(fun wr=>BFW w0 wr I (.slice (some ⟨gc,0,none⟩) cs2.length sc) t2 J lok σ2 γ (N+min j 1) (N * 120000+2 * j) cs2∧Blk wr qc #[.int .i64 k,.int .u64 r,.int .u64 q,.int .i64 wh,.int .u64 fm,.bool hd] 178) W4.drew:=⟨HF.out.g hgd,HQC.out.g hgd⟩;clear hgd HF HQC;generalize W4.drew=w5 at hS ⊢;refine pM 0 ?_;simp only [zz];refine pM 1 ?_;simp only [zz];refine pM 2 ?_;simp only [zz];refine pM 7 ?_;simp only [zz];refine tM 3 ?_;simp only [zz];refine pM 4 ?_;simp only [zz];refine pM 5 ?_;simp only [zz];refine tM 6 ?_;simp only [zz];refine tM 8 ?_;simp only [zz];refine rM 9 fun K hK=>?_;go_simp;refine nmA1 ?_;intro w6 b6 hg6;generalize w5.heap.size=gm at b6 ⊢;have HB6:=lh b6;have hS2:(fun wr=>_) w6:=And.intro (hS.1.g hg6) (hS.2.g hg6);clear hg6 b6;refine hK.out _ _ (.inl (fun _=>hS2)) ?_;replace hS:=hS2;clear hK K hS2;try simp only [zz]
   refine rM 10 fun K hK=>?_;go_simp;refine (sum_calls (ks:=[wh]) hS.1.st.bal rfl (Ints.one HB6.out) rfl HM2.out.bal (by simp) (wf_one wh HWF.out)).mono ?_;rintro e w7 ⟨rfl,hg7⟩;have hS2:(fun wr=>_) w7:=And.intro (hS.1.g hg7) (hS.2.g hg7);have hnx:=HNX.out;unfold bstepC at hnx;simp only at hnx;generalize sumF σ2.bs [wh]=sm at hnx ⊢;replace HNX:=lh hnx;clear hg7 HB6 hnx;refine hK.out _ _ (.inl (fun _=>hS2)) ?_;replace hS:=hS2;clear hK K hS2;try simp only [zz]
   refine pM 11 ?_;simp only [zz];refine dM ?_ _;have hfw:=hS.1;have hqc:=hS.2;clear hS;have HF:=lh hfw;have HQC:=lh hqc;clear hfw hqc;rcases hk with rfl | rfl | rfl | rfl
   ·have hnx:=HNX.out;simp only [if_true] at hnx;replace HNX:=lh hnx;have r0:w7.cell? ⟨qc,0,none⟩=some (.int .i64 0):=HQC.out.at 0;go_upto_region 8 with (fail)
    clear r0 hnx;have HJ00:=lh (HJ0.out rfl);have TK:=lh fun w (hSw:(fun wr=>Blk wr J.q #[.pointer (some ⟨I.p,0,none⟩),.pointer (some ⟨J.lp,0,none⟩),.map (some J.mb)] 122∧Blk wr qc #[.int .i64 0,.int .u64 r,.int .u64 q,.int .i64 wh,.int .u64 fm,.bool hd] 178) w)=>And.intro (show w.cell? ⟨J.q,1,none⟩=some (.pointer (some ⟨J.lp,0,none⟩)) from hSw.1.at 1) <| And.intro (show w.cell? ⟨qc,1,none⟩=some (.int .u64 r) from hSw.2.at 1) <| show w.cell? ⟨qc,2,none⟩=some (.int .u64 q) from hSw.2.at 2
    refine wp_region_late (fun wr=>Blk wr J.q #[.pointer (some ⟨I.p,0,none⟩),.pointer (some ⟨J.lp,0,none⟩),.map (some J.mb)] 122∧Blk wr qc #[.int .i64 0,.int .u64 r,.int .u64 q,.int .i64 wh,.int .u64 fm,.bool hd] 178) [] (by as_aux_lemma=>kernel_rfl) ?_;have hgd:=gdrew (gR w7 none);have hS:(fun wr=>Blk wr J.q #[.pointer (some ⟨I.p,0,none⟩),.pointer (some ⟨J.lp,0,none⟩),.map (some J.mb)] 122∧Blk wr qc #[.int .i64 0,.int .u64 r,.int .u64 q,.int .i64 wh,.int .u64 fm,.bool hd] 178) w7.drew:=⟨HF.out.bk.blk.g hgd,HQC.out.g hgd⟩;have HFW:=lh (HF.out.g hgd);clear hgd HQC HF;generalize w7.drew=w8 at hS HFW ⊢;refine pM 0 ?_;simp only [zz];refine pM 1 ?_;simp only [zz];refine pM 2 ?_;simp only [zz];refine pM 4 ?_;simp only [zz];refine pM 6 ?_;simp only [zz];refine tM 3 ?_;simp only [zz];refine tM 5 ?_;simp only [zz];refine tM 7 ?_;simp only [zz];refine rM 8 fun K hK=>?_;go_simp;have hN0:0 < σ2.bs.length:=by have:=HM2.out.l1;omega
    refine (badd_calls HFW.out.bk (by have:=HFW.out.bd.n;omega) (fun r h e=>by have:=HFW.out.bd.hb r h e;omega) hur huq).mono ?_;rintro e w9 ⟨bb,lok2,rfl,hbk,hg,hl⟩;have hS2:(fun wr=>_) w9:=And.intro hbk.blk (hS.2.kept hg (by simp;omega));have hfw:=HFW.out.add hN0 hbk hg hl;clear hbk hg hl HFW hN0;have HF:=lh hfw;clear hfw;refine hK.out _ _ (.inl (fun _=>hS2)) ?_;replace hS:=hS2;clear hK K hS2;try simp only [zz]
    refine dM ?_ _;have hf2:=HF.out;rw [← HNX.out] at hf2;go_wp2_with fail
    exact ⟨⟨j+1,by simp,by omega,_,hf2.mono (by have:=HJ00.out;omega) (by omega)⟩,by simp [intOf];omega⟩
   ·have hnx:=HNX.out;rw [if_neg (by decide),if_pos rfl] at hnx;have r0:w7.cell? ⟨qc,0,none⟩=some (.int .i64 1):=HQC.out.at 0;have r1:w7.cell? ⟨qc,1,none⟩=some (.int .u64 r):=HQC.out.at 1;have r4:w7.cell? ⟨qc,4,none⟩=some (.int .u64 fm):=HQC.out.at 4;have r5:w7.cell? ⟨qc,5,none⟩=some (.bool hd):=HQC.out.at 5;cases hd
    ·rw [if_neg (by simp)] at hnx;replace HNX:=lh hnx;clear hnx;go_wp2_with fail
     refine (bput_calls (give:=sm) (take:=0) HF.out.bk (by have:=HF.out.bd.nb;omega) hur).mono ?_;rintro e w8 ⟨rfl,hbk,hg⟩;have hfw:=HF.out.put hbk hg;have hqc:=HQC.out.kept hg (by simp;omega);clear hbk hg HF HQC r0 r1 r4 r5;have HF:=lh hfw;have HQC:=lh hqc;clear hfw hqc;have hf2:=HF.out;rw [← HNX.out] at hf2;go_wp2_with fail
     exact ⟨⟨j+1,by simp,by omega,_,hf2.mono (by omega) (by omega)⟩,by simp [intOf];omega⟩
    ·rw [if_pos rfl] at hnx;replace HNX:=lh hnx;clear hnx;go_wp2_with fail
     refine (bput_calls (give:=0) (take:=sm) HF.out.bk (by have:=HF.out.bd.nb;omega) huf).mono ?_;rintro e w8 ⟨rfl,hbk,hg⟩;have hfw:=HF.out.put hbk hg;have hqc:=HQC.out.kept hg (by simp;omega);clear hbk hg HF HQC r0 r1 r4 r5;have HF:=lh hfw;have HQC:=lh hqc;clear hfw hqc;have r0:w8.cell? ⟨qc,0,none⟩=some (.int .i64 1):=HQC.out.at 0;have r1:w8.cell? ⟨qc,1,none⟩=some (.int .u64 r):=HQC.out.at 1;go_wp2_with fail
     refine (bput_calls (give:=sm) (take:=0) HF.out.bk (by have:=HF.out.bd.nb;omega) hur).mono ?_;rintro e w9 ⟨rfl,hbk,hg⟩;have hfw:=HF.out.put hbk hg;have hqc:=HQC.out.kept hg (by simp;omega);clear hbk hg HF HQC r0 r1;have HF:=lh hfw;have HQC:=lh hqc;clear hfw hqc;have hf2:=HF.out;rw [← HNX.out] at hf2;go_wp2_with fail
     exact ⟨⟨j+1,by simp,by omega,_,hf2.mono (by omega) (by omega)⟩,by simp [intOf];omega⟩
   ·have hnx:=HNX.out;rw [if_neg (by decide),if_neg (by decide),if_pos rfl] at hnx;have r0:w7.cell? ⟨qc,0,none⟩=some (.int .i64 2):=HQC.out.at 0;have r1:w7.cell? ⟨qc,1,none⟩=some (.int .u64 r):=HQC.out.at 1;have r4:w7.cell? ⟨qc,4,none⟩=some (.int .u64 fm):=HQC.out.at 4;have r5:w7.cell? ⟨qc,5,none⟩=some (.bool hd):=HQC.out.at 5;cases hd
    ·rw [if_neg (by simp)] at hnx;replace HNX:=lh hnx;clear hnx;have hf2:=HF.out;rw [← HNX.out] at hf2;go_wp2_with fail
     exact ⟨⟨j+1,by simp,by omega,_,hf2.mono (by omega) (by omega)⟩,by simp [intOf];omega⟩
    ·rw [if_pos rfl] at hnx;replace HNX:=lh hnx;clear hnx;go_wp2_with fail
     refine (bput_calls (give:=0) (take:=sm) HF.out.bk (by have:=HF.out.bd.nb;omega) huf).mono ?_;rintro e w8 ⟨rfl,hbk,hg⟩;have hfw:=HF.out.put hbk hg;have hqc:=HQC.out.kept hg (by simp;omega);clear hbk hg HF HQC r0 r1 r4 r5;have HF:=lh hfw;have HQC:=lh hqc;clear hfw hqc;have r0:w8.cell? ⟨qc,0,none⟩=some (.int .i64 2):=HQC.out.at 0;have hf2:=HF.out;rw [← HNX.out] at hf2;go_wp2_with fail
     exact ⟨⟨j+1,by simp,by omega,_,hf2.mono (by omega) (by omega)⟩,by simp [intOf];omega⟩
   ·have hnx:=HNX.out;rw [if_neg (by decide),if_neg (by decide),if_neg (by decide)] at hnx;replace HNX:=lh hnx;clear hnx;have r0:w7.cell? ⟨qc,0,none⟩=some (.int .i64 3):=HQC.out.at 0;have hf2:=HF.out;rw [← HNX.out] at hf2;go_wp2_with fail
    exact ⟨⟨j+1,by simp,by omega,_,hf2.mono (by omega) (by omega)⟩,by simp [intOf];omega⟩
  ·have hje:j=cs2.length:=by omega
   subst hje;have HF:=lh hfw;clear hfw;go_wp2_with fail
   go_ret;have hb:=HF.out.bk;have hd:=HF.out.bd;rw [bnx_all] at hb hd;exact ⟨E,_,t2,lok,σ2,cs2,by rw [HEVV.out];rfl,HAP.out.1,HF.out.st,hb,HAP.out.2.1,hd.mono (by omega) (by omega),HADS.out,HF.out.chg,HF.out.new,HAP.out.2.2⟩
end
end Go.Proofs.YtndfpmboanohcaaGreatDoor
