/- Contract of (*array.Engine).pass. -/
import Derived.Test.YtndfpmboanohcaaGreatDoorWidToNod
namespace Go.Proofs.YtndfpmboanohcaaGreatDoor
set_option maxRecDepth 100000
open Go.RowKit Go.Maps SkipPure
def ParOk (X:Nat→Nd) (n:Nat):Prop:=∀ i,i < n→-1≤(X i).p∧(X i).p < i
def passU (X:Nat→Nd) (k:Nat):Nat→Nd:=nset X k { X k with w:=us (ua (X k).w (X k).u) (X k).d }
def passV (X:Nat→Nd) (k:Nat):Nat→Nd:=
 if 0≤(X k).p then nset (passU X k) (X k).p.toNat { passU X k (X k).p.toNat with u:=ua (passU X k (X k).p.toNat).u (X k).u,d:=ua (passU X k (X k).p.toNat).d (X k).d } else passU X k
def passW (X:Nat→Nd) (k:Nat):Nat→Nd:=nset (passV X k) k { passV X k k with u:=0,d:=0 }
def passL:Nat→(Nat→Nd)→(Nat→Nd)
 | 0,X=>X
 | k+1,X=>passL k (passW X k)
def passX (α:Arr) (boost bo:Int):Nat→Nd:=if α.b=bo then α.X else giveF (takeF α.X α.n α.b boost) α.n bo boost
def passF (α:Arr) (boost bo:Int):Arr:={ α with X:=passL α.n (passX α boost bo),b:=bo }
theorem nset_p {X:Nat→Nd} {k:Nat} {x:Nd} (h:x.p=(X k).p) (i:Nat):(nset X k x i).p=(X i).p:=by
 unfold nset;split
 ·next e=>rw [e,h]
 ·rfl
theorem nset_r {X:Nat→Nd} {k:Nat} {x:Nd} (h:x.r=(X k).r) (i:Nat):(nset X k x i).r=(X i).r:=by
 unfold nset;split
 ·next e=>rw [e,h]
 ·rfl
theorem passU_p (X:Nat→Nd) (k i:Nat):(passU X k i).p=(X i).p:=nset_p (by rfl) i
theorem passU_r (X:Nat→Nd) (k i:Nat):(passU X k i).r=(X i).r:=nset_r (by rfl) i
theorem passV_p (X:Nat→Nd) (k i:Nat):(passV X k i).p=(X i).p:=by
 unfold passV;split
 ·exact (nset_p (by rfl) i).trans (passU_p X k i)
 ·exact passU_p X k i
theorem passV_r (X:Nat→Nd) (k i:Nat):(passV X k i).r=(X i).r:=by
 unfold passV;split
 ·exact (nset_r (by rfl) i).trans (passU_r X k i)
 ·exact passU_r X k i
theorem passW_p (X:Nat→Nd) (k i:Nat):(passW X k i).p=(X i).p:=(nset_p (by rfl) i).trans (passV_p X k i)
theorem passW_r (X:Nat→Nd) (k i:Nat):(passW X k i).r=(X i).r:=(nset_r (by rfl) i).trans (passV_r X k i)
theorem passL_p : ∀ (n:Nat) (X:Nat→Nd) (i:Nat),(passL n X i).p=(X i).p
 | 0,_,_=>rfl
 | n+1,X,i=>(passL_p n _ i).trans (passW_p X n i)
theorem passL_r : ∀ (n:Nat) (X:Nat→Nd) (i:Nat),(passL n X i).r=(X i).r
 | 0,_,_=>rfl
 | n+1,X,i=>(passL_r n _ i).trans (passW_r X n i)
theorem giveF_p (X:Nat→Nd) (n:Nat) (r v:Int) (i:Nat):(giveF X n r v i).p=(X i).p:=by
 unfold giveF;split
 ·exact nset_p (by rfl) i
 ·rfl
theorem giveF_r (X:Nat→Nd) (n:Nat) (r v:Int) (i:Nat):(giveF X n r v i).r=(X i).r:=by
 unfold giveF;split
 ·exact nset_r (by rfl) i
 ·rfl
theorem takeF_p (X:Nat→Nd) (n:Nat) (r v:Int) (i:Nat):(takeF X n r v i).p=(X i).p:=by
 unfold takeF;split
 ·exact nset_p (by rfl) i
 ·rfl
theorem takeF_r (X:Nat→Nd) (n:Nat) (r v:Int) (i:Nat):(takeF X n r v i).r=(X i).r:=by
 unfold takeF;split
 ·exact nset_r (by rfl) i
 ·rfl
theorem passX_p (α:Arr) (boost bo:Int) (i:Nat):(passX α boost bo i).p=(α.X i).p:=by
 unfold passX;split
 ·rfl
 ·rw [giveF_p,takeF_p]
theorem passX_r (α:Arr) (boost bo:Int) (i:Nat):(passX α boost bo i).r=(α.X i).r:=by
 unfold passX;split
 ·rfl
 ·rw [giveF_r,takeF_r]
theorem passF_p (α:Arr) (boost bo:Int) (i:Nat):((passF α boost bo).X i).p=(α.X i).p:=(passL_p _ _ i).trans (passX_p α boost bo i)
theorem passF_r (α:Arr) (boost bo:Int) (i:Nat):((passF α boost bo).X i).r=(α.X i).r:=(passL_r _ _ i).trans (passX_r α boost bo i)
theorem ParOk.same {X Y:Nat→Nd} {n:Nat} (h:ParOk X n) (e : ∀ i,(Y i).p=(X i).p):ParOk Y n:=fun i hi=>by rw [e];exact h i hi
section
variable {w w':World} {I:Ids} {σ:St} {J:AIds} {α:Arr}
theorem StoreAt.exch {S:Nat→Prop} (h:StoreAt w I σ) (hc:Chg S w w') (hs : ∀ i,S i→I.ex i):StoreAt w' I σ:=by
 obtain ⟨h1,h2,h3,h4,h5,h6,h7,h8,h9,h10⟩:=h;have hn : ∀ i,Mut I i→¬ S i:=fun i hm hi=>h10 i (hs i hi) hm;exact ⟨hc.blk h1 (hn _ (.inl rfl)),h2.chg hc (fun ad ha e=>h8 ad ha (.inr (hs _ e))),hc.tree h3 (hn _ (.inr (.inl rfl))) (hn _ (.inr (.inr (.inl rfl)))),hc.votes h4 (hn _ (.inr (.inr (.inr (.inl rfl))))),
  h5.chg hc (hn _ (.inr (.inr (.inr (.inr (.inl rfl)))))) (fun i hi e=>hi (.inr (hs i e))),h6.chg hc (hn _ (.inr (.inr (.inr (.inr (.inr rfl)))))),h7,h8,fun i hi=>Nat.lt_of_lt_of_le (h9 i hi) hc.size,h10⟩
def AOwn (J:AIds) (i:Nat):Prop:=i=J.q∨i=J.g
set_option maxHeartbeats 4000000 in
theorem pass_calls (h:StoreAt w I σ) (hm:MayBe σ.bs σ.S σ.B) (ha:ArrAt w J I.p α) (hx : ∀ i,AOwn J i→I.ex i) (hp:ParOk α.X α.n) :
  Calls Tryz.prog 164 #[.pointer (some ⟨J.q,0,none⟩)] w fun e w'=>e=.returned (.tuple #[])∧ArrAt w' J I.p (passF α (boostF σ.bs σ.S σ.B) σ.boosted)∧Chg (AOwn J) w w':=by
 have HH:=lh h;have HA:=lh ha;have hn:=ha.n;obtain ⟨bst,hbst⟩ : ∃ bst,bst=boostF σ.bs σ.S σ.B:=⟨_,rfl⟩;rw [← hbst];have HM:=lh hm;have HX:=lh hx;have HP:=lh hp;have HBST:=lh hbst;clear hm hx hp hbst;obtain ⟨a0,a1,a2⟩:=ha.blk.c3;have c0:=h.s0;have c1:=h.s1;have c2:=h.s2;clear h ha;go_enter Tryz.func164,Tryz.ntmps164
 go_wp2_with fail
 refine (boost_calls HH.out.bal rfl HM.out).mono ?_;rintro e w1 ⟨rfl,hg⟩;rw [← HBST.out];clear a0 a1 a2 c0 c1 c2;replace HH:=lh (HH.out.g hg);replace HA:=lh (HA.out.kept0 hg);have HG:=lh hg;clear hg;go_upto_region 1 with (fail)
 obtain ⟨X0,hX0⟩ : ∃ X0,X0=passX α bst σ.boosted:=⟨_,rfl⟩;have HX0:=lh hX0;have hpo:ParOk X0 α.n:=by rw [hX0];exact HP.out.same (passX_p α bst σ.boosted)
 have HPO:=lh hpo;clear hX0 hpo;obtain ⟨a0,a1,a2⟩:=HA.out.blk.c3;have c6:=HH.out.s6;go_quiet (fail)
 generalize hB:(α.b != σ.boosted)=Bq;have HB:=lh hB;have hgd:w1.grownBy (w1.drewN nq) none:=drewN_grown w1 nq;replace HH:=lh (HH.out.g hgd);replace HA:=lh (HA.out.kept0 hgd);replace HG:=lh (g2 HG.out hgd);clear hgd hB a0 a1 a2 c6;generalize w1.drewN nq=w2 at HH HA HG ⊢;go_upto_if 25 with (fail)
 go_cut [] (fun wx=>StoreAt wx I σ∧ArrAt wx J I.p { α with X:=X0,b:=σ.boosted }∧Chg (AOwn J) w wx)
 case first=>
  obtain ⟨a0,a1,a2⟩:=HA.out.blk.c3;have c6:=HH.out.s6;cases Bq with
  | false=>
   have hb:α.b=σ.boosted:=by simpa using HB.out
   have e:{ α with X:=X0,b:=σ.boosted }=α:=by rw [HX0.out];unfold passX;rw [if_pos hb,← hb]
   have HE:=lh e;clear hb e;go_wp2_with fail
   go_meet
   exact ⟨HH.out,by rw [HE.out];exact HA.out,Chg.of HG.out⟩
  | true=>
   have hb:¬ α.b=σ.boosted:=by simpa using HB.out
   have e:X0=giveF (takeF α.X α.n α.b bst) α.n σ.boosted bst:=by rw [HX0.out];unfold passX;rw [if_neg hb]
   have HE:=lh e;clear hb e;go_wp2_with fail
   refine (take_calls HA.out α.b bst).mono ?_;rintro e w3 ⟨rfl,hA3,hg3⟩;have hc3:=Chg.one (S:=AOwn J) hg3 (.inr rfl);replace HH:=lh (HH.out.exch hc3 HX.out);replace HG:=lh ((Chg.of HG.out).trans hc3);clear HA hg3 hc3 a0 a1 a2 c6;have HA:=lh hA3;clear hA3;obtain ⟨a0,a1,a2⟩:=HA.out.blk.c3;have c6:=HH.out.s6;go_wp2_with fail
   refine (give_calls HA.out σ.boosted bst).mono ?_;rintro e w4 ⟨rfl,hA3,hg3⟩;have hc3:=Chg.one (S:=AOwn J) hg3 (.inr rfl);replace HH:=lh (HH.out.exch hc3 HX.out);replace HG:=lh (HG.out.trans hc3);clear HA hg3 hc3 a0 a1 a2 c6;simp only at hA3;rw [← HE.out] at hA3;have HA:=lh hA3;clear hA3;obtain ⟨a0,a1,a2⟩:=HA.out.blk.c3;have f2:=HA.out.blk.fr 2;have c6:=HH.out.s6;go_wp2_with fail
   go_meet
   have hs:=HA.out.blk.set 2 (.int .u64 σ.boosted);simp only [List.setIfInBounds_toArray,List.set_cons_zero,List.set_cons_succ] at hs;have hg:=gset w4 J.q 2 (.int .u64 σ.boosted);have hc:=Chg.one (S:=AOwn J) hg (.inl rfl);exact ⟨HH.out.exch hc HX.out,⟨hs,HA.out.row.kept hg (by simpa using HA.out.ne),HA.out.ne,HA.out.n⟩,HG.out.trans hc⟩
 case rest=>
  obtain ⟨hst,ha,hch⟩:=hcut;clear HH HA HG HB Bq;have HH:=lh hst;have HA:=lh ha;have HG:=lh hch;clear hst ha hch;obtain ⟨a0,a1,a2⟩:=HA.out.blk.c3;go_wp2_with fail
  obtain ⟨n,hn0⟩ : ∃ n,n=α.n:=⟨_,rfl⟩;obtain ⟨F,hF⟩ : ∃ F,F=passL n X0:=⟨_,rfl⟩;have hst0 : ∃ (j:Nat) (Y:Nat→Nd) (v:Int),Value.int .i64 ((n:Int) - 1)=.int .i64 v∧v=(j:Int) - 1∧j≤n∧passL j Y=F∧ParOk Y n∧StoreAt wc I σ∧ArrAt wc J I.p { n:=n,X:=Y,b:=σ.boosted }∧Chg (AOwn J) w wc:=
   ⟨n,X0,_,rfl,rfl,Nat.le_refl _,hF.symm,by rw [hn0];exact HPO.out,HH.out,by rw [hn0];exact HA.out,HG.out⟩
  have HST:=lh hst0;have hFin : ∀ wz,ArrAt wz J I.p { n:=n,X:=F,b:=σ.boosted }→ArrAt wz J I.p (passF α bst σ.boosted):=fun wz h=>by unfold passF;rw [← HX0.out,← hn0,← hF];exact h
  have HFIN:=lh hFin;rw [← hn0] at hn ⊢;clear hst0 hFin hF hn0 HH HA HG HPO HX0 a0 a1 a2 HP
  go_loopw [3] (fun v3 wr=>∃ (j:Nat) (Y:Nat→Nd) (v:Int),v3=.int .i64 v∧v=(j:Int) - 1∧j≤n∧passL j Y=F∧ParOk Y n∧StoreAt wr I σ∧ArrAt wr J I.p { n:=n,X:=Y,b:=σ.boosted }∧Chg (AOwn J) w wr) (fun v3 _=>(intOf v3+1).toNat)
  case atStart=>exact HST.out
  case round=>
   obtain ⟨j,Y,v,rfl,hv,hj,hY,hpo,hst,ha,hch⟩:=hrel;have HY:=lh hY;have HPO:=lh hpo;have HH:=lh hst;have HA:=lh ha;have HG:=lh hch;clear hY hpo hst ha hch;by_cases hj0:j=0
   ·obtain rfl:v = -1:=by omega
    subst hj0;clear hv hj;go_wp2
    go_end0
    exact ⟨rfl,HFIN.out _ (by have:=HY.out;unfold passL at this;rw [← this];exact HA.out),HG.out⟩
   ·obtain ⟨k,rfl⟩ : ∃ k,j=k+1:=⟨j - 1,by omega⟩;obtain rfl:v=(k:Int):=by omega
    have hk:k < n:=by omega
    have hp:=HPO.out k hk;clear hv hj hj0;obtain ⟨a0,a1,a2⟩:=HA.out.blk.c3;go_upto_region 9 with (fail)
    obtain ⟨x,hx⟩ : ∃ x,x=Y k:=⟨_,rfl⟩;have hd:=HA.out.row.c5 hk;simp only at hd;rw [← hx] at hd hp;have HXX:=lh hx;clear hx;obtain ⟨d0,d1,d2,d3,d4⟩:=hd;have f4:=HA.out.row.frozen (k * 5+4)
    go_still_tail 15,(by kernel_rfl)
    change wpList _ _ _ _ _ wr.drew;have hgd:=gdrew (gR wr none);replace HH:=lh (HH.out.g hgd);replace HA:=lh (HA.out.kept0 hgd);replace HG:=lh (HG.out.trans (Chg.of hgd));clear hgd;generalize wr.drew=w2 at HH HA HG ⊢;clear d0 d1 d2 d3 d4 f4 a0 a1 a2;have hd:=HA.out.row.c5 hk;simp only at hd;rw [← HXX.out] at hd;obtain ⟨d0,d1,d2,d3,d4⟩:=hd;have f4:=HA.out.row.frozen (k * 5+4);go_upto_region 10 with (fail)
    have hr:=HA.out.row.weigh hk (us (ua x.w x.u) x.d);simp only at hr;rw [← HXX.out] at hr;have hg:=gset w2 J.g (k * 5+4) (.int .u64 (us (ua x.w x.u) x.d));have hc:=Chg.one (S:=AOwn J) hg (.inr rfl);have hne:=HA.out.ne;have ha3:ArrAt _ J I.p { n:=n,X:=passU Y k,b:=σ.boosted }:=⟨HA.out.blk.kept hg (by simpa using fun e=>hne e.symm),by unfold passU;rw [← HXX.out];exact hr,HA.out.ne,HA.out.n⟩;replace HH:=lh (HH.out.exch hc HX.out);replace HG:=lh (HG.out.trans hc);clear HA;have HA:=lh ha3;clear ha3 hc hg hr d0 d1 d2 d3 d4 f4;change Code.wp _ _ _ _ (w2.setCell ⟨J.g,k * 5+4,none⟩ (.int .u64 (us (ua x.w x.u) x.d)));generalize w2.setCell ⟨J.g,k * 5+4,none⟩ (.int .u64 (us (ua x.w x.u) x.d))=w3 at HH HA HG ⊢;obtain ⟨Z,hZ⟩ : ∃ Z,Z=passU Y k:=⟨_,rfl⟩;rw [← hZ] at HA;have hZk:(Z k).p=x.p∧(Z k).u=x.u∧(Z k).d=x.d:=by rw [hZ];unfold passU nset;rw [if_pos rfl,← HXX.out];exact ⟨rfl,rfl,rfl⟩
    have hV:passV Y k=if 0≤x.p then nset Z x.p.toNat { Z x.p.toNat with u:=ua (Z x.p.toNat).u x.u,d:=ua (Z x.p.toNat).d x.d } else Z:=by unfold passV;rw [← hZ,← HXX.out]
    have HZK:=lh hZk;have HV:=lh hV;clear hZ hZk hV;obtain ⟨V,hVV⟩ : ∃ V,V=passV Y k:=⟨_,rfl⟩;rw [← hVV] at HV;have HVV:=lh hVV;clear hVV;have hd:=HA.out.row.c5 hk;simp only at hd;rw [HZK.out.1,HZK.out.2.1,HZK.out.2.2] at hd;obtain ⟨d0,d1,d2,d3,d4⟩:=hd;go_upto_if 90 with (fail)
    go_cut [] (fun wx=>StoreAt wx I σ∧ArrAt wx J I.p { n:=n,X:=V,b:=σ.boosted }∧Chg (AOwn J) w wx)
    case first=>
     by_cases hp0:0≤x.p
     ·obtain ⟨q,hq⟩ : ∃ q:Nat,x.p=(q:Int):=⟨x.p.toNat,by omega⟩;have hV:=HV.out;rw [if_pos hp0,hq,Int.toNat_natCast] at hV;have hqk:q < k:=by omega
      have hqn:q < n:=by omega
      have hqk':(q:Int) < n:=by omega
      rw [hq] at d1;replace HV:=lh hV;rw [hq];clear hV hp0 hp hq;obtain ⟨a0,a1,a2⟩:=HA.out.blk.c3;go_wp2_with fail
      go_quiet (fail)
      have hgd:w3.grownBy (w3.drewN nq) none:=drewN_grown w3 nq;replace HH:=lh (HH.out.g hgd);replace HA:=lh (HA.out.kept0 hgd);replace HG:=lh (HG.out.trans (Chg.of hgd));clear hgd a0 a1 a2 d0 d1 d2 d3 d4;generalize w3.drewN nq=w4 at HH HA HG ⊢;go_upto_region 12 with (fail)
      have TK:=lh fun w (hSw:(fun (wr:World)=>wr.cell? ⟨J.g,q * 5+2,none⟩=some (.int .u64 (Z q).u)∧wr.cell? ⟨J.g,q * 5+3,none⟩=some (.int .u64 (Z q).d)∧wr.cell? ⟨J.g,k * 5+2,none⟩=some (.int .u64 x.u)∧wr.cell? ⟨J.g,k * 5+3,none⟩=some (.int .u64 x.d)) w)=>And.intro hSw.1 <| hSw.2
      refine wp_region_late (fun (wr:World)=>wr.cell? ⟨J.g,q * 5+2,none⟩=some (.int .u64 (Z q).u)∧wr.cell? ⟨J.g,q * 5+3,none⟩=some (.int .u64 (Z q).d)∧wr.cell? ⟨J.g,k * 5+2,none⟩=some (.int .u64 x.u)∧wr.cell? ⟨J.g,k * 5+3,none⟩=some (.int .u64 x.d)) [22,25] (by as_aux_lemma=>kernel_rfl) ?_;have hgd:=gdrew (gR w4 none);replace HH:=lh (HH.out.g hgd);replace HA:=lh (HA.out.kept0 hgd);replace HG:=lh (HG.out.trans (Chg.of hgd));clear hgd;generalize w4.drew=w5 at HH HA HG ⊢;have hS:(fun wr:World=>wr.cell? ⟨J.g,q * 5+2,none⟩=some (.int .u64 (Z q).u)∧wr.cell? ⟨J.g,q * 5+3,none⟩=some (.int .u64 (Z q).d)∧wr.cell? ⟨J.g,k * 5+2,none⟩=some (.int .u64 x.u)∧wr.cell? ⟨J.g,k * 5+3,none⟩=some (.int .u64 x.d)) w5:=by
       have hd:=HA.out.row.c5 hk;have he:=HA.out.row.c5 hqn;simp only at hd he;rw [HZK.out.1,HZK.out.2.1,HZK.out.2.2] at hd;exact ⟨he.2.2.1,he.2.2.2.1,hd.2.2.1,hd.2.2.2.1⟩
      refine pM 0 ?_;simp only [zz];refine pM 1 ?_;simp only [zz];refine pM 2 ?_;simp only [zz];refine pM 3 ?_;simp only [zz];refine pM 4 ?_;simp only [zz];refine pM 6 ?_;simp only [zz];refine pM 7 ?_;simp only [zz];refine pM 8 ?_;simp only [zz];refine pM 11 ?_;simp only [zz];refine pM 12 ?_;simp only [zz];refine pM 13 ?_;simp only [zz];refine pM 15 ?_;simp only [zz];refine pM 16 ?_;simp only [zz];refine pM 17 ?_;simp only [zz];refine tM 5 ?_;simp only [zz];refine tM 9 ?_;simp only [zz];refine pM 10 ?_;simp only [zz];refine tM 14 ?_;simp only [zz];refine tM 18 ?_;simp only [zz];refine pM 19 ?_;simp only [zz];refine pM 20 ?_;simp only [zz];refine pM 21 ?_;simp only [zz];refine rM 22 fun K hK=>?_;have f1:=HA.out.row.frozen (q * 5+2);have t1:=hS.1;go_simp;refine hK.out _ _ (.inr (by decide)) ?_;clear hK K;try simp only [zz]
      refine pM 23 ?_;simp only [zz];refine pM 24 ?_;simp only [zz];refine rM 25 fun K hK=>?_;have f1:=HA.out.row.frozen (q * 5+3);have t1:=hS.2.1;go_simp;refine hK.out _ _ (.inr (by decide)) ?_;clear hK K;try simp only [zz]
      refine dM ?_ _;go_wp2_with fail
      go_meet
      have hr1:=HA.out.row.up hqn (ua (Z q).u x.u);simp only at hr1;have hr2:=hr1.down hqn (ua (Z q).d x.d);have hg:=gtrans (gset w5 J.g (q * 5+2) (.int .u64 (ua (Z q).u x.u))) (gset (w5.setCell ⟨J.g,q * 5+2,none⟩ (.int .u64 (ua (Z q).u x.u))) J.g (q * 5+3) (.int .u64 (ua (Z q).d x.d)));have hc:=Chg.one (S:=AOwn J) hg (.inr rfl);have hne:=HA.out.ne;have hX2:nset (nset Z q { Z q with u:=ua (Z q).u x.u }) q { nset Z q { Z q with u:=ua (Z q).u x.u } q with d:=ua (Z q).d x.d }=V:=by
       rw [HV.out];funext j;unfold nset;by_cases e:j=q
       ·rw [if_pos e,if_pos e,if_pos rfl]
       ·rw [if_neg e,if_neg e,if_neg e]
      rw [hX2] at hr2;exact ⟨HH.out.exch hc HX.out,⟨HA.out.blk.kept hg (by simpa using fun e=>hne e.symm),hr2,hne,HA.out.n⟩,HG.out.trans hc⟩
     ·have hV:=HV.out;rw [if_neg hp0] at hV;subst hV;go_wp2_with fail
      go_meet
      exact ⟨HH.out,HA.out,HG.out⟩
    case rest=>
     obtain ⟨hst,ha,hch⟩:=hcut;clear HH HA HG HV d0 d1 d2 d3 d4;have HH:=lh hst;have HA:=lh ha;have HG:=lh hch;clear hst ha hch;have hd:=HA.out.row.c5 hk;simp only at hd;obtain ⟨d0,d1,d2,d3,d4⟩:=hd;have f2:=HA.out.row.frozen (k * 5+2);have f3:=HA.out.row.frozen (k * 5+3);go_wp2_with fail
     have hr1:=HA.out.row.up hk 0;simp only at hr1;have hr2:=hr1.down hk 0;have hg:=gtrans (gset wc J.g (k * 5+2) (.int .u64 0)) (gset (wc.setCell ⟨J.g,k * 5+2,none⟩ (.int .u64 0)) J.g (k * 5+3) (.int .u64 0));have hc:=Chg.one (S:=AOwn J) hg (.inr rfl);have hne:=HA.out.ne;have hX2:nset (nset V k { V k with u:=0 }) k { nset V k { V k with u:=0 } k with d:=0 }=passW Y k:=by
      unfold passW;rw [← HVV.out];funext j;unfold nset;by_cases e:j=k
      ·rw [if_pos e,if_pos e,if_pos rfl]
      ·rw [if_neg e,if_neg e,if_neg e]
     rw [hX2] at hr2;exact ⟨⟨k,passW Y k,_,rfl,rfl,by omega,HY.out,HPO.out.same (passW_p Y k),HH.out.exch hc HX.out,⟨HA.out.blk.kept hg (by simpa using fun e=>hne e.symm),hr2,hne,HA.out.n⟩,HG.out.trans hc⟩,by simp [intOf]⟩
end
end Go.Proofs.YtndfpmboanohcaaGreatDoor
