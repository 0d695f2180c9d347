/- Contract of (*bucket.Engine).Weight. -/
import Derived.Test.YtndfpmboanohcaaGreatDoorLkhToSpw
namespace Go.Proofs.YtndfpmboanohcaaGreatDoor
set_option maxRecDepth 100000
open Go.RowKit Go.Maps SkipPure
def bgv (σ:St) (β:Bkt) (root r:Int):Int:=if ((σ.F r).isSome && belowF β.hgt β.par r root)=true then (β.bu r).getD 0 else 0
def sumG (g:Int→Int):List Int→Int
 | []=>0
 | x :: xs=>g x+sumG g xs
theorem sumG_append (g:Int→Int) : ∀ xs ys,sumG g (xs++ys)=sumG g xs+sumG g ys
 | [],ys=>by simp [sumG]
 | x :: xs,ys=>by simp only [List.cons_append,sumG,sumG_append g xs ys];omega
theorem sumG_perm (g:Int→Int) {xs ys:List Int} (h:xs.Perm ys):sumG g xs=sumG g ys:=by
 induction h with
 | nil=>rfl
 | cons x _ ih=>simp only [sumG,ih]
 | swap x y l=>simp only [sumG];omega
 | trans _ _ h1 h2=>exact h1.trans h2
theorem keysOf_perm {F:Int→Option Value} {xs ys:List Int} (h:KeysOf F xs) (k:KeysOf F ys):xs.Perm ys:=
 (List.perm_ext_iff_of_nodup h.1 k.1).2 fun a=>⟨fun ha=>(k.2.2 a (h.2.1 a ha)).2 ((h.2.2 a (h.2.1 a ha)).1 ha),fun ha=>(h.2.2 a (k.2.1 a ha)).2 ((k.2.2 a (k.2.1 a ha)).1 ha)⟩
section
open Classical
noncomputable def bkeys (β:Bkt):List Int:=if h : ∃ xs,KeysOf (wts β.bu) xs then Classical.choose h else []
end
theorem bkeys_perm {β:Bkt} {xs:List Int} (h:KeysOf (wts β.bu) xs):xs.Perm (bkeys β):=by
 have he : ∃ xs,KeysOf (wts β.bu) xs:=⟨xs,h⟩;unfold bkeys;rw [dif_pos he];exact keysOf_perm h (Classical.choose_spec he)
def wrU (x:Int):Int:=IntKind.u64.wrap x
theorem wrU_ua (x y:Int):ua (wrU x) y=wrU (x+y):=by
 unfold ua wrU;simp [IntKind.wrap,IntKind.signed,IntKind.bits]
noncomputable def bwtF (σ:St) (β:Bkt) (root:Int):Int:=
 if (σ.F root).isSome=true then
  (if ((σ.F σ.boosted).isSome && belowF β.hgt β.par σ.boosted root)=true then ua (wrU (sumG (bgv σ β root) (bkeys β))) (boostF σ.bs σ.S σ.B) else wrU (sumG (bgv σ β root) (bkeys β)))
 else 0
structure BCur (w:World) (b r nl:Nat) (D:DataW Value) (left:Lit→Bool) (cnt M:Nat):Prop where
 rg:w.ranges Tryz.prog 27 rawE b r nl D left cnt
 mz:w.rangeLeft b r < M
theorem BCur.g {w w':World} {b r nl cnt M:Nat} {D:DataW Value} {left:Lit→Bool} (h:BCur w b r nl D left cnt M) (hg:w.grownBy w' none):BCur w' b r nl D left cnt M:=by
 obtain ⟨h2,h3⟩:=h;have h4:=h2.kept hg (by simp) (by simp);refine ⟨h4,?_⟩;rw [h4.left_eq];rw [h2.left_eq] at h3;exact h3
section
variable {w:World} {I:Ids} {σ:St} {J:BIds} {β:Bkt}
set_option maxHeartbeats 8000000 in
theorem bweight_calls (h:StoreAt w I σ) (hw:StWf σ) (ha:BktAt w J I.p β) {root:Int} (hr:inU root) :
  Calls Tryz.prog 176 #[.pointer (some ⟨J.q,0,none⟩),.int .u64 root] w fun e w'=>e=.returned (.int .u64 (bwtF σ β root))∧w.grownBy w' none:=by
 have HALL:=lh (fun wz (hz:w.grownBy wz none)=>And.intro (h.g hz) (ha.kept0 hz));have HH:=lh h;have HA:=lh ha;have hbb:0≤boostF σ.bs σ.S σ.B∧boostF σ.bs σ.S σ.B≤17592186044416:=boost_bd2 hw.may;have hbo:=hw.bo;obtain ⟨R,hR⟩ : ∃ R,R=bwtF σ β root:=⟨_,rfl⟩;rw [← hR];unfold bwtF at hR;have HW:=lh hw;have HR:=lh hR;clear hw hR;have a0:w.cell? ⟨J.q,0,none⟩=some (.pointer (some ⟨I.p,0,none⟩)):=ha.blk.at 0;have c3:=h.s3;clear h ha;go_enter Tryz.func176,Tryz.ntmps176
 go_wp2_with fail
 refine (thas_calls HH.out.tree hr).mono ?_;rintro e w1 ⟨rfl,hg⟩;have HG:=lh hg;replace HH:=lh (HH.out.g hg);replace HA:=lh (HA.out.kept0 hg);clear hg a0 c3;obtain ⟨B1,hB1⟩ : ∃ B1,B1=(σ.F root).isSome:=⟨_,rfl⟩;rw [← hB1] at HR ⊢;clear hB1;cases B1 with
 | false=>
  have hr:=HR.out;rw [if_neg (by simp)] at hr;subst hr;go_wp2;go_ret;exact ⟨rfl,HG.out⟩
 | true=>
  have hr2:=HR.out;rw [if_pos rfl] at hr2;replace HR:=lh hr2;clear hr2;have a0:w1.cell? ⟨J.q,0,none⟩=some (.pointer (some ⟨I.p,0,none⟩)):=HA.out.blk.at 0;have a2:w1.cell? ⟨J.q,2,none⟩=some (.map (some J.mb)):=HA.out.blk.at 2;obtain ⟨D,hown,hHD,hsz⟩:=HA.out.buckets;have HOWN:=lh hown;have HHD:=lh hHD;clear hown hHD;clear hsz;go_wp2_with (first
   | (at_range;refine wpList_range_own _ rfl _ 120 rfl 27 27 (int_keyed Tryz.underlying27) Tryz.underlying120 rawE J.mb β.nb D rfl HOWN.out ?_;intro w2 hrg0 hg hs))
  obtain ⟨r,hrr⟩ : ∃ r,r=w1.heap.size:=⟨_,rfl⟩;rw [← hrr] at hrg0 ⊢;have hwr:w.heap.size≤r:=by rw [hrr];exact HG.out.size
  have hstart : ∃ (left:Lit→Bool) (cnt:Nat) (ss:List Int),w2.ranges Tryz.prog 27 rawE J.mb r β.nb D left cnt∧CollectedU D left ss∧Value.int .u64 0=.int .u64 (wrU (sumG (bgv σ β root) ss))∧w.grownBy w2 none:=
   ⟨_,_,[],hrg0,CollectedU.start D,rfl,g2 HG.out hg⟩
  clear a0 a2 hrr HG HH HA hg hs;have HST:=lh hstart;clear hstart hrg0;go_frame
  go_loopw [5] (fun v5 wr=>∃ (left:Lit→Bool) (cnt:Nat) (ss:List Int),wr.ranges Tryz.prog 27 rawE J.mb r β.nb D left cnt∧CollectedU D left ss∧v5=.int .u64 (wrU (sumG (bgv σ β root) ss))∧w.grownBy wr none)
   (fun _ wr=>wr.rangeLeft J.mb r)
  case atStart=>exact HST.out
  case round=>
   obtain ⟨left,cnt,ss,hrg,hC,rfl,hgw⟩:=hrel;have HGW:=lh hgw;have HCC:=lh hC;clear hgw hC;go_wp2_with (at_next;refine wpList_next_raw rfl _ rfl Tryz.underlying27 J.mb r β.nb D left cnt rfl hrg HHD.out ?_ ?_)
   ·intro hc0 hl0;have hkeys:=HCC.out.done HHD.out hl0;have hsum:=sumG_perm (bgv σ β root) (bkeys_perm hkeys);obtain ⟨SM,hSM⟩ : ∃ SM,SM=wrU (sumG (bgv σ β root) ss):=⟨_,rfl⟩;have hr2:=HR.out;rw [← hsum,← hSM] at hr2;rw [← hSM];replace HR:=lh hr2;have HG:=HGW;have HH:=lh (HALL.out _ HG.out).1;have HA:=lh (HALL.out _ HG.out).2;clear hc0 hl0 hkeys hsum hSM hr2 HCC HGW hrg;go_wp2_with fail
    obtain ⟨B2,hB2⟩ : ∃ B2,(σ.F σ.boosted).isSome=B2:=⟨_,rfl⟩;have HB2:=lh hB2;clear hB2;cases B2 with
    | false=>
     have TK:=lh fun w (hSw:(fun wr=>StoreAt wr I σ∧BktAt wr J I.p β) w)=>And.intro (show w.cell? ⟨J.q,0,none⟩=some (.pointer (some ⟨I.p,0,none⟩)) from hSw.2.blk.at 0) <| And.intro (show w.cell? ⟨J.q,1,none⟩=some (.pointer (some ⟨J.lp,0,none⟩)) from hSw.2.blk.at 1) <| And.intro hSw.1.s3 <| hSw.1.s6
     refine wp_region_late (fun wr=>StoreAt wr I σ∧BktAt wr J I.p β) [] (by as_aux_lemma=>kernel_rfl) ?_;have hgd:=gdrew (gR wr none);have hS:(fun wr=>StoreAt wr I σ∧BktAt wr J I.p β) wr.drew:=⟨HH.out.g hgd,HA.out.kept0 hgd⟩;replace HG:=lh (g2 HG.out hgd);clear hgd HH HA;generalize wr.drew=wl at hS HG ⊢;refine pM 0 ?_;simp only [zz];refine pM 1 ?_;simp only [zz];refine pM 2 ?_;simp only [zz];refine pM 7 ?_;simp only [zz];refine pM 8 ?_;simp only [zz];refine pM 9 ?_;simp only [zz];refine tM 3 ?_;simp only [zz];refine pM 4 ?_;simp only [zz];refine pM 5 ?_;simp only [zz];refine tM 6 ?_;simp only [zz];refine tM 10 ?_;simp only [zz];refine pM 11 ?_;simp only [zz];refine pM 12 ?_;simp only [zz];refine tM 13 ?_;simp only [zz];refine rM 14 fun K hK=>?_;go_simp;refine (thas_calls hS.1.tree hbo).mono ?_;rintro e wl ⟨rfl,hg⟩;rw [HB2.out];have hS2:(fun wr=>StoreAt wr I σ∧BktAt wr J I.p β) wl:=And.intro (hS.1.g hg) (hS.2.kept0 hg);replace HG:=lh (g2 HG.out hg);clear hg;refine hK.out _ _ (.inl (fun _=>hS2)) ?_;replace hS:=hS2;clear hK K hS2;try simp only [zz]
     refine pM 15 ?_;simp only [zz];refine uM 16 ?_;simp only [zz];refine uM 17 ?_;simp only [zz];refine uM 18 ?_;simp only [zz];refine uM 19 ?_;simp only [zz];refine uM 20 ?_;simp only [zz];refine uM 21 ?_;simp only [zz];refine uM 22 ?_;simp only [zz];refine uM 23 ?_;simp only [zz];refine uM 24 ?_;simp only [zz];refine uM 25 ?_;simp only [zz];refine uM 26 ?_;simp only [zz];refine uM 27 ?_;simp only [zz];refine uM 28 ?_;simp only [zz];refine pM 29 ?_;simp only [zz];refine dM ?_ _;have HH:=lh hS.1;have HA:=lh hS.2;clear hS;have hr2:=HR.out;rw [HB2.out,Bool.false_and,if_neg (by simp)] at hr2;subst hr2;go_wp2;go_ret;exact ⟨rfl,HG.out⟩
    | true=>
     have TK:=lh fun w (hSw:(fun wr=>StoreAt wr I σ∧BktAt wr J I.p β) w)=>And.intro (show w.cell? ⟨J.q,0,none⟩=some (.pointer (some ⟨I.p,0,none⟩)) from hSw.2.blk.at 0) <| And.intro (show w.cell? ⟨J.q,1,none⟩=some (.pointer (some ⟨J.lp,0,none⟩)) from hSw.2.blk.at 1) <| And.intro hSw.1.s3 <| hSw.1.s6
     refine wp_region_late (fun wr=>StoreAt wr I σ∧BktAt wr J I.p β) [] (by as_aux_lemma=>kernel_rfl) ?_;have hgd:=gdrew (gR wr none);have hS:(fun wr=>StoreAt wr I σ∧BktAt wr J I.p β) wr.drew:=⟨HH.out.g hgd,HA.out.kept0 hgd⟩;replace HG:=lh (g2 HG.out hgd);clear hgd HH HA;generalize wr.drew=wl at hS HG ⊢;refine pM 0 ?_;simp only [zz];refine pM 1 ?_;simp only [zz];refine pM 2 ?_;simp only [zz];refine pM 7 ?_;simp only [zz];refine pM 8 ?_;simp only [zz];refine pM 9 ?_;simp only [zz];refine tM 3 ?_;simp only [zz];refine pM 4 ?_;simp only [zz];refine pM 5 ?_;simp only [zz];refine tM 6 ?_;simp only [zz];refine tM 10 ?_;simp only [zz];refine pM 11 ?_;simp only [zz];refine pM 12 ?_;simp only [zz];refine tM 13 ?_;simp only [zz];refine rM 14 fun K hK=>?_;go_simp;refine (thas_calls hS.1.tree hbo).mono ?_;rintro e wl ⟨rfl,hg⟩;rw [HB2.out];have hS2:(fun wr=>StoreAt wr I σ∧BktAt wr J I.p β) wl:=And.intro (hS.1.g hg) (hS.2.kept0 hg);replace HG:=lh (g2 HG.out hg);clear hg;refine hK.out _ _ (.inl (fun _=>hS2)) ?_;replace hS:=hS2;clear hK K hS2;try simp only [zz]
     refine pM 15 ?_;simp only [zz];refine pM 16 ?_;simp only [zz];refine pM 17 ?_;simp only [zz];refine pM 18 ?_;simp only [zz];refine pM 20 ?_;simp only [zz];refine pM 21 ?_;simp only [zz];refine pM 22 ?_;simp only [zz];refine pM 27 ?_;simp only [zz];refine tM 19 ?_;simp only [zz];refine tM 23 ?_;simp only [zz];refine pM 24 ?_;simp only [zz];refine pM 25 ?_;simp only [zz];refine tM 26 ?_;simp only [zz];refine rM 28 fun K hK=>?_;go_simp;refine (below_calls hS.2.list (fun j hj=>(hS.2.lokb j hj).1) hS.2.tree hS.2.keys hbo hr).mono ?_;rintro e wl ⟨rfl,hg⟩;have hS2:(fun wr=>StoreAt wr I σ∧BktAt wr J I.p β) wl:=And.intro (hS.1.g hg) (hS.2.kept0 hg);replace HG:=lh (g2 HG.out hg);clear hg;refine hK.out _ _ (.inl (fun _=>hS2)) ?_;replace hS:=hS2;clear hK K hS2;try simp only [zz]
     refine pM 29 ?_;simp only [zz];refine dM ?_ _;have HH:=lh hS.1;have HA:=lh hS.2;clear hS;have hr2:=HR.out;rw [HB2.out,Bool.true_and] at hr2;replace HR:=lh hr2;clear hr2;obtain ⟨B3,hB3⟩ : ∃ B3,B3=belowF β.hgt β.par σ.boosted root:=⟨_,rfl⟩;rw [← hB3] at HR ⊢;clear hB3;cases B3 with
     | false=>
      have hr2:=HR.out;rw [if_neg (by simp)] at hr2;subst hr2;go_wp2;go_ret;exact ⟨rfl,HG.out⟩
     | true=>
      have hr2:=HR.out;rw [if_pos rfl] at hr2;obtain ⟨bo,hboo⟩ : ∃ bo,bo=boostF σ.bs σ.S σ.B:=⟨_,rfl⟩;rw [← hboo] at hr2;have HBO:=lh hboo;replace HR:=lh hr2;clear hboo hr2;have a0:wl.cell? ⟨J.q,0,none⟩=some (.pointer (some ⟨I.p,0,none⟩)):=HA.out.blk.at 0;have c0:=HH.out.s0;have c1:=HH.out.s1;have c2:=HH.out.s2;go_wp2_with fail
      refine (boost_calls HH.out.bal rfl HW.out.may).mono ?_;rintro e w9 ⟨rfl,hg⟩;rw [← HBO.out];replace HG:=lh (g2 HG.out hg);clear hg a0 c0 c1 c2;go_wp2;go_ret;exact ⟨by rw [HR.out];rfl,HG.out⟩
   ·intro x v w2 cnt2 hin hlk hF hat hrg2 hlt hg2 hs2 hen;have hC2:=HCC.out.step hin hlk hat;have hgw2:=gnew HGW.out hg2 hwr;have hm2:w2.rangeLeft J.mb r < wr.rangeLeft J.mb r:=by rw [hrg2.left_eq,hrg.left_eq];exact hlt
    have hcur:BCur w2 J.mb r β.nb D (fun z=>left z && !z.sameKey (kk x)) cnt2 (wr.rangeLeft J.mb r):=⟨hrg2,hm2⟩;obtain ⟨y,hy,rfl⟩ : ∃ y,β.bu x=some y∧v=.int .u64 y:=by
     unfold wts at hF;cases hb:β.bu x with
     | none=>rw [hb] at hF;cases hF
     | some y=>rw [hb] at hF;exact ⟨y,rfl,(Option.some.inj hF).symm⟩
    have hnx:wrU (sumG (bgv σ β root) (ss++[x]))=if ((σ.F x).isSome && belowF β.hgt β.par x root)=true then ua (wrU (sumG (bgv σ β root) ss)) y else wrU (sumG (bgv σ β root) ss):=by
     rw [sumG_append];simp only [sumG,bgv,hy,Option.getD_some,Int.add_zero];split
     ·rw [wrU_ua]
     ·rw [Int.add_zero]
    obtain ⟨SM,hSM⟩ : ∃ SM,SM=wrU (sumG (bgv σ β root) ss):=⟨_,rfl⟩;rw [← hSM] at hnx ⊢;have HC2:=lh hC2;have HCUR:=lh hcur;have HNX:=lh hnx;clear hC2 hcur hnx;replace HG:=lh hgw2;clear hSM hgw2 hm2 hy hrg hrg2 hF hlk hat hlt hg2 hs2 HCC HGW;obtain ⟨B2,hB2⟩ : ∃ B2,B2=(σ.F x).isSome:=⟨_,rfl⟩;have hnx:=HNX.out;rw [← hB2] at hnx;have HB2:=lh hB2;clear hB2;have a0:w2.cell? ⟨J.q,0,none⟩=some (.pointer (some ⟨I.p,0,none⟩)):=(HALL.out _ HG.out).2.blk.at 0;have c3:=(HALL.out _ HG.out).1.s3;cases B2 with
    | false=>
     rw [Bool.false_and,if_neg (by simp)] at hnx;replace HNX:=lh hnx;clear hnx;go_wp2_with fail
     refine (thas_calls (HALL.out _ HG.out).1.tree hin).mono ?_;rintro e w3 ⟨rfl,hg⟩;rw [← HB2.out];replace HG:=lh (g2 HG.out hg);replace HCUR:=lh (HCUR.out.g hg);clear hg a0 c3 hen;go_wp2;exact ⟨⟨_,_,ss++[x],HCUR.out.rg,HC2.out,by rw [HNX.out],HG.out⟩,HCUR.out.mz⟩
    | true=>
     rw [Bool.true_and] at hnx;obtain ⟨B3,hB3⟩ : ∃ B3,B3=belowF β.hgt β.par x root:=⟨_,rfl⟩;rw [← hB3] at hnx;have HB3:=lh hB3;replace HNX:=lh hnx;clear hnx hB3;go_wp2_with fail
     refine (thas_calls (HALL.out _ HG.out).1.tree hin).mono ?_;rintro e w3 ⟨rfl,hg⟩;rw [← HB2.out];replace HG:=lh (g2 HG.out hg);replace HCUR:=lh (HCUR.out.g hg);clear hg a0 c3 hen;have a1:w3.cell? ⟨J.q,1,none⟩=some (.pointer (some ⟨J.lp,0,none⟩)):=(HALL.out _ HG.out).2.blk.at 1;go_wp2_with fail
     refine (below_calls (HALL.out _ HG.out).2.list (fun j hj=>((HALL.out _ HG.out).2.lokb j hj).1) (HALL.out _ HG.out).2.tree (HALL.out _ HG.out).2.keys hin hr).mono ?_;rintro e w4 ⟨rfl,hg⟩;rw [← HB3.out];replace HG:=lh (g2 HG.out hg);replace HCUR:=lh (HCUR.out.g hg);clear hg a1;cases B3 with
     | false=>
      have hnx:=HNX.out;rw [if_neg (by simp)] at hnx;replace HNX:=lh hnx;clear hnx;go_wp2;exact ⟨⟨_,_,ss++[x],HCUR.out.rg,HC2.out,by rw [HNX.out],HG.out⟩,HCUR.out.mz⟩
     | true=>
      have hnx:=HNX.out;rw [if_pos rfl] at hnx;replace HNX:=lh hnx;clear hnx;go_wp2;exact ⟨⟨_,_,ss++[x],HCUR.out.rg,HC2.out,by rw [HNX.out];rfl,HG.out⟩,HCUR.out.mz⟩
end
def engB:EngD where
 ty:=117
 ff:=174
 fh:=175
 T:=Bkt
 Own:=fun w q p O β=>∃ J:BIds,J.q=q∧BktAt w J p β∧O=BOwn J
 Rel:=fun _ N β=>BBd β N (N * 120000)
 next:=fun σ cs β=>cs.foldl (bstepC σ.bs) β
 HD:=fun σ ks β r=>HdK (bwtF σ β) σ ks r
 Eqv:=fun _ t t'=>t=t'
 t0:=bkt0
theorem engB_laws:EngL engB where
 chg h hc hs:=by
  obtain ⟨J,h1,h2,h3⟩:=h;exact ⟨J,h1,h2.chg hc (fun i hi=>hs i (by rw [h3];exact hi)),h3⟩
 eqr _ _:=rfl
 eqt h h':=Eq.trans h h'
 eqs h:=Eq.symm h
 uniq e _ h h':=by cases e;exact HdB.unique h h'
 step e _ _ _ _ _:=by rw [e];rfl
 rest h:=⟨rfl,h⟩
 feed {w q I σ t N e cells} h hN hB he:=by
  obtain ⟨J,rfl,h2,h3⟩:=h.own;refine (bfeed_calls h.st h.inv hN h2 h3 h.rel hB (he.chg (S:=fun _=>False) (Chg.refl _ _) (fun _ _ h=>h) (fun i hi=>⟨hi.1,fun hm=>hi.2 (.inl hm)⟩))).mono ?_;rintro z w' ⟨E,c2,t2,lok,σ',cs',rfl,hap,hst,hbk,hin,hbd,had,hc,hl,ht⟩;refine ⟨E,_,σ',cs',rfl,hap,⟨hst,⟨{ J with lok:=lok },rfl,hbk,rfl⟩,hin,hbd,had.par h.par⟩,rfl,rfl,hc.mono (fun i hi=>hi.imp id (fun h=>by rw [h3];exact h)),fun i hi=>?_⟩;rcases hi with (hi | hi | hi | hi | hi | hi) | hi
  ·exact .inl (.inl (.inl hi))
  ·exact .inl (.inl (.inr (.inl hi)))
  ·rcases ht with h1 | h1
   ·exact .inl (.inl (.inr (.inr (.inl (hi.trans h1)))))
   ·have h4:i=t2:=hi;right;omega
  ·exact .inl (.inl (.inr (.inr (.inr (.inl hi)))))
  ·exact .inl (.inl (.inr (.inr (.inr (.inr (.inl hi))))))
  ·exact .inl (.inl (.inr (.inr (.inr (.inr (.inr hi))))))
  ·have h4:I.ex=BOwn J:=h3;rcases hi with hi | hi | hi
   ·exact .inl (.inr (by rw [h4];exact .inl hi))
   ·exact .inl (.inr (by rw [h4];exact .inr (.inl hi)))
   ·rcases hl i hi with h1 | h1
    ·exact .inl (.inr (by rw [h4];exact .inr (.inr h1)))
    ·exact .inr h1
 head {w q I σ t N ks} h hN hk:=by
  obtain ⟨J,rfl,h2,h3⟩:=h.own;refine (bhead_calls h.st h.inv.wf h2 hk (by have:=h.inv.klen hk;have:=h.inv.wf.n;omega) (sortUpTo_any _ (by have:=h.inv.wf.n;omega)) (bwtF σ t) (fun W hW r hr=>bweight_calls (h.st.g hW) h.inv.wf (h2.kept0 hW) hr)).mono ?_;rintro z w' ⟨r,rfl,hd,hg⟩;exact ⟨r,t,rfl,hd,HdB.inU hd h.inv.wf.jr (stepB_inU hk),rfl,⟨h.st.g hg,⟨J,rfl,h2.kept0 hg,h3⟩,h.inv,h.rel,h.par⟩,Chg.of hg⟩
def sgA:St:=tickF (st0 [5] 4 0) 2
def sgB:St:=addS sgA 2 1 2 0 (led0 1 1)
theorem may1:MayBe [5] 4 0:=
 ⟨by simp,by simp,by omega,by omega,by omega,by omega,fun i hi=>by
  have e:i=0:=by simp at hi;omega
  subst e;simp⟩
theorem sgA_eq:sgA={ st0 [5] 4 0 with slot:=2,boosted:=0 }:=by
 have e:tickE (st0 [5] 4 0) 2=0:=by unfold tickE st0;simp
 unfold sgA tickF;rw [if_pos e]
def F1:Int→Option (Int×Int×Int):=fun x=>if x=1 then some (1,0,0) else none
def F2:Int→Option (Int×Int×Int):=fun x=>if x=2 then some (1,2,1) else if x=1 then some (1,0,0) else none
theorem adv1 (T:Int→Option (Int×Int×Int)):advF [5] 4 T 1 2 (led0 1 1) 2=led0 1 1:=by
 unfold advF;have e:endsF (eOf ((led0 1 1).ep * max 1 4) 4) (eOf 2 4)=[]:=by decide
 rw [e];rfl
theorem sgB_eq:sgB={ sgA with n:=2,F:=F2,L:=ledSet sgA.L 2 (led0 1 1),boosted:=2 }:=by
 unfold sgB addS;rw [sgA_eq];have h1:tset (st0 [5] 4 0).F 2 (1,2,0+1)=F2:=by funext x;unfold tset F2 st0;rfl
 simp only [h1];have h2:(st0 [5] 4 0).bs=[5]:=rfl;have h3:(st0 [5] 4 0).S=4:=rfl;have h4:(st0 [5] 4 0).f=1:=rfl;rw [h2,h3,h4,adv1];rfl
theorem keysF1 {r:Int} (h:(F1 r).isSome=true):r=1:=by
 unfold F1 at h;split at h
 ·assumption
 ·cases h
theorem keysF2 {r:Int} (h:(F2 r).isSome=true):r=1∨r=2:=by
 unfold F2 at h;split at h
 ·right;assumption
 ·split at h
  ·left;assumption
  ·cases h
theorem ledBd0:LedBd (led0 1 1):=⟨⟨by simp [led0],by simp [led0],by simp [led0],by simp [led0],by simp [led0],by simp [led0],by simp [led0,inU],by simp [led0,inU],by simp [led0,inU]⟩,by simp [led0],by simp [led0]⟩
theorem risA:Rising sgA.F [1]:=by
 rw [sgA_eq];refine ⟨by simp,fun x hx=>?_,fun x _=>⟨fun hx=>?_,fun hx=>?_⟩⟩
 ·simp at hx;subst hx;unfold inU;omega
 ·simp at hx;subst hx;rfl
 ·rw [keysF1 hx];simp
theorem risB:Rising sgB.F [1,2]:=by
 rw [sgB_eq];refine ⟨by simp,fun x hx=>?_,fun x _=>⟨fun hx=>?_,fun hx=>?_⟩⟩
 ·simp at hx;unfold inU;omega
 ·simp at hx;rcases hx with e | e <;> subst e <;> rfl
 ·rcases keysF2 hx with e | e <;> rw [e] <;> simp
theorem head_one {may:Int→Prop} {X:Nat→Nd} (h:(X 0).r=1):headF may X 1 1=1:=by
 have e:fnd X 1 1=0:=by simp [fnd,h]
 have e2:bestL may X (1 - 1) (fun _=>-1)=fun _=>-1:=rfl;have e3:walkB (fun _=>-1) 1 0=0:=rfl;unfold headF;rw [e,e2,e3,if_neg (by omega)];exact h
theorem head_two {may:Int→Prop} {X:Nat→Nd} (h0:(X 0).r=1) (h1:(X 1).r=2) (hp:(X 1).p=0) (hm:may 2):headF may X 2 1=2:=by
 have e:fnd X 1 2=0:=by simp [fnd,h0]
 have e2:bestL may X (2 - 1) (fun _=>-1)=bset (fun _=>-1) 0 1:=by
  show bestS may X (fun _=>-1) 1=_;unfold bestS;rw [h1,hp,if_pos ⟨hm,by omega,by simp [betterF]⟩];rfl
 have e3:walkB (bset (fun _=>-1) 0 1) 2 0=1:=by
  unfold walkB;rw [if_pos ⟨by omega,by simp [bset]⟩];have e4:bset (fun _=>-1) 0 1 (0:Int).toNat=1:=rfl;rw [e4];unfold walkB;rw [if_neg (by simp [bset])]
 unfold headF;rw [e,e2,e3,if_neg (by omega)];exact h1
theorem may2 (G:Int→Option Int) (ep:Int):MayLead F2 1 [1,2] G 0 1 ep 2:=by
 refine ⟨.step (x:=(1,2,1)) rfl (by omega) (.self 1),2,rfl,by decide,?_,.self 2⟩;unfold leafF;have e:belowT F2 1 2 1=true:=by decide
 rw [e];simp
theorem step_end {F:Int→Option (Int×Int×Int)} {f:Int} {ks:List Int} {may:Int→Prop} {wt:Int→Int} {h:Int} (hk:kidsT F f h ks=[]):stepB F f ks may wt h=none:=by
 unfold stepB kidsB;rw [hk];exact if_neg (by simp [fl,bestF])
theorem hdA (may:Int→Prop) (wt:Int→Int):HdB (stepB F1 1 [1] may wt) 1 1:=.stop (step_end (by decide))
theorem hdB2 {may:Int→Prop} (hm:may 2) (wt:Int→Int):HdB (stepB F2 1 [1,2] may wt) 1 2:=by
 refine .next (k:=2) ?_ (.stop (step_end (by decide)))
 unfold stepB kidsB;have e:kidsT F2 1 1 [1,2]=[2]:=by decide
 have e2:fl may [2]=[2]:=by unfold fl;simp [hm]
 rw [e,e2];have e3:bestF wt [2]=(2,wt 2,true):=by simp [bestF,bstep]
 rw [e3];rfl
section
variable {w:World} {bs:List Int} {S B:Int} {ad:Option Addr} {c:Nat}
set_option maxHeartbeats 2000000 in
theorem rof_array (hb:Ints .u64 w ad bs) (hm:MayBe bs S B) :
  Calls Tryz.prog 15 #[.int .i64 1,cfgV ad bs.length c S B] w fun e w'=>∃ I J,e=.returned (.tuple #[.iface 105 (.pointer (some ⟨J.q,0,none⟩)),.pointer (some ⟨I.p,0,none⟩),.nilIface])∧StoreAt w' I (st0 bs S B)∧ArrAt w' J I.p arr0∧I.ex=AOwn J∧w.grownBy w' none ∧
   (∀ i,Mut I i→w.heap.size≤i)∧(∀ i,AOwn J i→w.heap.size≤i):=by
 have HB:=lh hb;have HM:=lh hm;clear hb hm;unfold cfgV;go_enter Tryz.func15,Tryz.ntmps15
 go_upto_region 1 with (fail)
 refine nmC1 ?_;intro W b0 hz hg;obtain ⟨q,hq_q⟩ : ∃ q,q=w.heap.size:=⟨_,rfl⟩;rw [← hq_q] at b0 hz ⊢;have HQ_q:=lh hq_q;clear hq_q;have HQ:=lh b0;have HG:=lh hg;clear b0 hg;replace HB:=lh (Ints.kept HB.out HG.out);obtain ⟨c0,c1,c2⟩:=HQ.out.c3;go_wp2_with fail
 refine (aof_calls HB.out HM.out).mono ?_;rintro e w1 ⟨I,J,rfl,hst,ha,hex,hg,hm1,hm2⟩;have hwW:=HG.out.size;replace HG:=lh (g2 HG.out hg);have h1 : ∀ i,Mut I i→w.heap.size≤i:=fun i hi=>Nat.le_trans hwW (hm1 i hi);have h2 : ∀ i,AOwn J i→w.heap.size≤i:=fun i hi=>Nat.le_trans hwW (hm2 i hi);clear hg c0 c1 c2 HB HQ hwW hm1 hm2;have HH:=lh hst;have HA:=lh ha;have HEX:=lh hex;have HM1:=lh h1;have HM2:=lh h2;clear hst ha hex h1 h2;go_wp2_with fail
 have a0:w1.cell? ⟨J.q,0,none⟩=some (.pointer (some ⟨I.p,0,none⟩)):=HA.out.blk.at 0;go_quiet (fail)
 have hgd:w1.grownBy (w1.drewN nq) none:=drewN_grown w1 nq;replace HH:=lh (HH.out.g hgd);replace HA:=lh (HA.out.kept0 hgd);replace HG:=lh (g2 HG.out hgd);clear hgd a0;generalize w1.drewN nq=w2 at HH HA HG ⊢;go_wp2;go_ret3;exact ⟨I,J,rfl,HH.out,HA.out,HEX.out,HG.out,HM1.out,HM2.out⟩
set_option maxHeartbeats 2000000 in
theorem rof_bucket (hb:Ints .u64 w ad bs) (hm:MayBe bs S B) :
  Calls Tryz.prog 15 #[.int .i64 3,cfgV ad bs.length c S B] w fun e w'=>∃ I J,e=.returned (.tuple #[.iface 117 (.pointer (some ⟨J.q,0,none⟩)),.pointer (some ⟨I.p,0,none⟩),.nilIface])∧StoreAt w' I (st0 bs S B)∧BktAt w' J I.p bkt0∧I.ex=BOwn J∧w.grownBy w' none ∧
   (∀ i,Mut I i→w.heap.size≤i)∧(∀ i,BOwn J i→w.heap.size≤i):=by
 have HB:=lh hb;have HM:=lh hm;clear hb hm;unfold cfgV;go_enter Tryz.func15,Tryz.ntmps15
 go_upto_region 1 with (fail)
 refine nmC1 ?_;intro W b0 hz hg;obtain ⟨q,hq_q⟩ : ∃ q,q=w.heap.size:=⟨_,rfl⟩;rw [← hq_q] at b0 hz ⊢;have HQ_q:=lh hq_q;clear hq_q;have HQ:=lh b0;have HG:=lh hg;clear b0 hg;replace HB:=lh (Ints.kept HB.out HG.out);obtain ⟨c0,c1,c2⟩:=HQ.out.c3;go_wp2_with fail
 refine (bof_calls HB.out HM.out).mono ?_;rintro e w1 ⟨I,J,rfl,hst,ha,hex,hg,hm1,hm2⟩;have hwW:=HG.out.size;replace HG:=lh (g2 HG.out hg);have h1 : ∀ i,Mut I i→w.heap.size≤i:=fun i hi=>Nat.le_trans hwW (hm1 i hi);have h2 : ∀ i,BOwn J i→w.heap.size≤i:=fun i hi=>Nat.le_trans hwW (hm2 i hi);clear hg c0 c1 c2 HB HQ hwW hm1 hm2;have HH:=lh hst;have HA:=lh ha;have HEX:=lh hex;have HM1:=lh h1;have HM2:=lh h2;clear hst ha hex h1 h2;go_wp2_with fail
 have a0:w1.cell? ⟨J.q,0,none⟩=some (.pointer (some ⟨I.p,0,none⟩)):=HA.out.blk.at 0;go_quiet (fail)
 have hgd:w1.grownBy (w1.drewN nq) none:=drewN_grown w1 nq;replace HH:=lh (HH.out.g hgd);replace HA:=lh (HA.out.kept0 hgd);replace HG:=lh (g2 HG.out hgd);clear hgd a0;generalize w1.drewN nq=w2 at HH HA HG ⊢;go_wp2;go_ret3;exact ⟨I,J,rfl,HH.out,HA.out,HEX.out,HG.out,HM1.out,HM2.out⟩
end
theorem me_feedA (q : Nat) (w : World) : (method 402 105 (.pointer (some ⟨q, 0, none⟩)) "Feed").run Tryz.prog w = .ok (157, .pointer (some ⟨q, 0, none⟩)) w := by kernel_rfl
theorem me_headA (q : Nat) (w : World) : (method 402 105 (.pointer (some ⟨q, 0, none⟩)) "Head").run Tryz.prog w = .ok (158, .pointer (some ⟨q, 0, none⟩)) w := by kernel_rfl
theorem me_feedB (q : Nat) (w : World) : (method 402 117 (.pointer (some ⟨q, 0, none⟩)) "Feed").run Tryz.prog w = .ok (174, .pointer (some ⟨q, 0, none⟩)) w := by kernel_rfl
theorem me_headB (q : Nat) (w : World) : (method 402 117 (.pointer (some ⟨q, 0, none⟩)) "Head").run Tryz.prog w = .ok (175, .pointer (some ⟨q, 0, none⟩)) w := by kernel_rfl
def ev2:Ev:=⟨1,0,2,1,2,[],[],vt0,vt0,vt0⟩
def cs2:List Cg:=[⟨0,2,1,0,0,false⟩]
theorem ev2B:EvB ev2:=⟨.inr (.inl rfl),by unfold inU ev2;simp,by unfold inU ev2;simp,by simp [ev2],by simp [ev2],by simp [ev2],by simp [ev2],vtB0,vtB0,vtB0⟩
theorem ap1:Applied (st0 [5] 4 0) (tkE 2) 0 sgA []:=.inl ⟨rfl,by show (0:Int)=tickE (st0 [5] 4 0) 2;unfold tickE st0;simp,rfl,rfl⟩
theorem raised_none {σ:St} {cs:List Cg} {je jr fe fr:Int} (h1:je≤σ.je) (h2:fe≤σ.fe):Raised σ cs je jr fe fr σ cs:=by
 have e1:raiseJ σ je jr=σ:=by
  unfold raiseJ;rw [if_neg (by simp;omega)]
 unfold Raised;rw [e1];rw [if_neg (by unfold raiseC;simp [h2])];exact ⟨rfl,rfl⟩
theorem ap2:Applied sgA ev2 0 sgB cs2:=by
 have hX:propX sgA 2 1 2 [] (led0 1 1)=led0 1 1:=by
  show advF sgA.bs sgA.S (propT sgA 2 1 2) sgA.f 2 (led0 1 1) 2=led0 1 1;have h:advF [5] 4 (propT sgA 2 1 2) 1 2 (led0 1 1) 2=led0 1 1:=adv1 _;rw [sgA_eq] at h ⊢;exact h
 have hB:sgB=boostS (propA sgA 2 1 2 (led0 1 1)) 2 2:=by
  rw [sgB_eq,sgA_eq];unfold boostS propA;simp only;have hF:propT { st0 [5] 4 0 with slot:=2,boosted:=0 } 2 1 2=F2:=by
   funext x;unfold propT tset F2;rfl
  rw [hF];rfl
 refine .inr (.inl ⟨rfl,.inr (.inr (.inr (.inr ⟨?_,by show (2:Int)≠0;omega,?_,?_,rfl,?_⟩)))⟩)
 ·rw [sgA_eq];show (2:Int)≤2;omega
 ·rw [sgA_eq];exact fun h=>h
 ·rw [sgA_eq];decide
 ·refine ⟨led0 1 1,sgB,cs2,by rw [sgA_eq];rfl,?_,?_,?_⟩
  ·show LedBd (propX sgA 2 1 2 [] (led0 1 1));rw [hX];exact ledBd0
  ·show Raised (boostS (propA sgA 2 1 2 (propX sgA 2 1 2 [] (led0 1 1))) 2 2) cs2 _ _ _ _ sgB cs2;rw [hX,← hB];refine raised_none ?_ ?_
   ·show (propX sgA 2 1 2 [] (led0 1 1)).j.ce≤sgB.je;rw [hX,sgB_eq,sgA_eq];show (0:Int)≤0;omega
   ·show (propX sgA 2 1 2 [] (led0 1 1)).j.fe≤sgB.fe;rw [hX,sgB_eq,sgA_eq];show (0:Int)≤0;omega
  ·unfold PropEnd;rw [if_neg (by rw [sgA_eq];show ¬ eOf 2 4 < eOf 2 4;omega)];exact ⟨rfl,rfl⟩
theorem awk_lines {X:EngD} (L:EngL X) (h1:X.HD sgA [1] (X.next sgA [] X.t0) 1) (h2:X.HD sgB [1,2] (X.next sgB cs2 (X.next sgA [] X.t0)) 2) {ls:List Ln} {σ:St} {t:X.T} (h:TrC X (st0 [5] 4 0) X.t0 [tkE 2,ev2] ls σ t) :
  ∃ l1 l2,ls=[(0,l1),(0,l2)]∧u8s l1=canonF sgA [1] 1∧u8s l2=canonF sgB [1,2] 2:=by
 obtain ⟨x,_,σ1,t1,rfl,s1,y,_,σ2,t2,rfl,s2,rfl,_,_⟩:=h;obtain ⟨N,cs,ks,r,a1,a2,a3,a4,a5,a6,a7,a8,a9,a10,a11⟩:=s1;obtain ⟨e1,rfl,rfl⟩:=a4.det ap1;obtain rfl:=a6.eq risA;obtain rfl:=L.uniq (L.eqr _ _) a5 a7 h1;obtain ⟨M,ds,js,r',b1,b2,b3,b4,b5,b6,b7,b8,b9,b10,b11⟩:=s2;obtain ⟨e2,rfl,rfl⟩:=b4.det ap2;obtain rfl:=b6.eq risB;have hq:=L.step (L.eqs a10) b2 a5 b1 b3 b4;obtain rfl:=L.uniq hq b5 b7 h2;have ex:x=(0,x.2):=Prod.ext e1 rfl;have ey:y=(0,y.2):=Prod.ext e2 rfl;exact ⟨x.2,y.2,congrArg (fun p:Ln×Ln=>[p.1,p.2]) (Prod.ext ex ey:(x,y)=((0,x.2),(0,y.2))),a9,b9⟩
end Go.Proofs.YtndfpmboanohcaaGreatDoor
