/- Contract of canon.Of. -/
import Derived.Test.YtndfpmboanohcaaGreatDoorFdpToEng
namespace Go.Proofs.YtndfpmboanohcaaGreatDoor
set_option maxRecDepth 100000
open Go.RowKit Go.Maps SkipPure
def b2i (b:Bool):Int:=if b then 1 else 0
def headN (σ:St) (head:Int):List Int:=[head,σ.slot,σ.je,σ.jr,σ.fe,σ.fr,σ.boosted,(σ.n:Int)]
def blockN (F:Int→Option (Int×Int×Int)) (r:Int):List Int:=[r,(getT F r).1,(getT F r).2.1]
def voteN (x:Ent):List Int:=[b2i x.h,x.e,x.r,b2i x.b]
def blocksF (F:Int→Option (Int×Int×Int)) (ks:List Int):List Value:=ks.flatMap fun r=>putF (blockN F r)
def votesF (V:Nat→Ent) (N:Nat):List Value:=(List.range N).flatMap fun i=>putF (voteN (V i))
def canonF (σ:St) (ks:List Int) (head:Int):List Value:=putF (headN σ head)++blocksF σ.F ks++putF [(σ.bs.length:Int)]++votesF σ.V σ.bs.length
theorem putF_len : ∀ xs,(putF xs).length=8 * xs.length
 | []=>rfl
 | x :: xs=>by rw [putF,List.length_append,bytesF_length,putF_len xs];simp;omega
theorem blocksF_take (F:Int→Option (Int×Int×Int)) (ks:List Int) {j:Nat} (h:j < ks.length):blocksF F (ks.take (j+1))=blocksF F (ks.take j)++putF (blockN F (ks.getD j 0)):=by
 unfold blocksF;rw [List.take_add_one,List.flatMap_append]
 congr 1
 simp [List.getElem?_eq_getElem h,List.getD_eq_getElem?_getD]
theorem votesF_succ (V:Nat→Ent) (N:Nat):votesF V (N+1)=votesF V N++putF (voteN (V N)):=by
 unfold votesF;rw [List.range_succ,List.flatMap_append];simp
theorem putF_one : ∀ xs,∀ u∈putF xs,u.oneCell'=true
 | [],u,h=>by cases h
 | x :: xs,u,h=>by
  rw [putF,List.mem_append] at h;rcases h with h | h
  ·unfold bytesF at h;obtain ⟨i,_,rfl⟩:=List.mem_map.1 h;rfl
  ·exact putF_one xs u h
theorem blocksF_one (F:Int→Option (Int×Int×Int)) (ks:List Int) : ∀ u∈blocksF F ks,u.oneCell'=true:=fun u h=>by
 obtain ⟨r,_,hr⟩:=List.mem_flatMap.1 h;exact putF_one _ u hr
theorem votesF_one (V:Nat→Ent) (N:Nat) : ∀ u∈votesF V N,u.oneCell'=true:=fun u h=>by
 obtain ⟨r,_,hr⟩:=List.mem_flatMap.1 h;exact putF_one _ u hr
theorem one_app {xs ys:List Value} (hx : ∀ u∈xs,u.oneCell'=true) (hy : ∀ u∈ys,u.oneCell'=true) : ∀ u∈xs++ys,u.oneCell'=true:=fun u h=>(List.mem_append.1 h).elim (hx u) (hy u)
theorem inU_all {xs:List Int} (h : ∀ x∈xs,inU x) : ∀ i,i < xs.length→inU (xs.getD i 0):=fun i hi=>by
 rw [List.getD_eq_getElem?_getD,List.getElem?_eq_getElem hi];exact h _ (List.getElem_mem hi)
theorem u64_of {x:Int} (h0:0≤x) (h1:x≤1099511627776):IntKind.u64.wrap x=x∧inU x:=by
 refine ⟨?_,by unfold inU;omega⟩;simp [IntKind.wrap,IntKind.signed,IntKind.bits];omega
theorem ints_blk {kd:IntKind} {w:World} {g:Nat} {xs:List Int} {T:TypeId} (h:Blk w g (xs.map (Value.int kd)).toArray T):Ints kd w (some ⟨g,0,none⟩) xs:=fun i hi=>by
 refine ⟨_,rfl,?_⟩;have e:(⟨g,0,none⟩:Addr).add i=⟨g,i,none⟩:=by unfold Addr.add;split <;> simp_all
 rw [e,h.at i];simp [List.getElem?_eq_getElem hi,List.getD_eq_getElem?_getD]
section
variable {w:World} {I:Ids} {σ:St}
set_option maxHeartbeats 8000000 in
theorem canon_calls (h:StoreAt w I σ) (hw:StWf σ) (hpar : ∀ r x,σ.F r=some x→inU x.1) {ks:List Int} (hks:Rising σ.F ks) (hS:SortUpTo σ.n) {hd:Int} (hh:inU hd) :
  Calls Tryz.prog 21 #[.pointer (some ⟨I.p,0,none⟩),.int .u64 hd] w fun e w'=>∃ v,e=.returned v∧w'.ownsRow w.heap.size 5 1 v (canonF σ ks hd).length (canonF σ ks hd)∧w.grownBy w' none:=by
 have HH:=lh h;have hn:=hw.n;have hs0:=hw.s0;have hs1:=hw.s1;have hl2:=hw.may.l2;obtain ⟨wa,wa2⟩:=u64_of hw.s0 hw.s1;obtain ⟨wb,wb2⟩:=u64_of hw.j0 hw.j1;obtain ⟨wc,wc2⟩:=u64_of hw.f0 hw.f1;obtain ⟨wd,wd2⟩:=u64_of (x:=(σ.n:Int)) (by omega) (by omega);obtain ⟨we,we2⟩:=u64_of (x:=(σ.bs.length:Int)) (by omega) (by omega);have hN8 : ∀ x∈headN σ hd,inU x:=by
  intro x hx;simp only [headN,List.mem_cons,List.not_mem_nil,or_false] at hx;rcases hx with rfl | rfl | rfl | rfl | rfl | rfl | rfl | rfl
  ·exact hh
  ·exact wa2
  ·exact wb2
  ·exact hw.jr
  ·exact wc2
  ·exact hw.fr
  ·exact hw.bo
  ·exact wd2
 have HW:=lh hw;have HPAR:=lh hpar;have HKS:=lh hks;have HSS:=lh hS;have HN8:=lh hN8;clear hw hpar hks hS hN8;clear h wa2 wb2 wc2 wd2;go_enter Tryz.func21,Tryz.ntmps21
 go_upto_region 1 with (fail)
 have TK:=lh fun w (hSw:(fun wr=>StoreAt wr I σ) w)=>And.intro hSw.s5 <| And.intro hSw.s7 <| And.intro hSw.s8 <| And.intro hSw.s9 <| And.intro hSw.s10 <| And.intro hSw.s6 <| hSw.s3
 refine wp_region_late (fun wr=>StoreAt wr I σ) [] (by as_aux_lemma=>kernel_rfl) ?_;have hgd:=gdrew (gR w none);have hS:(fun wr=>StoreAt wr I σ) w.drew:=HH.out.g hgd;have HG:=lh hgd;clear hgd HH;generalize w.drew=wl at hS HG ⊢;refine pM 0 ?_;simp only [zz];refine pM 1 ?_;simp only [zz];refine pM 2 ?_;simp only [zz];refine pM 3 ?_;simp only [zz];refine pM 6 ?_;simp only [zz];refine pM 7 ?_;simp only [zz];refine pM 8 ?_;simp only [zz];refine pM 9 ?_;simp only [zz];refine pM 12 ?_;simp only [zz];refine pM 13 ?_;simp only [zz];refine pM 14 ?_;simp only [zz];refine pM 15 ?_;simp only [zz];refine pM 17 ?_;simp only [zz];refine pM 18 ?_;simp only [zz];refine pM 19 ?_;simp only [zz];refine pM 20 ?_;simp only [zz];refine pM 23 ?_;simp only [zz];refine pM 24 ?_;simp only [zz];refine pM 25 ?_;simp only [zz];refine pM 26 ?_;simp only [zz];refine pM 28 ?_;simp only [zz];refine pM 29 ?_;simp only [zz];refine pM 30 ?_;simp only [zz];refine pM 32 ?_;simp only [zz];refine pM 33 ?_;simp only [zz];refine pM 34 ?_;simp only [zz];refine tM 4 ?_;simp only [zz];refine pM 5 ?_;simp only [zz];refine tM 10 ?_;simp only [zz];refine pM 11 ?_;simp only [zz];refine tM 16 ?_;simp only [zz];refine tM 21 ?_;simp only [zz];refine pM 22 ?_;simp only [zz];refine tM 27 ?_;simp only [zz];refine tM 31 ?_;simp only [zz];refine tM 35 ?_;simp only [zz];refine rM 36 fun K hK=>?_;go_simp;refine (tlen_calls hS.tree).mono ?_;rintro e w2 ⟨rfl,rfl⟩;have hS2:(fun wr=>StoreAt wr I σ) wl:=hS;refine hK.out _ _ (.inl (fun _=>hS2)) ?_;replace hS:=hS2;clear hK K hS2;try simp only [zz]
 refine pM 37 ?_;simp only [zz];refine rM 38 fun K hK=>?_;go_simp;refine nmA1 ?_;intro w3 b3 hg;generalize wl.heap.size=gm at b3 ⊢;have hS2:(fun wr=>StoreAt wr I σ) w3:=hS.g hg;replace HG:=lh (g2 HG.out hg);have HB3:=lh b3;clear hg b3;refine hK.out _ _ (.inl (fun _=>hS2)) ?_;replace hS:=hS2;clear hK K hS2;try simp only [zz]
 refine rM 39 fun K hK=>?_;go_simp;have hb:Blk w3 gm ((headN σ hd).map (Value.int .u64)).toArray 27:=HB3.out;refine (put_calls (World.ownsRow_nil _ 0 _ _) (ints_blk hb) rfl (inU_all HN8.out) (by simp [headN]) (.inl rfl) (by simp)).mono ?_;rintro e w4 ⟨v,rfl,hv,hg⟩;have hv2:=ownsRow_base hv HG.out.size;have hS2:(fun wr=>StoreAt wr I σ) w4:=hS.g hg;replace HG:=lh (g2 HG.out hg);have HV:=lh hv2;clear hg hv hv2 hb;refine hK.out _ _ (.inl (fun _=>hS2)) ?_;replace hS:=hS2;clear hK K hS2;try simp only [zz]
 refine pM 40 ?_;simp only [zz];refine dM ?_ _;clear HB3;replace HV:=lh (show w4.ownsRow w.heap.size 5 1 v 64 (putF (headN σ hd)) from by simpa [headN] using HV.out);obtain ⟨gv,cv,rfl,hgv,hgl⟩:=HV.out.form (by omega);have HH:=lh hS;clear hS hgv hgl;have c3:=HH.out.s3;go_wp2_with fail
 refine (roots_calls HH.out.tree HW.out.tree (by omega) HSS.out).mono ?_;rintro e wl ⟨rv,ks',rfl,hks',hkn,hrv,hg⟩;obtain rfl:ks'=ks:=rising_eq hks'.1 HKS.out.1 (fun x=>⟨fun hx=>(HKS.out.2.2 x (hks'.2.1 x hx)).2 ((hks'.2.2 x (hks'.2.1 x hx)).1 hx),fun hx=>(hks'.2.2 x (HKS.out.2.1 x hx)).2 ((HKS.out.2.2 x (HKS.out.2.1 x hx)).1 hx)⟩);have hpos:0 < ks'.length:=by
  have hk:=HW.out.tree.first
  obtain ⟨x,hx⟩:=Option.isSome_iff_exists.1 hk;exact List.length_pos_of_mem ((HKS.out.2.2 _ (HW.out.tree.key _ _ hx)).2 hk)
 obtain ⟨gr,cr,rfl,hgr,hgrl⟩:=hrv.form hpos;replace HH:=lh (HH.out.g hg);replace HV:=lh (HV.out.kept hg (.inr (by simp [Value.ownBlock])));replace HG:=lh (g2 HG.out hg);have HRV:=lh hrv;clear hg hrv hks' c3 hgr hgrl;go_wp2_with fail
 obtain ⟨wB,hwB⟩ : ∃ wB,wB=wl:=⟨_,rfl⟩;have hall : ∀ wz,wB.grownBy wz none→StoreAt wz I σ∧wz.ownsRow w4.heap.size 27 1 (.slice (some ⟨gr,0,none⟩) ks'.length cr) ks'.length (ks'.map encU)∧w.grownBy wz none:=fun wz hz=>by
  rw [hwB] at hz;exact ⟨HH.out.g hz,HRV.out.kept hz (.inr (by simp [Value.ownBlock])),g2 HG.out hz⟩
 have hst : ∃ (j g c n:Nat),Value.int .i64 0=.int .i64 (j:Int)∧Value.slice (some ⟨gv,0,none⟩) 64 cv=.slice (some ⟨g,0,none⟩) n c∧j≤ks'.length∧n=64+24 * j∧wl.ownsRow w.heap.size 5 1 (.slice (some ⟨g,0,none⟩) n c) n (putF (headN σ hd)++blocksF σ.F (ks'.take j))∧wB.grownBy wl none:=
  ⟨0,gv,cv,64,rfl,rfl,by omega,rfl,by simpa [blocksF] using HV.out,by rw [hwB];exact gR _ none⟩
 have HALL:=lh hall;have HST:=lh hst;clear hall hst;clear HH HRV HG HV hwB
 go_loopw [60,5] (fun v60 v5 wr=>∃ (j g c n:Nat),v60=.int .i64 (j:Int)∧v5=.slice (some ⟨g,0,none⟩) n c∧j≤ks'.length∧n=64+24 * j∧wr.ownsRow w.heap.size 5 1 (.slice (some ⟨g,0,none⟩) n c) n (putF (headN σ hd)++blocksF σ.F (ks'.take j))∧wB.grownBy wr none) (fun v60 _ _=>ks'.length - (intOf v60).toNat)
 case atStart=>exact HST.out
 case round=>
  obtain ⟨j,g,c,n,rfl,rfl,hj,hnj,hv,hg⟩:=hrel;have HV:=lh hv;have HG:=lh hg;have HNJ:=lh hnj;clear hv hg hnj;by_cases hlt:j < ks'.length
  ·obtain ⟨r,hr⟩ : ∃ r,r=ks'.getD j 0:=⟨_,rfl⟩;have hrm:r∈ks':=by rw [hr,List.getD_eq_getElem?_getD,List.getElem?_eq_getElem hlt];exact List.getElem_mem hlt
   have hrU:=HKS.out.2.1 r hrm;have c0:wr.cell? ⟨gr,j,none⟩=some (.int .u64 r):=by
    have h1:=(HALL.out wr HG.out).2.1.cells (g:=gr) rfl j (encU r) (by rw [List.getElem?_map,List.getElem?_eq_getElem hlt,hr,List.getD_eq_getElem?_getD,List.getElem?_eq_getElem hlt];rfl);have e:(⟨gr,0,none⟩:Addr).add j=⟨gr,j,none⟩:=by unfold Addr.add;split <;> simp_all
    rw [e] at h1;exact h1
   have c3:=(HALL.out wr HG.out).1.s3;have hbl : ∀ x∈blockN σ.F r,inU x:=by
    obtain ⟨y,hy⟩:=Option.isSome_iff_exists.1 ((HKS.out.2.2 r hrU).1 hrm);have h1:=HPAR.out r y hy;have h2:=HW.out.tree.slot r y hy;intro x hx;simp only [blockN,getT,hy,Option.getD_some,List.mem_cons,List.not_mem_nil,or_false] at hx;rcases hx with rfl | rfl | rfl
    ·exact hrU
    ·exact h1
    ·unfold inU;omega
   have hsl:0≤(getT σ.F r).2.1∧(getT σ.F r).2.1≤1099511627776:=by
    obtain ⟨y,hy⟩:=Option.isSome_iff_exists.1 ((HKS.out.2.2 r hrU).1 hrm);have h2:=HW.out.tree.slot r y hy
    simpa [getT,hy] using h2
   have hwr:=(u64_of hsl.1 hsl.2).1;have HRJ:=lh hr;have HBL:=lh hbl;clear hr hbl;clear hrm hsl;go_wp2_with fail
   refine (tget_calls (HALL.out wr HG.out).1.tree hrU).mono ?_;rintro e w5 ⟨rfl,hg⟩;replace HV:=lh (HV.out.kept hg (.inr (by simp [Value.ownBlock])));replace HG:=lh (g2 HG.out hg);clear hg c0 c3;go_wp2_with fail
   refine nmK1 ?_;intro w6 b6 _ hg;generalize w5.heap.size=gm at b6 ⊢;replace HV:=lh (HV.out.kept hg (.inr (by simp [Value.ownBlock])));replace HG:=lh (g2 HG.out hg);have hb:Blk w6 gm ((blockN σ.F r).map (Value.int .u64)).toArray 27:=b6;have hnj:=HNJ.out;refine (put_calls HV.out (ints_blk hb) rfl (inU_all HBL.out) (by simp [blockN];omega) (.inr (by omega)) (one_app (putF_one _) (blocksF_one _ _))).mono ?_;rintro e w7 ⟨v,rfl,hv,hg⟩;have hv2:=ownsRow_base hv (HALL.out w6 HG.out).2.2.size;obtain ⟨g',c',rfl,_,_⟩:=hv2.form (by omega);replace HG:=lh (g2 HG.out hg);have HV2:=lh hv2;clear hg hv hv2 hb b6 HV hnj;go_wp2;have hnj:=HNJ.out;refine ⟨⟨j+1,g',c',n+8 * (blockN σ.F r).length,by simp,rfl,by omega,by simp [blockN];omega,?_,HG.out⟩,by simp [intOf];omega⟩;rw [blocksF_take _ _ hlt,← HRJ.out,← List.append_assoc];exact HV2.out
  ·obtain rfl:j=ks'.length:=by omega
   have hv2:=HV.out;rw [List.take_length] at hv2;replace HV:=lh hv2;clear hv2;have c4:=(HALL.out wr HG.out).1.s4;have hnj:=HNJ.out;have hkl:ks'.length≤1024:=by omega
   clear hnj;go_wp2_with fail
   refine nmK1 ?_;intro w6 b6 _ hg;generalize wr.heap.size=gm at b6 ⊢;replace HV:=lh (HV.out.kept hg (.inr (by simp [Value.ownBlock])));replace HG:=lh (g2 HG.out hg);have hb:Blk w6 gm ([(σ.bs.length:Int)].map (Value.int .u64)).toArray 27:=b6;have hnj:=HNJ.out;refine (put_calls HV.out (ints_blk hb) rfl (inU_all (by simpa using we2)) (by simp;omega) (.inr (by omega)) (one_app (putF_one _) (blocksF_one _ _))).mono ?_;rintro e w7 ⟨v,rfl,hv,hg⟩;have hv2:=ownsRow_base hv (HALL.out w6 HG.out).2.2.size;obtain ⟨g',c',rfl,_,_⟩:=hv2.form (by omega);replace HG:=lh (g2 HG.out hg);obtain ⟨P0,hP0⟩ : ∃ P0,P0=putF (headN σ hd)++blocksF σ.F ks'++putF [(σ.bs.length:Int)]:=⟨_,rfl⟩;obtain ⟨m0,hm0⟩ : ∃ m0,m0=n+8 * [(σ.bs.length:Int)].length:=⟨_,rfl⟩;rw [← hP0,← hm0] at hv2;rw [← hm0];have hP1 : ∀ u∈P0,u.oneCell'=true:=by rw [hP0];exact one_app (one_app (putF_one _) (blocksF_one _ _)) (putF_one _)
   have hm1:0 < m0:=by omega
   have hm2:m0≤100000:=by simp at hm0;omega
   have HV2:=lh hv2;have HP0:=lh hP0;have HP1:=lh hP1;have HM0:=lh hm0;clear hP0 hP1 hm0;clear hg hv hv2 hb b6 HV hnj c4;have c4:=(HALL.out w7 HG.out).1.s4;go_wp2_with fail
   clear c4;have hst : ∃ (i g c m:Nat),Value.int .i64 0=.int .i64 (i:Int)∧Value.slice (some ⟨g',0,none⟩) m0 c'=.slice (some ⟨g,0,none⟩) m c∧i≤σ.bs.length∧m=m0+32 * i∧w7.ownsRow w.heap.size 5 1 (.slice (some ⟨g,0,none⟩) m c) m (P0++votesF σ.V i)∧wB.grownBy w7 none:=
    ⟨0,g',c',m0,rfl,rfl,by omega,rfl,by simpa [votesF] using HV2.out,HG.out⟩
   have HST2:=lh hst;clear hst HV2 HG HST HNJ hj hlt
   go_loopw [97,5] (fun v97 v5 wr=>∃ (i g c m:Nat),v97=.int .i64 (i:Int)∧v5=.slice (some ⟨g,0,none⟩) m c∧i≤σ.bs.length∧m=m0+32 * i∧wr.ownsRow w.heap.size 5 1 (.slice (some ⟨g,0,none⟩) m c) m (P0++votesF σ.V i)∧wB.grownBy wr none) (fun v97 _ _=>σ.bs.length - (intOf v97).toNat)
   case atStart=>exact HST2.out
   case round=>
    obtain ⟨i,g,c,m,rfl,rfl,hi,hmi,hv,hg⟩:=hrel;have HV:=lh hv;have HG:=lh hg;have HMI:=lh hmi;clear hv hg hmi;by_cases hlt:i < σ.bs.length
    ·obtain ⟨x,hx⟩ : ∃ x,x=σ.V i:=⟨_,rfl⟩;have hc:=(HALL.out wr HG.out).1.votes.cells hlt;have hvr:=HW.out.vr i hlt;rw [← hx] at hc hvr;obtain ⟨c0,c1,c2,c3⟩:=hc;have hvn : ∀ y∈voteN x,inU y:=by
      intro y hy;simp only [voteN,List.mem_cons,List.not_mem_nil,or_false] at hy;rcases hy with rfl | rfl | rfl | rfl
      ·unfold b2i inU;split <;> omega
      ·unfold inU;omega
      ·exact hvr.1
      ·unfold b2i inU;split <;> omega
     have hwe:=(u64_of hvr.2.1 hvr.2.2).1;have HX:=lh hx;have HVN:=lh hvn;clear hx hvn;clear hvr;go_upto_region 12 with (fail)
     refine nmC1 ?_;intro W b0 hz hg;generalize wr.heap.size=q13 at b0 ⊢;clear hz c0 c1 c2 c3;replace HV:=lh (HV.out.kept hg (.inr (by simp [Value.ownBlock])));replace HG:=lh (g2 HG.out hg);have HB0:=lh b0;clear b0 hg;have TK:=lh fun w (hSw:(fun wr=>Blk wr q13 #[.bool x.h,.int .i64 x.e,.int .u64 x.r,.bool x.b] 147) w)=>hSw.c4;refine wp_region_late (fun wr=>Blk wr q13 #[.bool x.h,.int .i64 x.e,.int .u64 x.r,.bool x.b] 147) [] (by as_aux_lemma=>kernel_rfl) ?_;have hgd:=gdrew (gR W none);have hS:(fun wr=>Blk wr q13 #[.bool x.h,.int .i64 x.e,.int .u64 x.r,.bool x.b] 147) W.drew:=HB0.out.g hgd;replace HV:=lh (HV.out.kept hgd (.inr (by simp [Value.ownBlock])));replace HG:=lh (g2 HG.out hgd);clear hgd HB0;generalize W.drew=wl at hS HV HG ⊢;refine pM 0 ?_;simp only [zz];refine pM 1 ?_;simp only [zz];refine pM 4 ?_;simp only [zz];refine pM 7 ?_;simp only [zz];refine pM 9 ?_;simp only [zz];refine tM 2 ?_;simp only [zz];refine tM 5 ?_;simp only [zz];refine pM 6 ?_;simp only [zz];refine tM 8 ?_;simp only [zz];refine tM 10 ?_;simp only [zz];refine rM 3 fun K hK=>?_;go_simp;refine (flag_calls x.h _).mono ?_;rintro e w8 ⟨rfl,rfl⟩;have hS2:(fun wr=>Blk wr q13 #[.bool x.h,.int .i64 x.e,.int .u64 x.r,.bool x.b] 147) wl:=hS;refine hK.out _ _ (.inl (fun _=>hS2)) ?_;replace hS:=hS2;clear hK K hS2;try simp only [zz]
     refine rM 11 fun K hK=>?_;go_simp;refine (flag_calls x.b _).mono ?_;rintro e w8 ⟨rfl,rfl⟩;have hS2:(fun wr=>Blk wr q13 #[.bool x.h,.int .i64 x.e,.int .u64 x.r,.bool x.b] 147) wl:=hS;refine hK.out _ _ (.inl (fun _=>hS2)) ?_;replace hS:=hS2;clear hK K hS2;try simp only [zz]
     refine rM 12 fun K hK=>?_;go_simp;refine nmA1 ?_;intro w9 b9 hg;generalize wl.heap.size=gm at b9 ⊢;have hS2:(fun wr=>Blk wr q13 #[.bool x.h,.int .i64 x.e,.int .u64 x.r,.bool x.b] 147) w9:=Blk.g hS hg;replace HV:=lh (HV.out.kept hg (.inr (by simp [Value.ownBlock])));replace HG:=lh (g2 HG.out hg);have HB9:=lh b9;clear b9 hg;refine hK.out _ _ (.inl (fun _=>hS2)) ?_;replace hS:=hS2;clear hK K hS2;try simp only [zz]
     refine rM 13 fun K hK=>?_;go_simp;have hb:Blk w9 gm ((voteN x).map (Value.int .u64)).toArray 27:=HB9.out;have hmi:=HMI.out;refine (put_calls HV.out (ints_blk hb) rfl (inU_all HVN.out) (by simp [voteN];omega) (.inr (by omega)) (one_app HP1.out (votesF_one _ _))).mono ?_;rintro e w10 ⟨v,rfl,hv,hg⟩;have hv2:=ownsRow_base hv (HALL.out w9 HG.out).2.2.size;obtain ⟨g1,c1,rfl,_,_⟩:=hv2.form (by omega);have hS2:(fun wr=>Blk wr q13 #[.bool x.h,.int .i64 x.e,.int .u64 x.r,.bool x.b] 147) w10:=Blk.g hS hg;replace HG:=lh (g2 HG.out hg);have HV2:=lh hv2;clear hg hv hv2 hb HV hmi HB9;refine hK.out _ _ (.inl (fun _=>hS2)) ?_;replace hS:=hS2;clear hK K hS2;try simp only [zz]
     refine pM 14 ?_;simp only [zz];refine dM ?_ _;go_wp2;have hmi:=HMI.out;refine ⟨⟨i+1,g1,c1,m+8 * (voteN x).length,by simp,rfl,by omega,by simp [voteN];omega,?_,HG.out⟩,by simp [intOf];omega⟩;rw [votesF_succ,← HX.out,← List.append_assoc];exact HV2.out
    ·obtain rfl:i=σ.bs.length:=by omega
     go_wp2;go_ret;have hcf:canonF σ ks' hd=P0++votesF σ.V σ.bs.length:=by unfold canonF;rw [← HP0.out]
     have hlen:(canonF σ ks' hd).length=m:=by rw [hcf];have:=HV.out.1;simpa using this
     exact ⟨_,rfl,by rw [hlen,hcf];exact HV.out,(HALL.out wr HG.out).2.2⟩
end
theorem Raised.det {σ s1 s2:St} {cs c1 c2:List Cg} {je jr fe fr:Int} (h:Raised σ cs je jr fe fr s1 c1) (k:Raised σ cs je jr fe fr s2 c2):s1=s2∧c1=c2:=by
 unfold Raised at h k;split at h
 ·rename_i hc
  rw [if_pos hc] at k;obtain ⟨ks,h1,h2,h3⟩:=h;obtain ⟨js,k1,k2,k3⟩:=k;obtain rfl:=h1.eq k1;exact ⟨h2.trans k2.symm,h3.trans k3.symm⟩
 ·rename_i hc
  rw [if_neg hc] at k;exact ⟨h.1.trans k.1.symm,h.2.trans k.2.symm⟩
theorem PropOk.det {σ s1 s2:St} {cs c1 c2:List Cg} {r q s:Int} {vs:List Vt} {ps:List (Vt×Vt)} (h:PropOk σ cs r q s vs ps s1 c1) (k:PropOk σ cs r q s vs ps s2 c2):s1=s2∧c1=c2:=by
 obtain ⟨x,σe,cse,h1,_,h2,h3⟩:=h;obtain ⟨y,τe,dse,k1,_,k2,k3⟩:=k;obtain rfl:x=y:=Option.some.inj (h1.symm.trans k1);obtain ⟨rfl,rfl⟩:=h2.det k2;unfold PropEnd at h3 k3;split at h3
 ·rename_i hc
  rw [if_pos hc] at k3;exact h3.det k3
 ·rename_i hc
  rw [if_neg hc] at k3;exact ⟨h3.1.trans k3.1.symm,h3.2.trans k3.2.symm⟩
theorem Propd.det {σ s1 s2:St} {cs c1 c2:List Cg} {r q s E1 E2:Int} {vs:List Vt} {ps:List (Vt×Vt)} (h:Propd σ cs r q s vs ps E1 s1 c1) (k:Propd σ cs r q s vs ps E2 s2 c2):E1=E2∧s1=s2∧c1=c2:=by
 rcases h with ⟨h1,h⟩ | ⟨h1,h2,h⟩ | ⟨h1,h2,h3,h⟩ | ⟨h1,h2,h3,h4,h⟩ | ⟨h1,h2,h3,h4,h5,h⟩ <;>
  rcases k with ⟨k1,k⟩ | ⟨k1,k2,k⟩ | ⟨k1,k2,k3,k⟩ | ⟨k1,k2,k3,k4,k⟩ | ⟨k1,k2,k3,k4,k5,k⟩ <;>
  first
   | exact ⟨h.1.trans k.1.symm,h.2.1.trans k.2.1.symm,h.2.2.trans k.2.2.symm⟩
   | exact ⟨h5.trans k5.symm,h.det k⟩
   | (exfalso;first | omega | exact absurd k2 h2 | exact absurd h2 k2 | exact absurd k3 h3 | exact absurd h3 k3 | exact absurd k4 h4 | exact absurd h4 k4)
theorem Applied.det {σ s1 s2:St} {e:Ev} {E1 E2:Int} {c1 c2:List Cg} (h:Applied σ e E1 s1 c1) (k:Applied σ e E2 s2 c2):E1=E2∧s1=s2∧c1=c2:=by
 rcases h with ⟨h1,h⟩ | ⟨h1,h⟩ | ⟨h1,h⟩ | ⟨h1,h⟩ <;> rcases k with ⟨k1,k⟩ | ⟨k1,k⟩ | ⟨k1,k⟩ | ⟨k1,k⟩ <;>
  first
   | exact ⟨h.1.trans k.1.symm,h.2.1.trans k.2.1.symm,h.2.2.trans k.2.2.symm⟩
   | exact h.det k
   | (exfalso;omega)
def u8s (l:List UInt8):List Value:=l.map fun b=>.int .u8 (b.toNat:Int)
theorem u8s_of : ∀ (L:List Value),(∀ u∈L,∃ b:UInt8,u=.int .u8 (b.toNat:Int))→∃ l,L=u8s l
 | [],_=>⟨[],rfl⟩
 | u :: L,h=>by
  obtain ⟨b,rfl⟩:=h u (by simp);obtain ⟨l,rfl⟩:=u8s_of L (fun v hv=>h v (by simp [hv]));exact ⟨b :: l,rfl⟩
theorem byteF_u8 (x:Int) (i:Nat) : ∃ b:UInt8,byteF x i=.int .u8 (b.toNat:Int):=by
 unfold byteF;generalize x / 2 ^ (56 - 8 * i)=y;refine ⟨UInt8.ofNat (y % 256).toNat,?_⟩;have h1:0≤y % 256:=Int.emod_nonneg _ (by omega);have h2:y % 256 < 256:=Int.emod_lt_of_pos _ (by omega);rw [UInt8.toNat_ofNat']
 congr 1
 omega
theorem putF_u8 : ∀ (xs:List Int),∀ u∈putF xs,∃ b:UInt8,u=.int .u8 (b.toNat:Int)
 | [],u,h=>by cases h
 | x :: xs,u,h=>by
  rw [putF,List.mem_append] at h;rcases h with h | h
  ·unfold bytesF at h;obtain ⟨i,_,rfl⟩:=List.mem_map.1 h;exact byteF_u8 x i
  ·exact putF_u8 xs u h
theorem canon_u8 (σ:St) (ks:List Int) (hd:Int) : ∃ l,canonF σ ks hd=u8s l:=u8s_of _ (fun u h=>by
 unfold canonF at h;simp only [List.mem_append] at h;rcases h with ((h | h) | h) | h
 ·exact putF_u8 _ u h
 ·obtain ⟨r,_,hr⟩:=List.mem_flatMap.1 h;exact putF_u8 _ u hr
 ·exact putF_u8 _ u h
 ·obtain ⟨r,_,hr⟩:=List.mem_flatMap.1 h;exact putF_u8 _ u hr)
theorem u8s_inj : ∀ {a b:List UInt8},u8s a=u8s b→a=b
 | [],[],_=>rfl
 | [],_ :: _,h=>by simp [u8s] at h
 | _ :: _,[],h=>by simp [u8s] at h
 | x :: a,y :: b,h=>by
  simp only [u8s,List.map_cons,List.cons.injEq,Value.int.injEq,true_and] at h;obtain ⟨h1,h2⟩:=h;have h3:x.toNat=y.toNat:=by omega
  rw [UInt8.toNat_inj.1 h3,u8s_inj (a:=a) (b:=b) h2]
abbrev Ln:=Int×List UInt8
section
variable {X:EngD}
def Stp1 (X:EngD) (σ:St) (t:X.T) (e:Ev) (x:Ln) (σ':St) (t':X.T):Prop:=
 ∃ N cs ks r,Inv σ N∧X.Rel σ N t∧EvB e∧Applied σ e x.1 σ' cs∧X.Rel σ' (N+1) (X.next σ' cs t)∧Rising σ'.F ks∧X.HD σ' ks (X.next σ' cs t) r∧inU r∧u8s x.2=canonF σ' ks r∧X.Eqv σ' (X.next σ' cs t) t'∧X.Rel σ' (N+1) t'
def TrC (X:EngD):St→X.T→List Ev→List Ln→St→X.T→Prop
 | σ,t,[],ls,σ',t'=>ls=[]∧σ'=σ∧t'=t
 | σ,t,e :: es,ls,σ',t'=>∃ x ls' σ1 t1,ls=x :: ls'∧Stp1 X σ t e x σ1 t1∧TrC X σ1 t1 es ls' σ' t'
theorem TrC.snoc : ∀ {es:List Ev} {ls:List Ln} {σ σ1 σ2:St} {t t1 t2:X.T} {e:Ev} {x:Ln},TrC X σ t es ls σ1 t1→Stp1 X σ1 t1 e x σ2 t2→TrC X σ t (es++[e]) (ls++[x]) σ2 t2
 | [],_,_,_,_,_,_,_,_,x,⟨rfl,rfl,rfl⟩,hs=>⟨x,[],_,_,rfl,hs,rfl,rfl,rfl⟩
 | _ :: _,_,_,_,_,_,_,_,_,_,⟨y,ls',σ1,t1,h1,h2,h3⟩,hs=>⟨y,ls'++[_],σ1,t1,by rw [h1];rfl,h2,h3.snoc hs⟩
theorem TrC.len : ∀ {es:List Ev} {ls:List Ln} {σ σ':St} {t t':X.T},TrC X σ t es ls σ' t'→ls.length=es.length
 | [],_,_,_,_,_,⟨rfl,_,_⟩=>rfl
 | _ :: _,_,_,_,_,_,⟨_,ls',_,_,rfl,_,h3⟩=>by simp [h3.len]
theorem Stp1.det (L:EngL X) {σ s1 s2:St} {t t' t1 t2:X.T} {e:Ev} {x y:Ln} (h:Stp1 X σ t e x s1 t1) (k:Stp1 X σ t' e y s2 t2) (he:X.Eqv σ t t'):x=y∧s1=s2∧X.Eqv s1 t1 t2:=by
 obtain ⟨N,cs,ks,r,h1,h2,h3,h4,h5,h6,h7,h8,h9,h10,h11⟩:=h;obtain ⟨M,ds,js,r',k1,k2,k3,k4,k5,k6,k7,k8,k9,k10,k11⟩:=k;obtain ⟨e1,rfl,rfl⟩:=h4.det k4;obtain rfl:=h6.eq k6;have hq:=L.step he h2 k2 h1 h3 h4;have hr:=L.uniq hq h5 h7 k7;subst hr;exact ⟨Prod.ext e1 (u8s_inj (h9.trans k9.symm)),rfl,L.eqt (L.eqs h10) (L.eqt hq k10)⟩
theorem TrC.det (L:EngL X) : ∀ {es:List Ev} {ls ms:List Ln} {σ s1 s2:St} {t t' t1 t2:X.T},TrC X σ t es ls s1 t1→TrC X σ t' es ms s2 t2→X.Eqv σ t t'→ls=ms∧s1=s2∧X.Eqv s1 t1 t2
 | [],_,_,_,_,_,_,_,_,_,⟨rfl,rfl,rfl⟩,⟨rfl,rfl,rfl⟩,he=>⟨rfl,rfl,he⟩
 | _ :: _,_,_,_,_,_,_,_,_,_,⟨x,ls',σ1,t1,rfl,h2,h3⟩,⟨y,ms',τ1,u1,rfl,k2,k3⟩,he=>by
  obtain ⟨rfl,rfl,hq⟩:=h2.det L k2 he;obtain ⟨rfl,rfl,hq2⟩:=h3.det L k3 hq;exact ⟨rfl,rfl,hq2⟩
end
end Go.Proofs.YtndfpmboanohcaaGreatDoor
