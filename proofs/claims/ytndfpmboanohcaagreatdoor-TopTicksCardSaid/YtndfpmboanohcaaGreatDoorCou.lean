/- Contract of ledger.Count. -/
import Derived.Test.YtndfpmboanohcaaGreatDoorAttToSla
namespace Go.Proofs.YtndfpmboanohcaaGreatDoor
set_option maxRecDepth 100000
open Go.RowKit Go.Maps SkipPure
def setAll (xs:List Bool) (ks:List Int):List Bool:=ks.foldl (fun xs k=>xs.set k.toNat true) xs
theorem setAll_snoc (xs:List Bool) (ks:List Int) (k:Int):setAll xs (ks++[k])=(setAll xs ks).set k.toNat true:=by simp [setAll]
def srcF (x:Led) (u:Vt):Int×Int:=if u.te == x.ep then (x.j.ce,x.j.cr) else (x.j.pe,x.j.pr)
def cntOk (N:Nat) (S:Int) (F:Int→Option (Int×Int×Int)) (f root:Int) (x:Led) (u:Vt):Bool:=
 rightF N S u && (u.te == x.ep || u.te+1 == x.ep) && (u.se == (srcF x u).1 && u.sr == (srcF x u).2) && (u.te == max 0 u.te && u.tr == atT F f root (eStart u.te S))
def cntF (N:Nat) (S:Int) (F:Int→Option (Int×Int×Int)) (f root:Int) (x:Led) (u:Vt):Led:=
 if cntOk N S F f root x u then (if u.te == x.ep then { x with now:=setAll x.now u.who } else { x with bef:=setAll x.bef u.who }) else x
theorem ne_point (a b c d:Int) (w:World):(binOp .neq 61 (.agg #[.int .i64 a,.int .u64 b]) (.agg #[.int .i64 c,.int .u64 d])).run Tryz.prog w=.ok (.bool (!(a == c && b == d))) w:=by
 have h:=eq_point a b c d w;rw [run_eql_struct] at h;rw [run_neq_struct];cases hr:(Op.equalIn 10000 61 (.agg #[.int .i64 a,.int .u64 b]) (.agg #[.int .i64 c,.int .u64 d])).run Tryz.prog w with
 | ok z w2=>
  rw [hr] at h;simp only [Result.andThen] at h ⊢
  injection h with h1 h2
  injection h1 with h1
  rw [h1,h2]
 | halt z w2=>rw [hr] at h;simp [Result.andThen] at h
theorem res53 {tmps:Array Value} {W:World} {r:Nat} {b:Bool} {v0 v1 v2 v3 v4 v5 v6 v7 v8 v9 v10 v11 v12:Value} (ht:tmps[8]?.getD undef=.pointer (some ⟨r,0,none⟩)) (h9:tmps[9]?.getD undef=.bool b) (hb:Blk W r #[v0,v1,v2,v3,v4,v5,v6,v7,v8,v9,v10,v11,v12] 133) :
  (results Tryz.f53 tmps).run Tryz.prog W=.ok (.tuple #[.agg #[v0,v1,v2,v3,v4,v5,v6,v7,v8,v9,v10,v11,v12],.bool b]) W:=by
 obtain ⟨c0,c1,c2,c3,c4,c5,c6,c7,c8,c9,c10,c11,c12⟩:=hb.c13;have ha:(isAgg 133).run Tryz.prog W=.ok true W:=by kernel_rfl
 simp [results,Tryz.results53,go_sem,ht,h9,c0,c1,c2,c3,c4,c5,c6,c7,c8,c9,c10,c11,c12,ha]
def Lt (w:World) (i:Nat):Prop:=i < w.heap.size
theorem Lt.g {w w':World} {i:Nat} (h:Lt w i) (hg:w.grownBy w' none):Lt w' i:=Nat.lt_of_lt_of_le h hg.size
structure CouS (q qs:Nat) (a:Option Addr) (l c:Nat) (S B:Int) (x:Led) (ba na:Value) (u:Vt) (aw:Option Addr) (ac:Nat) (s1 s2:Int) (q1 q2 p tp tb n:Nat) (f:Int) (F:Int→Option (Int×Int×Int)) (root:Int) (w:World):Prop where
 b0:Blk w q #[.slice a l c,.int .i64 S,.int .i64 B] 36
 b1:Blk w (q+1) (LedC x ba na) 133
 b2:Blk w (q+1+1) #[.int .i64 u.sl,.int .u64 u.hd,.int .i64 u.se,.int .u64 u.sr,.int .i64 u.te,.int .u64 u.tr,.slice aw u.who.length ac] 64
 b3:Blk w qs #[.int .i64 s1,.int .u64 s2] 61
 ch:ChainAt w q1 q2 p tp tb n f F root
 who:Ints .i64 w aw u.who
theorem CouS.g {q qs:Nat} {a:Option Addr} {l c:Nat} {S B:Int} {x:Led} {ba na:Value} {u:Vt} {aw:Option Addr} {ac:Nat} {s1 s2:Int} {q1 q2 p tp tb n:Nat} {f:Int} {F:Int→Option (Int×Int×Int)} {root:Int} {w w':World}
  (h:CouS q qs a l c S B x ba na u aw ac s1 s2 q1 q2 p tp tb n f F root w) (hg:w.grownBy w' none):CouS q qs a l c S B x ba na u aw ac s1 s2 q1 q2 p tp tb n f F root w':=
 ⟨h.b0.g hg,h.b1.g hg,h.b2.g hg,h.b3.g hg,h.ch.g hg,h.who.g hg⟩
section
variable {w:World}
set_option maxHeartbeats 8000000 in
theorem count_calls {q1 q2 p tp tb n:Nat} {f:Int} {F:Int→Option (Int×Int×Int)} {root:Int} (h:ChainAt w q1 q2 p tp tb n f F root) (W:WellT f F) (hr:inU root)
  {a:Option Addr} {c N:Nat} {S B:Int} (hN1:1≤N) (hN2:N≤4096) (hS2:S≤64) {ok:Nat→Prop} {x:Led} {v:Value} (hx:LedAt w ok N x v) (hxb:LedBd x)
  {u:Vt} {aw:Option Addr} {ac:Nat} (hu:Ints .i64 w aw u.who) (hsl:u.sl≤1099511627776) (hul:u.who.length≤1000000) :
  Calls Tryz.prog 53 #[cfgV a N c S B,v,vtV u aw ac,chainV q1 q2] w fun e w'=>∃ v' b,e=.returned (.tuple #[v',.bool b])∧LedAt w' (fun i=>ok i∨w.heap.size≤i) N (cntF N S F f root x u) v'∧w.grownBy w' none:=by
 obtain ⟨X,hX⟩ : ∃ X,X=cntF N S F f root x u:=⟨_,rfl⟩;rw [← hX];obtain ⟨g0,cg,h0,ch,rfl,hB,hN,og,oh⟩:=hx;have hg0:=hB.lt (by omega);have hh0:=hN.lt (by omega);obtain ⟨i0,hi⟩:=elem_bool;unfold cntF at hX;obtain ⟨OK,hOK⟩ : ∃ OK,OK=cntOk N S F f root x u:=⟨_,rfl⟩;rw [← hOK] at hX;unfold cntOk at hOK;obtain ⟨⟨s1,s2⟩,hsrc⟩ : ∃ s,s=srcF x u:=⟨_,rfl⟩;rw [← hsrc] at hOK;unfold srcF at hsrc;have hte:rightF N S u=true→0≤u.te∧u.te≤1099511627776:=fun h=>by
  have h1:=rightF_te h;have h2:=eOf_nonneg u.sl S;have h3:=eOf_le u.sl S;omega
 obtain ⟨x0,x1,x2,x3,x4,x5,xs⟩:=u;obtain ⟨⟨jb0,jb1,jb2,jb3,jpe,jpr,jce,jcr,jfe,jfr⟩,ep,xb,xn⟩:=x;simp only at hu hul hsl hOK hsrc hX hte hB hN;have hep0:=hxb.e0;have hep1:=hxb.e1;simp only at hep0 hep1;obtain ⟨R1,hR1⟩ : ∃ R1,R1=rightF N S ⟨x0,x1,x2,x3,x4,x5,xs⟩:=⟨_,rfl⟩;obtain ⟨NW,hNW⟩ : ∃ NW,NW=(x4 == ep):=⟨_,rfl⟩;obtain ⟨PR,hPR⟩ : ∃ PR,PR=(x4+1 == ep):=⟨_,rfl⟩;obtain ⟨SM,hSM⟩ : ∃ SM,SM=(x2 == s1 && x3 == s2):=⟨_,rfl⟩;obtain ⟨A,hA⟩ : ∃ A,A=atT F f root (eStart x4 S):=⟨_,rfl⟩;obtain ⟨TM,hTM⟩ : ∃ TM,TM=(x4 == max 0 x4 && x5 == A):=⟨_,rfl⟩;rw [← hR1] at hOK hte;rw [← hNW] at hOK hsrc hX;rw [← hPR,← hSM,← hA,← hTM] at hOK;have hright:=fun (w:World) (hv:Ints .i64 w aw xs)=>right_calls (w:=w) (a:=a) (c:=c) (S:=S) (B:=B) (bs:=List.replicate N 0) (v:=⟨x0,x1,x2,x3,x4,x5,xs⟩) (c2:=ac) hv (by show x0≤_;omega) (by omega) hul;simp only [List.length_replicate] at hright;rw [← hR1] at hright;have hne:=ne_point;have hrw:=fun j (hj:j < xs.length) (h:R1=true)=>rightF_who (N:=N) (S:=S) (v:=⟨x0,x1,x2,x3,x4,x5,xs⟩) (by rw [← hR1];exact h) hj;simp only at hrw;unfold vtV cfgV ledV chainV;unfold vtV cfgV at hright;simp only at hright ⊢;have HX:=lh hX;have HOK:=lh hOK;have HSRC:=lh hsrc;have HTE:=lh hte;have HR1:=lh hR1;have HNW:=lh hNW;have HPR:=lh hPR;have HSM:=lh hSM;have HA:=lh hA;have HTM:=lh hTM;have HRI:=lh hright;have HRW:=lh hrw;have HWT:=lh W;have HU:=lh hu;have HB:=lh hB;have HN:=lh hN;have HCH:=lh h;have HI:=lh hi;have HOG:=lh og;have HOH:=lh oh;clear hX hOK hsrc hte hR1 hNW hPR hSM hA hTM hright hrw W hu hB hN h hi og oh;clear hxb;go_enter Tryz.func53,Tryz.ntmps53
 go_upto_region 1 with (fail)
 refine nmC4 ?_;intro W b0 b1 b2 b3 hz hg;obtain ⟨q,hq_q⟩ : ∃ q,q=w.heap.size:=⟨_,rfl⟩;rw [← hq_q] at b0 b1 b2 b3 hz hg0 hh0 ⊢;have HQ_q:=lh hq_q;clear hq_q;change Blk W (q+1) (LedC ⟨⟨jb0,jb1,jb2,jb3,jpe,jpr,jce,jcr,jfe,jfr⟩,ep,xb,xn⟩ (.slice (some ⟨g0,0,none⟩) N cg) (.slice (some ⟨h0,0,none⟩) N ch)) 133 at b1;have HB0:=lh b0;have HB1:=lh b1;have HB2:=lh b2;have HB3:=lh b3;have HG:=lh hg;have HZ:=lh hz;clear b0 b1 b2 b3 hg hz;replace HU:=lh (HU.out.g HG.out);replace HB:=lh (HB.out.g HG.out);replace HN:=lh (HN.out.g HG.out);replace HCH:=lh (HCH.out.g HG.out);have d4:W.cell? ⟨q+1+1,4,none⟩=some (.int .i64 x4):=HB2.out.at 4;have e10:W.cell? ⟨q+1,10,none⟩=some (.int .i64 ep):=HB1.out.at 10;have e4:W.cell? ⟨q+1,4,none⟩=some (.int .i64 jpe):=HB1.out.at 4;have e5:W.cell? ⟨q+1,5,none⟩=some (.int .u64 jpr):=HB1.out.at 5;have e6:W.cell? ⟨q+1,6,none⟩=some (.int .i64 jce):=HB1.out.at 6;have e7:W.cell? ⟨q+1,7,none⟩=some (.int .u64 jcr):=HB1.out.at 7;go_upto_region 3 with (fail)
 rw [← HNW.out];refine nmC1 ?_;intro W2 b4 hz4 hg4;have hqW:=HZ.out;obtain ⟨qs,hq_qs⟩ : ∃ q,q=W.heap.size:=⟨_,rfl⟩;rw [← hq_qs] at b4 hz4 hqW ⊢;have HQ_qs:=lh hq_qs;clear hq_qs;have HB4:=lh b4;have hq1:q+1+1+1 < qs:=by omega
 clear hqW hz4;clear d4 e10 e4 e5 e6 e7 b4;go_upto_if 25 with (fail)
 go_cut [] (fun wx=>Blk wx qs #[.int .i64 s1,.int .u64 s2] 61∧W.grownBy wx none)
 case first=>
  have e4:W2.cell? ⟨q+1,4,none⟩=some (.int .i64 jpe):=(HB1.out.g hg4).at 4;have e6:W2.cell? ⟨q+1,6,none⟩=some (.int .i64 jce):=(HB1.out.g hg4).at 6;have e7:W2.cell? ⟨q+1,7,none⟩=some (.int .u64 jcr):=(HB1.out.g hg4).at 7;have k0:W2.cell? ⟨qs,0,none⟩=some (.int .i64 jpe):=HB4.out.at 0;have k1:W2.cell? ⟨qs,1,none⟩=some (.int .u64 jpr):=HB4.out.at 1;have f0:W2.frozen? ⟨qs,0,none⟩=false:=HB4.out.fr 0;have f1:W2.frozen? ⟨qs,1,none⟩=false:=HB4.out.fr 1;cases NW
  ·have h1:=HSRC.out;simp only [Bool.false_eq_true,if_false,Prod.mk.injEq] at h1;obtain ⟨h1,h2⟩:=h1;subst h1 h2;go_wp2_with fail
   go_meet
   exact ⟨HB4.out,hg4⟩
  ·have h1:=HSRC.out;simp only [if_true,Prod.mk.injEq] at h1;obtain ⟨h1,h2⟩:=h1;subst h1 h2;go_wp2_with fail
   go_meet
   obtain ⟨t1,_,t3⟩:=sto2 0 1 (.int .i64 s1) (.int .u64 s2) HB4.out;simp only [List.setIfInBounds_toArray,List.set_cons_zero,List.set_cons_succ] at t1;exact ⟨t1,gnew hg4 t3 (Nat.le_of_eq HQ_qs.out.symm)⟩
 case rest=>
  obtain ⟨hb4,hgw⟩:=hcut;have HCS:Hid (CouS q qs a N c S B ⟨⟨jb0,jb1,jb2,jb3,jpe,jpr,jce,jcr,jfe,jfr⟩,ep,xb,xn⟩ (.slice (some ⟨g0,0,none⟩) N cg) (.slice (some ⟨h0,0,none⟩) N ch) ⟨x0,x1,x2,x3,x4,x5,xs⟩ aw ac s1 s2 q1 q2 p tp tb n f F root wc):=lh ⟨HB0.out.g hgw,HB1.out.g hgw,HB2.out.g hgw,hb4,HCH.out.g hgw,HU.out.g hgw⟩;replace HB3:=lh (HB3.out.g hgw);replace HB:=lh (HB.out.g hgw);replace HN:=lh (HN.out.g hgw);replace HG:=lh (g2 HG.out hgw);clear hgw hb4 HB0 HB1 HB2 HB4 HU HCH hg4;go_upto_region 5 with (fail)
  go_cut [62] (fun s62 wx=>s62=.bool (!OK)∧wc.grownBy wx none)
  case first=>
   have hne1:=fun w=>(ne_point x2 x3 s1 s2 w).trans (by rw [← HSM.out]);have hne2:=fun w=>(ne_point x4 x5 (max 0 x4) A w).trans (by rw [← HTM.out]);have HGG:=lh (gR wc none);clear hne;cases R1
   ·skip;have TK:=lh fun w (hSw:(CouS q qs a N c S B ⟨⟨jb0,jb1,jb2,jb3,jpe,jpr,jce,jcr,jfe,jfr⟩,ep,xb,xn⟩ (.slice (some ⟨g0,0,none⟩) N cg) (.slice (some ⟨h0,0,none⟩) N ch) ⟨x0,x1,x2,x3,x4,x5,xs⟩ aw ac s1 s2 q1 q2 p tp tb n f F root) w)=>And.intro (show w.cell? ⟨q,0,none⟩=some (.slice a N c) from hSw.b0.at 0) <| And.intro (show w.cell? ⟨q,1,none⟩=some (.int .i64 S) from hSw.b0.at 1) <| And.intro (show w.cell? ⟨q,2,none⟩=some (.int .i64 B) from hSw.b0.at 2) <| And.intro (show w.cell? ⟨q+1,10,none⟩=some (.int .i64 ep) from hSw.b1.at 10) <| And.intro (show w.cell? ⟨q+1+1,2,none⟩=some (.int .i64 x2) from hSw.b2.at 2) <| And.intro (show w.cell? ⟨q+1+1,3,none⟩=some (.int .u64 x3) from hSw.b2.at 3) <| And.intro (show w.cell? ⟨q+1+1,4,none⟩=some (.int .i64 x4) from hSw.b2.at 4) <| And.intro (show w.cell? ⟨q+1+1,5,none⟩=some (.int .u64 x5) from hSw.b2.at 5) <| And.intro (show w.cell? ⟨qs,0,none⟩=some (.int .i64 s1) from hSw.b3.at 0) <| show w.cell? ⟨qs,1,none⟩=some (.int .u64 s2) from hSw.b3.at 1
    refine wp_region_late (CouS q qs a N c S B ⟨⟨jb0,jb1,jb2,jb3,jpe,jpr,jce,jcr,jfe,jfr⟩,ep,xb,xn⟩ (.slice (some ⟨g0,0,none⟩) N cg) (.slice (some ⟨h0,0,none⟩) N ch) ⟨x0,x1,x2,x3,x4,x5,xs⟩ aw ac s1 s2 q1 q2 p tp tb n f F root) [] (by as_aux_lemma=>kernel_rfl) ?_;have hgd:=gdrew (gR wc none);have hS:=HCS.out.g hgd;replace HGG:=lh (g2 HGG.out hgd);clear hgd HCS;generalize wc.drew=wd at hS HGG ⊢;refine tM 0 ?_;simp only [zz];refine wM 1 ?_ ?_ hS ?_;rotate_left;· intro w hSw;(refine exec_load_all (ty:=64) (hSw.b2) ?_ _ Tryz.underlying64 rfl ?_ <;> first | exact ⟨_,rfl,rfl⟩ | (as_aux_lemma=>kernel_rfl))
    simp only [zz];refine rM 2 fun K hK=>?_;go_simp;refine (HRI.out _ hS.who).mono ?_;rintro e wl ⟨rfl,hg⟩;have hS2:=hS.g hg;replace HGG:=lh (g2 HGG.out hg);clear hg;refine hK.out _ _ (.inl (fun _=>hS2)) ?_;replace hS:=hS2;clear hK K hS2;try simp only [zz]
    refine pM 3 ?_;simp only [zz];refine pM 4 ?_;simp only [zz];refine uM 5 ?_;simp only [zz];refine uM 6 ?_;simp only [zz];refine uM 7 ?_;simp only [zz];refine uM 8 ?_;simp only [zz];refine uM 9 ?_;simp only [zz];refine uM 10 ?_;simp only [zz];refine uM 11 ?_;simp only [zz];refine uM 12 ?_;simp only [zz];refine uM 13 ?_;simp only [zz];refine uM 14 ?_;simp only [zz];refine uM 15 ?_;simp only [zz];refine pM 16 ?_;simp only [zz];refine pM 17 ?_;simp only [zz];refine uM 18 ?_;simp only [zz];refine uM 19 ?_;simp only [zz];refine uM 20 ?_;simp only [zz];refine uM 21 ?_;simp only [zz];refine pM 22 ?_;simp only [zz];refine pM 23 ?_;simp only [zz];refine uM 24 ?_;simp only [zz];refine uM 25 ?_;simp only [zz];refine uM 26 ?_;simp only [zz];refine uM 27 ?_;simp only [zz];refine uM 28 ?_;simp only [zz];refine uM 29 ?_;simp only [zz];refine uM 30 ?_;simp only [zz];refine uM 31 ?_;simp only [zz];refine uM 32 ?_;simp only [zz];refine pM 33 ?_;simp only [zz];refine dM ?_ _;go_wp2_with fail
    go_meet
    exact ⟨by rw [HOK.out];first | rfl | simp,HGG.out⟩
   ·have hte2:=HTE.out rfl;have hwx:IntKind.i64.wrap (x4+1)=x4+1:=IntWalk.i64_in _ (by omega);cases NW
    ·have hnw:(x4 == ep)=false:=HNW.out.symm;cases PR
     ·have hpr:(x4+1 == ep)=false:=HPR.out.symm;have hpn:(x4+1 != ep)=true:=by simp only [bne,hpr,Bool.not_false]
      have TK:=lh fun w (hSw:(CouS q qs a N c S B ⟨⟨jb0,jb1,jb2,jb3,jpe,jpr,jce,jcr,jfe,jfr⟩,ep,xb,xn⟩ (.slice (some ⟨g0,0,none⟩) N cg) (.slice (some ⟨h0,0,none⟩) N ch) ⟨x0,x1,x2,x3,x4,x5,xs⟩ aw ac s1 s2 q1 q2 p tp tb n f F root) w)=>And.intro (show w.cell? ⟨q,0,none⟩=some (.slice a N c) from hSw.b0.at 0) <| And.intro (show w.cell? ⟨q,1,none⟩=some (.int .i64 S) from hSw.b0.at 1) <| And.intro (show w.cell? ⟨q,2,none⟩=some (.int .i64 B) from hSw.b0.at 2) <| And.intro (show w.cell? ⟨q+1,10,none⟩=some (.int .i64 ep) from hSw.b1.at 10) <| And.intro (show w.cell? ⟨q+1+1,2,none⟩=some (.int .i64 x2) from hSw.b2.at 2) <| And.intro (show w.cell? ⟨q+1+1,3,none⟩=some (.int .u64 x3) from hSw.b2.at 3) <| And.intro (show w.cell? ⟨q+1+1,4,none⟩=some (.int .i64 x4) from hSw.b2.at 4) <| And.intro (show w.cell? ⟨q+1+1,5,none⟩=some (.int .u64 x5) from hSw.b2.at 5) <| And.intro (show w.cell? ⟨qs,0,none⟩=some (.int .i64 s1) from hSw.b3.at 0) <| show w.cell? ⟨qs,1,none⟩=some (.int .u64 s2) from hSw.b3.at 1
      refine wp_region_late (CouS q qs a N c S B ⟨⟨jb0,jb1,jb2,jb3,jpe,jpr,jce,jcr,jfe,jfr⟩,ep,xb,xn⟩ (.slice (some ⟨g0,0,none⟩) N cg) (.slice (some ⟨h0,0,none⟩) N ch) ⟨x0,x1,x2,x3,x4,x5,xs⟩ aw ac s1 s2 q1 q2 p tp tb n f F root) [] (by as_aux_lemma=>kernel_rfl) ?_;have hgd:=gdrew (gR wc none);have hS:=HCS.out.g hgd;replace HGG:=lh (g2 HGG.out hgd);clear hgd HCS;generalize wc.drew=wd at hS HGG ⊢;refine tM 0 ?_;simp only [zz];refine wM 1 ?_ ?_ hS ?_;rotate_left;· intro w hSw;(refine exec_load_all (ty:=64) (hSw.b2) ?_ _ Tryz.underlying64 rfl ?_ <;> first | exact ⟨_,rfl,rfl⟩ | (as_aux_lemma=>kernel_rfl))
      simp only [zz];refine rM 2 fun K hK=>?_;go_simp;refine (HRI.out _ hS.who).mono ?_;rintro e wl ⟨rfl,hg⟩;have hS2:=hS.g hg;replace HGG:=lh (g2 HGG.out hg);clear hg;refine hK.out _ _ (.inl (fun _=>hS2)) ?_;replace hS:=hS2;clear hK K hS2;try simp only [zz]
      refine pM 3 ?_;simp only [zz];refine pM 4 ?_;simp only [zz];refine pM 5 ?_;simp only [zz];refine pM 6 ?_;simp only [zz];refine pM 7 ?_;simp only [zz];refine pM 8 ?_;simp only [zz];refine pM 9 ?_;simp only [zz];refine pM 12 ?_;simp only [zz];refine tM 10 ?_;simp only [zz];refine pM 11 ?_;simp only [zz];refine tM 13 ?_;simp only [zz];refine pM 14 ?_;simp only [zz];refine pM 15 ?_;simp only [zz];refine pM 16 ?_;simp only [zz];refine pM 17 ?_;simp only [zz];refine uM 18 ?_;simp only [zz];refine uM 19 ?_;simp only [zz];refine uM 20 ?_;simp only [zz];refine uM 21 ?_;simp only [zz];refine pM 22 ?_;simp only [zz];refine pM 23 ?_;simp only [zz];refine uM 24 ?_;simp only [zz];refine uM 25 ?_;simp only [zz];refine uM 26 ?_;simp only [zz];refine uM 27 ?_;simp only [zz];refine uM 28 ?_;simp only [zz];refine uM 29 ?_;simp only [zz];refine uM 30 ?_;simp only [zz];refine uM 31 ?_;simp only [zz];refine uM 32 ?_;simp only [zz];refine pM 33 ?_;simp only [zz];refine dM ?_ _;go_wp2_with fail
      go_meet
      exact ⟨by rw [HOK.out];first | rfl | simp,HGG.out⟩
     ·have hpr:(x4+1 == ep)=true:=HPR.out.symm;have hpn:(x4+1 != ep)=false:=by simp only [bne,hpr,Bool.not_true]
      cases SM
      ·skip;have TK:=lh fun w (hSw:(CouS q qs a N c S B ⟨⟨jb0,jb1,jb2,jb3,jpe,jpr,jce,jcr,jfe,jfr⟩,ep,xb,xn⟩ (.slice (some ⟨g0,0,none⟩) N cg) (.slice (some ⟨h0,0,none⟩) N ch) ⟨x0,x1,x2,x3,x4,x5,xs⟩ aw ac s1 s2 q1 q2 p tp tb n f F root) w)=>And.intro (show w.cell? ⟨q,0,none⟩=some (.slice a N c) from hSw.b0.at 0) <| And.intro (show w.cell? ⟨q,1,none⟩=some (.int .i64 S) from hSw.b0.at 1) <| And.intro (show w.cell? ⟨q,2,none⟩=some (.int .i64 B) from hSw.b0.at 2) <| And.intro (show w.cell? ⟨q+1,10,none⟩=some (.int .i64 ep) from hSw.b1.at 10) <| And.intro (show w.cell? ⟨q+1+1,2,none⟩=some (.int .i64 x2) from hSw.b2.at 2) <| And.intro (show w.cell? ⟨q+1+1,3,none⟩=some (.int .u64 x3) from hSw.b2.at 3) <| And.intro (show w.cell? ⟨q+1+1,4,none⟩=some (.int .i64 x4) from hSw.b2.at 4) <| And.intro (show w.cell? ⟨q+1+1,5,none⟩=some (.int .u64 x5) from hSw.b2.at 5) <| And.intro (show w.cell? ⟨qs,0,none⟩=some (.int .i64 s1) from hSw.b3.at 0) <| show w.cell? ⟨qs,1,none⟩=some (.int .u64 s2) from hSw.b3.at 1
       refine wp_region_late (CouS q qs a N c S B ⟨⟨jb0,jb1,jb2,jb3,jpe,jpr,jce,jcr,jfe,jfr⟩,ep,xb,xn⟩ (.slice (some ⟨g0,0,none⟩) N cg) (.slice (some ⟨h0,0,none⟩) N ch) ⟨x0,x1,x2,x3,x4,x5,xs⟩ aw ac s1 s2 q1 q2 p tp tb n f F root) [] (by as_aux_lemma=>kernel_rfl) ?_;have hgd:=gdrew (gR wc none);have hS:=HCS.out.g hgd;replace HGG:=lh (g2 HGG.out hgd);clear hgd HCS;generalize wc.drew=wd at hS HGG ⊢;refine tM 0 ?_;simp only [zz];refine wM 1 ?_ ?_ hS ?_;rotate_left;· intro w hSw;(refine exec_load_all (ty:=64) (hSw.b2) ?_ _ Tryz.underlying64 rfl ?_ <;> first | exact ⟨_,rfl,rfl⟩ | (as_aux_lemma=>kernel_rfl))
       simp only [zz];refine rM 2 fun K hK=>?_;go_simp;refine (HRI.out _ hS.who).mono ?_;rintro e wl ⟨rfl,hg⟩;have hS2:=hS.g hg;replace HGG:=lh (g2 HGG.out hg);clear hg;refine hK.out _ _ (.inl (fun _=>hS2)) ?_;replace hS:=hS2;clear hK K hS2;try simp only [zz]
       refine pM 3 ?_;simp only [zz];refine pM 4 ?_;simp only [zz];refine pM 5 ?_;simp only [zz];refine pM 6 ?_;simp only [zz];refine pM 7 ?_;simp only [zz];refine pM 8 ?_;simp only [zz];refine pM 9 ?_;simp only [zz];refine pM 12 ?_;simp only [zz];refine tM 10 ?_;simp only [zz];refine pM 11 ?_;simp only [zz];refine tM 13 ?_;simp only [zz];refine pM 14 ?_;simp only [zz];refine pM 15 ?_;simp only [zz];refine pM 16 ?_;simp only [zz];refine pM 17 ?_;simp only [zz];refine pM 18 ?_;simp only [zz];refine tM 19 ?_;simp only [zz];refine tM 20 ?_;simp only [zz];refine pM 21 ?_;simp only [zz];refine pM 22 ?_;simp only [zz];refine pM 23 ?_;simp only [zz];refine uM 24 ?_;simp only [zz];refine uM 25 ?_;simp only [zz];refine uM 26 ?_;simp only [zz];refine uM 27 ?_;simp only [zz];refine uM 28 ?_;simp only [zz];refine uM 29 ?_;simp only [zz];refine uM 30 ?_;simp only [zz];refine uM 31 ?_;simp only [zz];refine uM 32 ?_;simp only [zz];refine pM 33 ?_;simp only [zz];refine dM ?_ _;go_wp2_with fail
       go_meet
       exact ⟨by rw [HOK.out];first | rfl | simp,HGG.out⟩
      ·skip;have TK:=lh fun w (hSw:(CouS q qs a N c S B ⟨⟨jb0,jb1,jb2,jb3,jpe,jpr,jce,jcr,jfe,jfr⟩,ep,xb,xn⟩ (.slice (some ⟨g0,0,none⟩) N cg) (.slice (some ⟨h0,0,none⟩) N ch) ⟨x0,x1,x2,x3,x4,x5,xs⟩ aw ac s1 s2 q1 q2 p tp tb n f F root) w)=>And.intro (show w.cell? ⟨q,0,none⟩=some (.slice a N c) from hSw.b0.at 0) <| And.intro (show w.cell? ⟨q,1,none⟩=some (.int .i64 S) from hSw.b0.at 1) <| And.intro (show w.cell? ⟨q,2,none⟩=some (.int .i64 B) from hSw.b0.at 2) <| And.intro (show w.cell? ⟨q+1,10,none⟩=some (.int .i64 ep) from hSw.b1.at 10) <| And.intro (show w.cell? ⟨q+1+1,2,none⟩=some (.int .i64 x2) from hSw.b2.at 2) <| And.intro (show w.cell? ⟨q+1+1,3,none⟩=some (.int .u64 x3) from hSw.b2.at 3) <| And.intro (show w.cell? ⟨q+1+1,4,none⟩=some (.int .i64 x4) from hSw.b2.at 4) <| And.intro (show w.cell? ⟨q+1+1,5,none⟩=some (.int .u64 x5) from hSw.b2.at 5) <| And.intro (show w.cell? ⟨qs,0,none⟩=some (.int .i64 s1) from hSw.b3.at 0) <| show w.cell? ⟨qs,1,none⟩=some (.int .u64 s2) from hSw.b3.at 1
       refine wp_region_late (CouS q qs a N c S B ⟨⟨jb0,jb1,jb2,jb3,jpe,jpr,jce,jcr,jfe,jfr⟩,ep,xb,xn⟩ (.slice (some ⟨g0,0,none⟩) N cg) (.slice (some ⟨h0,0,none⟩) N ch) ⟨x0,x1,x2,x3,x4,x5,xs⟩ aw ac s1 s2 q1 q2 p tp tb n f F root) [] (by as_aux_lemma=>kernel_rfl) ?_;have hgd:=gdrew (gR wc none);have hS:=HCS.out.g hgd;replace HGG:=lh (g2 HGG.out hgd);clear hgd HCS;generalize wc.drew=wd at hS HGG ⊢;refine tM 0 ?_;simp only [zz];refine wM 1 ?_ ?_ hS ?_;rotate_left;· intro w hSw;(refine exec_load_all (ty:=64) (hSw.b2) ?_ _ Tryz.underlying64 rfl ?_ <;> first | exact ⟨_,rfl,rfl⟩ | (as_aux_lemma=>kernel_rfl))
       simp only [zz];refine rM 2 fun K hK=>?_;go_simp;refine (HRI.out _ hS.who).mono ?_;rintro e wl ⟨rfl,hg⟩;have hS2:=hS.g hg;replace HGG:=lh (g2 HGG.out hg);clear hg;refine hK.out _ _ (.inl (fun _=>hS2)) ?_;replace hS:=hS2;clear hK K hS2;try simp only [zz]
       refine pM 3 ?_;simp only [zz];refine pM 4 ?_;simp only [zz];refine pM 5 ?_;simp only [zz];refine pM 6 ?_;simp only [zz];refine pM 7 ?_;simp only [zz];refine pM 8 ?_;simp only [zz];refine pM 9 ?_;simp only [zz];refine pM 12 ?_;simp only [zz];refine tM 10 ?_;simp only [zz];refine pM 11 ?_;simp only [zz];refine tM 13 ?_;simp only [zz];refine pM 14 ?_;simp only [zz];refine pM 15 ?_;simp only [zz];refine pM 16 ?_;simp only [zz];refine pM 17 ?_;simp only [zz];refine pM 18 ?_;simp only [zz];refine tM 19 ?_;simp only [zz];refine tM 20 ?_;simp only [zz];refine pM 21 ?_;simp only [zz];refine pM 22 ?_;simp only [zz];refine pM 23 ?_;simp only [zz];refine pM 24 ?_;simp only [zz];refine pM 27 ?_;simp only [zz];refine pM 28 ?_;simp only [zz];refine pM 30 ?_;simp only [zz];refine tM 25 ?_;simp only [zz];refine tM 26 ?_;simp only [zz];refine tM 29 ?_;simp only [zz];refine rM 31 fun K hK=>?_;go_simp;refine (point_calls hS.ch HWT.out hr a N c S B x4 (eStart_le (by omega) hS2)).mono ?_;rintro e wl ⟨rfl,hg⟩;unfold ptV;rw [← HA.out];have hS2:=hS.g hg;replace HGG:=lh (g2 HGG.out hg);clear hg;refine hK.out _ _ (.inl (fun _=>hS2)) ?_;replace hS:=hS2;clear hK K hS2;try simp only [zz]
       refine pM 32 ?_;simp only [zz];refine pM 33 ?_;simp only [zz];refine dM ?_ _;go_wp2_with fail
       go_meet
       exact ⟨by rw [HOK.out];first | rfl | simp,HGG.out⟩
    ·cases SM
     ·skip;have TK:=lh fun w (hSw:(CouS q qs a N c S B ⟨⟨jb0,jb1,jb2,jb3,jpe,jpr,jce,jcr,jfe,jfr⟩,ep,xb,xn⟩ (.slice (some ⟨g0,0,none⟩) N cg) (.slice (some ⟨h0,0,none⟩) N ch) ⟨x0,x1,x2,x3,x4,x5,xs⟩ aw ac s1 s2 q1 q2 p tp tb n f F root) w)=>And.intro (show w.cell? ⟨q,0,none⟩=some (.slice a N c) from hSw.b0.at 0) <| And.intro (show w.cell? ⟨q,1,none⟩=some (.int .i64 S) from hSw.b0.at 1) <| And.intro (show w.cell? ⟨q,2,none⟩=some (.int .i64 B) from hSw.b0.at 2) <| And.intro (show w.cell? ⟨q+1,10,none⟩=some (.int .i64 ep) from hSw.b1.at 10) <| And.intro (show w.cell? ⟨q+1+1,2,none⟩=some (.int .i64 x2) from hSw.b2.at 2) <| And.intro (show w.cell? ⟨q+1+1,3,none⟩=some (.int .u64 x3) from hSw.b2.at 3) <| And.intro (show w.cell? ⟨q+1+1,4,none⟩=some (.int .i64 x4) from hSw.b2.at 4) <| And.intro (show w.cell? ⟨q+1+1,5,none⟩=some (.int .u64 x5) from hSw.b2.at 5) <| And.intro (show w.cell? ⟨qs,0,none⟩=some (.int .i64 s1) from hSw.b3.at 0) <| show w.cell? ⟨qs,1,none⟩=some (.int .u64 s2) from hSw.b3.at 1
      refine wp_region_late (CouS q qs a N c S B ⟨⟨jb0,jb1,jb2,jb3,jpe,jpr,jce,jcr,jfe,jfr⟩,ep,xb,xn⟩ (.slice (some ⟨g0,0,none⟩) N cg) (.slice (some ⟨h0,0,none⟩) N ch) ⟨x0,x1,x2,x3,x4,x5,xs⟩ aw ac s1 s2 q1 q2 p tp tb n f F root) [] (by as_aux_lemma=>kernel_rfl) ?_;have hgd:=gdrew (gR wc none);have hS:=HCS.out.g hgd;replace HGG:=lh (g2 HGG.out hgd);clear hgd HCS;generalize wc.drew=wd at hS HGG ⊢;refine tM 0 ?_;simp only [zz];refine wM 1 ?_ ?_ hS ?_;rotate_left;· intro w hSw;(refine exec_load_all (ty:=64) (hSw.b2) ?_ _ Tryz.underlying64 rfl ?_ <;> first | exact ⟨_,rfl,rfl⟩ | (as_aux_lemma=>kernel_rfl))
      simp only [zz];refine rM 2 fun K hK=>?_;go_simp;refine (HRI.out _ hS.who).mono ?_;rintro e wl ⟨rfl,hg⟩;have hS2:=hS.g hg;replace HGG:=lh (g2 HGG.out hg);clear hg;refine hK.out _ _ (.inl (fun _=>hS2)) ?_;replace hS:=hS2;clear hK K hS2;try simp only [zz]
      refine pM 3 ?_;simp only [zz];refine pM 4 ?_;simp only [zz];refine pM 5 ?_;simp only [zz];refine pM 6 ?_;simp only [zz];refine pM 7 ?_;simp only [zz];refine uM 8 ?_;simp only [zz];refine uM 9 ?_;simp only [zz];refine uM 10 ?_;simp only [zz];refine uM 11 ?_;simp only [zz];refine uM 12 ?_;simp only [zz];refine uM 13 ?_;simp only [zz];refine uM 14 ?_;simp only [zz];refine pM 15 ?_;simp only [zz];refine pM 16 ?_;simp only [zz];refine pM 17 ?_;simp only [zz];refine pM 18 ?_;simp only [zz];refine tM 19 ?_;simp only [zz];refine tM 20 ?_;simp only [zz];refine pM 21 ?_;simp only [zz];refine pM 22 ?_;simp only [zz];refine pM 23 ?_;simp only [zz];refine uM 24 ?_;simp only [zz];refine uM 25 ?_;simp only [zz];refine uM 26 ?_;simp only [zz];refine uM 27 ?_;simp only [zz];refine uM 28 ?_;simp only [zz];refine uM 29 ?_;simp only [zz];refine uM 30 ?_;simp only [zz];refine uM 31 ?_;simp only [zz];refine uM 32 ?_;simp only [zz];refine pM 33 ?_;simp only [zz];refine dM ?_ _;go_wp2_with fail
      go_meet
      exact ⟨by rw [HOK.out];first | rfl | simp,HGG.out⟩
     ·skip;have TK:=lh fun w (hSw:(CouS q qs a N c S B ⟨⟨jb0,jb1,jb2,jb3,jpe,jpr,jce,jcr,jfe,jfr⟩,ep,xb,xn⟩ (.slice (some ⟨g0,0,none⟩) N cg) (.slice (some ⟨h0,0,none⟩) N ch) ⟨x0,x1,x2,x3,x4,x5,xs⟩ aw ac s1 s2 q1 q2 p tp tb n f F root) w)=>And.intro (show w.cell? ⟨q,0,none⟩=some (.slice a N c) from hSw.b0.at 0) <| And.intro (show w.cell? ⟨q,1,none⟩=some (.int .i64 S) from hSw.b0.at 1) <| And.intro (show w.cell? ⟨q,2,none⟩=some (.int .i64 B) from hSw.b0.at 2) <| And.intro (show w.cell? ⟨q+1,10,none⟩=some (.int .i64 ep) from hSw.b1.at 10) <| And.intro (show w.cell? ⟨q+1+1,2,none⟩=some (.int .i64 x2) from hSw.b2.at 2) <| And.intro (show w.cell? ⟨q+1+1,3,none⟩=some (.int .u64 x3) from hSw.b2.at 3) <| And.intro (show w.cell? ⟨q+1+1,4,none⟩=some (.int .i64 x4) from hSw.b2.at 4) <| And.intro (show w.cell? ⟨q+1+1,5,none⟩=some (.int .u64 x5) from hSw.b2.at 5) <| And.intro (show w.cell? ⟨qs,0,none⟩=some (.int .i64 s1) from hSw.b3.at 0) <| show w.cell? ⟨qs,1,none⟩=some (.int .u64 s2) from hSw.b3.at 1
      refine wp_region_late (CouS q qs a N c S B ⟨⟨jb0,jb1,jb2,jb3,jpe,jpr,jce,jcr,jfe,jfr⟩,ep,xb,xn⟩ (.slice (some ⟨g0,0,none⟩) N cg) (.slice (some ⟨h0,0,none⟩) N ch) ⟨x0,x1,x2,x3,x4,x5,xs⟩ aw ac s1 s2 q1 q2 p tp tb n f F root) [] (by as_aux_lemma=>kernel_rfl) ?_;have hgd:=gdrew (gR wc none);have hS:=HCS.out.g hgd;replace HGG:=lh (g2 HGG.out hgd);clear hgd HCS;generalize wc.drew=wd at hS HGG ⊢;refine tM 0 ?_;simp only [zz];refine wM 1 ?_ ?_ hS ?_;rotate_left;· intro w hSw;(refine exec_load_all (ty:=64) (hSw.b2) ?_ _ Tryz.underlying64 rfl ?_ <;> first | exact ⟨_,rfl,rfl⟩ | (as_aux_lemma=>kernel_rfl))
      simp only [zz];refine rM 2 fun K hK=>?_;go_simp;refine (HRI.out _ hS.who).mono ?_;rintro e wl ⟨rfl,hg⟩;have hS2:=hS.g hg;replace HGG:=lh (g2 HGG.out hg);clear hg;refine hK.out _ _ (.inl (fun _=>hS2)) ?_;replace hS:=hS2;clear hK K hS2;try simp only [zz]
      refine pM 3 ?_;simp only [zz];refine pM 4 ?_;simp only [zz];refine pM 5 ?_;simp only [zz];refine pM 6 ?_;simp only [zz];refine pM 7 ?_;simp only [zz];refine uM 8 ?_;simp only [zz];refine uM 9 ?_;simp only [zz];refine uM 10 ?_;simp only [zz];refine uM 11 ?_;simp only [zz];refine uM 12 ?_;simp only [zz];refine uM 13 ?_;simp only [zz];refine uM 14 ?_;simp only [zz];refine pM 15 ?_;simp only [zz];refine pM 16 ?_;simp only [zz];refine pM 17 ?_;simp only [zz];refine pM 18 ?_;simp only [zz];refine tM 19 ?_;simp only [zz];refine tM 20 ?_;simp only [zz];refine pM 21 ?_;simp only [zz];refine pM 22 ?_;simp only [zz];refine pM 23 ?_;simp only [zz];refine pM 24 ?_;simp only [zz];refine pM 27 ?_;simp only [zz];refine pM 28 ?_;simp only [zz];refine pM 30 ?_;simp only [zz];refine tM 25 ?_;simp only [zz];refine tM 26 ?_;simp only [zz];refine tM 29 ?_;simp only [zz];refine rM 31 fun K hK=>?_;go_simp;refine (point_calls hS.ch HWT.out hr a N c S B x4 (eStart_le (by omega) hS2)).mono ?_;rintro e wl ⟨rfl,hg⟩;unfold ptV;rw [← HA.out];have hS2:=hS.g hg;replace HGG:=lh (g2 HGG.out hg);clear hg;refine hK.out _ _ (.inl (fun _=>hS2)) ?_;replace hS:=hS2;clear hK K hS2;try simp only [zz]
      refine pM 32 ?_;simp only [zz];refine pM 33 ?_;simp only [zz];refine dM ?_ _;go_wp2_with fail
      go_meet
      exact ⟨by rw [HOK.out];first | rfl | simp,HGG.out⟩
  case rest=>
   obtain ⟨rfl,hgg⟩:=hcut;replace HCS:=lh (HCS.out.g hgg);replace HB3:=lh (HB3.out.g hgg);replace HB:=lh (HB.out.g hgg);replace HN:=lh (HN.out.g hgg);replace HG:=lh (g2 HG.out hgg);clear hgg hne;go_upto_if 62 with (fail)
   have hr1:OK=true→R1=true:=fun h=>by
    rw [HOK.out] at h;simp only [Bool.and_eq_true] at h;exact h.1.1.1
   cases OK
   case false=>
    have hb1:=HCS.out.b1;unfold LedC at hb1;simp only at hb1;obtain ⟨d0,d1,d2,d3,d4,d5,d6,d7,d8,d9,d10,d11,d12⟩:=hb1.c13;obtain ⟨e0,e1,e2,e3,e4,e5,e6,e7,e8,e9,e10,e11,e12⟩:=HB3.out.c13;obtain ⟨f0,f1,f2,f3,f4,f5,f6,f7,f8,f9,f10,f11,f12⟩:=HB3.out.f13;simp only [Bool.not_false];clear hb1 hr1;go_wp2;obtain ⟨t1,_,t3⟩:=put13 (.bool jb0) (.bool jb1) (.bool jb2) (.bool jb3) (.int .i64 jpe) (.int .u64 jpr) (.int .i64 jce) (.int .u64 jcr) (.int .i64 jfe) (.int .u64 jfr) (.int .i64 ep) (.slice (some ⟨g0,0,none⟩) N cg) (.slice (some ⟨h0,0,none⟩) N ch) HB3.out;have t4:=Chg.one (S:=fun i=>i=q+1+1+1) t3 rfl;have hX0:X=⟨⟨jb0,jb1,jb2,jb3,jpe,jpr,jce,jcr,jfe,jfr⟩,ep,xb,xn⟩:=by rw [HX.out];rfl
    refine bodyPost_ret (res53 rfl rfl t1) rfl ⟨_,_,rfl,⟨g0,cg,h0,ch,by rw [hX0];rfl,?_,?_,.inl HOG.out,.inl HOH.out⟩,gnew HG.out t3 (by have:=HQ_q.out;omega)⟩
    ·rw [hX0];exact HB.out.chg t4 (by omega)
    ·rw [hX0];exact HN.out.chg t4 (by omega)
   have hR:R1=true:=hr1 rfl;subst hR;simp only [Bool.not_true];clear hr1;go_upto_region 7 with (fail)
   obtain ⟨ZC,hZC⟩ : ∃ ZC,ZC=wc.heap.size:=⟨_,rfl⟩;have HZC:=lh hZC;clear hZC
   go_cut [12] (fun s12 wx=>∃ gm g5 c5 g9 c9,s12=.pointer (some ⟨gm,0,none⟩)∧Blk wx gm (LedC ⟨⟨jb0,jb1,jb2,jb3,jpe,jpr,jce,jcr,jfe,jfr⟩,ep,xb,xn⟩ (.slice (some ⟨g5,0,none⟩) N c5) (.slice (some ⟨g9,0,none⟩) N c9)) 133 ∧
     wx.ownsRow ZC 4 1 (.slice (some ⟨g5,0,none⟩) N c5) N (xb.map Value.bool)∧wx.ownsRow ZC 4 1 (.slice (some ⟨g9,0,none⟩) N c9) N (xn.map Value.bool)∧g5≠gm∧g9≠gm∧g5≠g9∧ZC≤gm∧wc.grownBy wx none)
   case first=>
    have hz:=HZC.out;subst hz;have TK:=lh fun w (hSw:(fun wr=>CouS q qs a N c S B ⟨⟨jb0,jb1,jb2,jb3,jpe,jpr,jce,jcr,jfe,jfr⟩,ep,xb,xn⟩ (.slice (some ⟨g0,0,none⟩) N cg) (.slice (some ⟨h0,0,none⟩) N ch) ⟨x0,x1,x2,x3,x4,x5,xs⟩ aw ac s1 s2 q1 q2 p tp tb n f F root wr∧BRow wr g0 N xb∧BRow wr h0 N xn∧Blk wr (q+1+1+1) #[.bool false,.bool false,.bool false,.bool false,.int .i64 0,.int .u64 0,.int .i64 0,.int .u64 0,.int .i64 0,.int .u64 0,.int .i64 0,.slice none 0 0,.slice none 0 0] 133) w)=>And.intro (show w.cell? ⟨q+1,10,none⟩=some (.int .i64 ep) from hSw.1.b1.at 10) <| And.intro (show w.cell? ⟨q+1,11,none⟩=some (.slice (some ⟨g0,0,none⟩) N cg) from hSw.1.b1.at 11) <| show w.cell? ⟨q+1,12,none⟩=some (.slice (some ⟨h0,0,none⟩) N ch) from hSw.1.b1.at 12
    refine wp_region_last (fun wr=>CouS q qs a N c S B ⟨⟨jb0,jb1,jb2,jb3,jpe,jpr,jce,jcr,jfe,jfr⟩,ep,xb,xn⟩ (.slice (some ⟨g0,0,none⟩) N cg) (.slice (some ⟨h0,0,none⟩) N ch) ⟨x0,x1,x2,x3,x4,x5,xs⟩ aw ac s1 s2 q1 q2 p tp tb n f F root wr∧BRow wr g0 N xb∧BRow wr h0 N xn∧Blk wr (q+1+1+1) #[.bool false,.bool false,.bool false,.bool false,.int .i64 0,.int .u64 0,.int .i64 0,.int .u64 0,.int .i64 0,.int .u64 0,.int .i64 0,.slice none 0 0,.slice none 0 0] 133) 12 (by as_aux_lemma=>kernel_rfl) (⟨HCS.out.g (gdrew (gR _ none)),HB.out.g (gdrew (gR _ none)),HN.out.g (gdrew (gR _ none)),HB3.out.g (gdrew (gR _ none))⟩) ?_;intro hS;have HGC:=lh (gdrew (gR wc none));clear HCS HB HN HB3;generalize wc.drew=wd at HGC hS ⊢;refine tL 0 ?_;simp only [zz];refine wL 1 ?_ ?_ hS ?_;rotate_left;· intro w hSw;(refine exec_load_blk (ty:=130) (off:=0) (hSw.1.b1) ?_ _ Tryz.underlying130 rfl (#[.bool jb0,.bool jb1,.bool jb2,.bool jb3,.int .i64 jpe,.int .u64 jpr,.int .i64 jce,.int .u64 jcr,.int .i64 jfe,.int .u64 jfr]) ?_ ?_ <;> first | exact ⟨_,rfl,rfl⟩ | rfl | (as_aux_lemma=>kernel_rfl))
    simp only [zz];refine tL 2 ?_;simp only [zz];refine tL 3 ?_;simp only [zz];refine tL 4 ?_;simp only [zz];refine tL 5 ?_;simp only [zz];refine tL 7 ?_;simp only [zz];refine tL 8 ?_;simp only [zz];refine aL [6,11] (cL 6 (fun K hK=>?_) (cL 11 (fun K hK=>?_) nL))
    ·skip;have hsz:=HGC.out.size;obtain ⟨hS0,hSb,hSn,hS3⟩:=id hS;refine wp_append_lies _ _ _ 131 (by rfl) wc.heap.size 4 i0 (.bool false) 1 1 Tryz.underlying131 HI.out.1 HI.out.2.1 HI.out.2.2.1 HI.out.2.2.2 rfl (by decide) (.slice none 0 0) 0 [] (by rfl) (World.ownsRow_nil _ _ _ _) ⟨g0,0,none⟩ N cg (xb.map Value.bool) (by rfl) (by simpa using hSb.1) (news_bools hSb) (bools_one _) (by omega) (by unfold maxLen;omega) (by omega) (by omega) _ rfl ?_;intro g5 c5 w5 h5 hg5 hat5 hlt5;have hgg:World.grownBy _ w5 none:=hg5;rw [Nat.zero_add,List.nil_append] at h5;have hge5:=hat5.resolve_left (by simp [Value.ownBlock]);first
      | (have hnm:g5≠gm:=by have h1:=HLM.out;unfold Lt at h1;omega
         have HN5M:=lh hnm;clear hnm)
      | skip
     have hS2:=And.intro (hS0.g hgg) (And.intro (hSb.g hgg) (And.intro (hSn.g hgg) (hS3.g hgg)));try (replace HMK:=lh (HMK.out.g hgg))
     try (replace HLM:=lh (HLM.out.g hgg))
     try (replace HGC:=lh (g2 HGC.out hgg))
     have HA5:=lh h5;have HL5:Hid (Lt w5 g5):=lh hlt5;clear hgg hg5 h5 hat5 hlt5 hge5 hsz hS0 hSb hSn hS3;refine hK.out _ _ (.inl hS2) ?_;replace hS:=hS2;clear hK K hS2;try simp only [zz]
     refine aL [9,11] (cL 9 (fun K hK=>?_) (cL 11 (fun K hK=>?_) nL))
     ·skip;have hsz:=HGC.out.size;obtain ⟨hS0,hSb,hSn,hS3⟩:=id hS;refine wp_append_lies _ _ _ 131 (by rfl) wc.heap.size 4 i0 (.bool false) 1 1 Tryz.underlying131 HI.out.1 HI.out.2.1 HI.out.2.2.1 HI.out.2.2.2 rfl (by decide) (.slice none 0 0) 0 [] (by rfl) (World.ownsRow_nil _ _ _ _) ⟨h0,0,none⟩ N ch (xn.map Value.bool) (by rfl) (by simpa using hSn.1) (news_bools hSn) (bools_one _) (by omega) (by unfold maxLen;omega) (by omega) (by omega) _ rfl ?_;intro g9 c9 w9 h9 hg9 hat9 hlt9;have hgg:World.grownBy _ w9 none:=hg9;rw [Nat.zero_add,List.nil_append] at h9;have hge9:=hat9.resolve_left (by simp [Value.ownBlock]);first
       | (have hnm:g9≠gm:=by have h1:=HLM.out;unfold Lt at h1;omega
          have HN9M:=lh hnm;clear hnm)
       | skip
      have HNN:=lh (show g5≠g9 from by have h1:=HL5.out;unfold Lt at h1;omega);replace HA5:=lh (ownsRow_g HA5.out hgg);replace HL5:=lh (HL5.out.g hgg);have hS2:=And.intro (hS0.g hgg) (And.intro (hSb.g hgg) (And.intro (hSn.g hgg) (hS3.g hgg)));try (replace HMK:=lh (HMK.out.g hgg))
      try (replace HLM:=lh (HLM.out.g hgg))
      try (replace HGC:=lh (g2 HGC.out hgg))
      have HA9:=lh h9;have HL9:Hid (Lt w9 g9):=lh hlt9;clear hgg hg9 h9 hat9 hlt9 hge9 hsz hS0 hSb hSn hS3;refine hK.out _ _ (.inl hS2) ?_;replace hS:=hS2;clear hK K hS2;try simp only [zz]
      refine tL 10 ?_;simp only [zz];refine rL 11 fun K hK=>?_;go_simp;refine nmA1 ?_;intro wm hmb hgg;have hlt:=hmb.lt;first
       | generalize hgm:w9.heap.size=gm at hmb hlt ⊢
       | generalize hgm:w5.heap.size=gm at hmb hlt ⊢
       | generalize hgm:wd.heap.size=gm at hmb hlt ⊢
      first
       | (have hnm:g5≠gm:=by have h1:=HL5.out;unfold Lt at h1;omega
          have HN5M:=lh hnm;clear hnm)
       | skip
      first
       | (have hnm:g9≠gm:=by have h1:=HL9.out;unfold Lt at h1;omega
          have HN9M:=lh hnm;clear hnm)
       | skip
      have hgw:wc.heap.size≤gm:=by rw [← hgm];exact HGC.out.size
      have HGW:=lh hgw;have hS2:=And.intro (hS.1.g hgg) (And.intro (hS.2.1.g hgg) (And.intro (hS.2.2.1.g hgg) (hS.2.2.2.g hgg)));have HMK:=lh hmb;have HLM:Hid (Lt wm gm):=lh hlt;first | replace HA5:=lh (ownsRow_g HA5.out hgg) | skip
      first | replace HA9:=lh (ownsRow_g HA9.out hgg) | skip
      try (replace HL5:=lh (HL5.out.g hgg))
      try (replace HL9:=lh (HL9.out.g hgg))
      try (replace HGC:=lh (g2 HGC.out hgg))
      clear hgg hmb hlt hgm hgw;refine hK.out _ _ (.inl hS2) ?_;replace hS:=hS2;clear hK K hS2;try simp only [zz]
      refine rL 12 fun K hK=>?_;refine step_store_blk HMK.out rfl (LedC ⟨⟨jb0,jb1,jb2,jb3,jpe,jpr,jce,jcr,jfe,jfr⟩,ep,xb,xn⟩ (.slice (some ⟨g5,0,none⟩) N c5) (.slice (some ⟨g9,0,none⟩) N c9)) ⟨_,_,rfl,rfl,rfl⟩ (by as_aux_lemma=>kernel_rfl) rfl (by simp [LedC,Value.oneCell']) ?_;intro w12 t1 t3;refine hK.out _ _ (.inr rfl) ?_;clear hK K;try simp only [zz]
      refine dL ?_ _;have hfin:=gnew HGC.out t3 HGW.out;have hr5:=HA5.out.kept t3 (.inr (by simpa [Value.ownBlock] using HN5M.out));have hr9:=HA9.out.kept t3 (.inr (by simpa [Value.ownBlock] using HN9M.out));have HFI:=lh (And.intro t1 (And.intro hr5 (And.intro hr9 hfin)));clear t1 t3 hfin hr5 hr9;go_wp2_with fail
      go_meet
      exact ⟨gm,g5,c5,g9,c9,rfl,HFI.out.1,HFI.out.2.1,HFI.out.2.2.1,HN5M.out,HN9M.out,HNN.out,HGW.out,HFI.out.2.2.2⟩
     ·skip;go_simp;refine nmA1 ?_;intro wm hmb hgg;have hlt:=hmb.lt;first
       | generalize hgm:w9.heap.size=gm at hmb hlt ⊢
       | generalize hgm:w5.heap.size=gm at hmb hlt ⊢
       | generalize hgm:wd.heap.size=gm at hmb hlt ⊢
      first
       | (have hnm:g5≠gm:=by have h1:=HL5.out;unfold Lt at h1;omega
          have HN5M:=lh hnm;clear hnm)
       | skip
      first
       | (have hnm:g9≠gm:=by have h1:=HL9.out;unfold Lt at h1;omega
          have HN9M:=lh hnm;clear hnm)
       | skip
      have hgw:wc.heap.size≤gm:=by rw [← hgm];exact HGC.out.size
      have HGW:=lh hgw;have hS2:=And.intro (hS.1.g hgg) (And.intro (hS.2.1.g hgg) (And.intro (hS.2.2.1.g hgg) (hS.2.2.2.g hgg)));have HMK:=lh hmb;have HLM:Hid (Lt wm gm):=lh hlt;first | replace HA5:=lh (ownsRow_g HA5.out hgg) | skip
      first | replace HA9:=lh (ownsRow_g HA9.out hgg) | skip
      try (replace HL5:=lh (HL5.out.g hgg))
      try (replace HL9:=lh (HL9.out.g hgg))
      try (replace HGC:=lh (g2 HGC.out hgg))
      clear hgg hmb hlt hgm hgw;refine hK.out _ _ (.inl hS2) ?_;replace hS:=hS2;clear hK K hS2;try simp only [zz]
      refine rL 9 fun K hK=>?_;have hsz:=HGC.out.size;obtain ⟨hS0,hSb,hSn,hS3⟩:=id hS;refine wp_append_lies _ _ _ 131 (by rfl) wc.heap.size 4 i0 (.bool false) 1 1 Tryz.underlying131 HI.out.1 HI.out.2.1 HI.out.2.2.1 HI.out.2.2.2 rfl (by decide) (.slice none 0 0) 0 [] (by rfl) (World.ownsRow_nil _ _ _ _) ⟨h0,0,none⟩ N ch (xn.map Value.bool) (by rfl) (by simpa using hSn.1) (news_bools hSn) (bools_one _) (by omega) (by unfold maxLen;omega) (by omega) (by omega) _ rfl ?_;intro g9 c9 w9 h9 hg9 hat9 hlt9;have hgg:World.grownBy _ w9 none:=hg9;rw [Nat.zero_add,List.nil_append] at h9;have hge9:=hat9.resolve_left (by simp [Value.ownBlock]);first
       | (have hnm:g9≠gm:=by have h1:=HLM.out;unfold Lt at h1;omega
          have HN9M:=lh hnm;clear hnm)
       | skip
      have HNN:=lh (show g5≠g9 from by have h1:=HL5.out;unfold Lt at h1;omega);replace HA5:=lh (ownsRow_g HA5.out hgg);replace HL5:=lh (HL5.out.g hgg);have hS2:=And.intro (hS0.g hgg) (And.intro (hSb.g hgg) (And.intro (hSn.g hgg) (hS3.g hgg)));try (replace HMK:=lh (HMK.out.g hgg))
      try (replace HLM:=lh (HLM.out.g hgg))
      try (replace HGC:=lh (g2 HGC.out hgg))
      have HA9:=lh h9;have HL9:Hid (Lt w9 g9):=lh hlt9;clear hgg hg9 h9 hat9 hlt9 hge9 hsz hS0 hSb hSn hS3;refine hK.out _ _ (.inl hS2) ?_;replace hS:=hS2;clear hK K hS2;try simp only [zz]
      refine tL 10 ?_;simp only [zz];refine rL 12 fun K hK=>?_;refine step_store_blk HMK.out rfl (LedC ⟨⟨jb0,jb1,jb2,jb3,jpe,jpr,jce,jcr,jfe,jfr⟩,ep,xb,xn⟩ (.slice (some ⟨g5,0,none⟩) N c5) (.slice (some ⟨g9,0,none⟩) N c9)) ⟨_,_,rfl,rfl,rfl⟩ (by as_aux_lemma=>kernel_rfl) rfl (by simp [LedC,Value.oneCell']) ?_;intro w12 t1 t3;refine hK.out _ _ (.inr rfl) ?_;clear hK K;try simp only [zz]
      refine dL ?_ _;have hfin:=gnew HGC.out t3 HGW.out;have hr5:=HA5.out.kept t3 (.inr (by simpa [Value.ownBlock] using HN5M.out));have hr9:=HA9.out.kept t3 (.inr (by simpa [Value.ownBlock] using HN9M.out));have HFI:=lh (And.intro t1 (And.intro hr5 (And.intro hr9 hfin)));clear t1 t3 hfin hr5 hr9;go_wp2_with fail
      go_meet
      exact ⟨gm,g5,c5,g9,c9,rfl,HFI.out.1,HFI.out.2.1,HFI.out.2.2.1,HN5M.out,HN9M.out,HNN.out,HGW.out,HFI.out.2.2.2⟩
    ·skip;go_simp;refine nmA1 ?_;intro wm hmb hgg;have hlt:=hmb.lt;first
      | generalize hgm:w9.heap.size=gm at hmb hlt ⊢
      | generalize hgm:w5.heap.size=gm at hmb hlt ⊢
      | generalize hgm:wd.heap.size=gm at hmb hlt ⊢
     first
      | (have hnm:g5≠gm:=by have h1:=HL5.out;unfold Lt at h1;omega
         have HN5M:=lh hnm;clear hnm)
      | skip
     first
      | (have hnm:g9≠gm:=by have h1:=HL9.out;unfold Lt at h1;omega
         have HN9M:=lh hnm;clear hnm)
      | skip
     have hgw:wc.heap.size≤gm:=by rw [← hgm];exact HGC.out.size
     have HGW:=lh hgw;have hS2:=And.intro (hS.1.g hgg) (And.intro (hS.2.1.g hgg) (And.intro (hS.2.2.1.g hgg) (hS.2.2.2.g hgg)));have HMK:=lh hmb;have HLM:Hid (Lt wm gm):=lh hlt;first | replace HA5:=lh (ownsRow_g HA5.out hgg) | skip
     first | replace HA9:=lh (ownsRow_g HA9.out hgg) | skip
     try (replace HL5:=lh (HL5.out.g hgg))
     try (replace HL9:=lh (HL9.out.g hgg))
     try (replace HGC:=lh (g2 HGC.out hgg))
     clear hgg hmb hlt hgm hgw;refine hK.out _ _ (.inl hS2) ?_;replace hS:=hS2;clear hK K hS2;try simp only [zz]
     refine rL 6 fun K hK=>?_;have hsz:=HGC.out.size;obtain ⟨hS0,hSb,hSn,hS3⟩:=id hS;refine wp_append_lies _ _ _ 131 (by rfl) wc.heap.size 4 i0 (.bool false) 1 1 Tryz.underlying131 HI.out.1 HI.out.2.1 HI.out.2.2.1 HI.out.2.2.2 rfl (by decide) (.slice none 0 0) 0 [] (by rfl) (World.ownsRow_nil _ _ _ _) ⟨g0,0,none⟩ N cg (xb.map Value.bool) (by rfl) (by simpa using hSb.1) (news_bools hSb) (bools_one _) (by omega) (by unfold maxLen;omega) (by omega) (by omega) _ rfl ?_;intro g5 c5 w5 h5 hg5 hat5 hlt5;have hgg:World.grownBy _ w5 none:=hg5;rw [Nat.zero_add,List.nil_append] at h5;have hge5:=hat5.resolve_left (by simp [Value.ownBlock]);first
      | (have hnm:g5≠gm:=by have h1:=HLM.out;unfold Lt at h1;omega
         have HN5M:=lh hnm;clear hnm)
      | skip
     have hS2:=And.intro (hS0.g hgg) (And.intro (hSb.g hgg) (And.intro (hSn.g hgg) (hS3.g hgg)));try (replace HMK:=lh (HMK.out.g hgg))
     try (replace HLM:=lh (HLM.out.g hgg))
     try (replace HGC:=lh (g2 HGC.out hgg))
     have HA5:=lh h5;have HL5:Hid (Lt w5 g5):=lh hlt5;clear hgg hg5 h5 hat5 hlt5 hge5 hsz hS0 hSb hSn hS3;refine hK.out _ _ (.inl hS2) ?_;replace hS:=hS2;clear hK K hS2;try simp only [zz]
     refine rL 9 fun K hK=>?_;have hsz:=HGC.out.size;obtain ⟨hS0,hSb,hSn,hS3⟩:=id hS;refine wp_append_lies _ _ _ 131 (by rfl) wc.heap.size 4 i0 (.bool false) 1 1 Tryz.underlying131 HI.out.1 HI.out.2.1 HI.out.2.2.1 HI.out.2.2.2 rfl (by decide) (.slice none 0 0) 0 [] (by rfl) (World.ownsRow_nil _ _ _ _) ⟨h0,0,none⟩ N ch (xn.map Value.bool) (by rfl) (by simpa using hSn.1) (news_bools hSn) (bools_one _) (by omega) (by unfold maxLen;omega) (by omega) (by omega) _ rfl ?_;intro g9 c9 w9 h9 hg9 hat9 hlt9;have hgg:World.grownBy _ w9 none:=hg9;rw [Nat.zero_add,List.nil_append] at h9;have hge9:=hat9.resolve_left (by simp [Value.ownBlock]);first
      | (have hnm:g9≠gm:=by have h1:=HLM.out;unfold Lt at h1;omega
         have HN9M:=lh hnm;clear hnm)
      | skip
     have HNN:=lh (show g5≠g9 from by have h1:=HL5.out;unfold Lt at h1;omega);replace HA5:=lh (ownsRow_g HA5.out hgg);replace HL5:=lh (HL5.out.g hgg);have hS2:=And.intro (hS0.g hgg) (And.intro (hSb.g hgg) (And.intro (hSn.g hgg) (hS3.g hgg)));try (replace HMK:=lh (HMK.out.g hgg))
     try (replace HLM:=lh (HLM.out.g hgg))
     try (replace HGC:=lh (g2 HGC.out hgg))
     have HA9:=lh h9;have HL9:Hid (Lt w9 g9):=lh hlt9;clear hgg hg9 h9 hat9 hlt9 hge9 hsz hS0 hSb hSn hS3;refine hK.out _ _ (.inl hS2) ?_;replace hS:=hS2;clear hK K hS2;try simp only [zz]
     refine tL 10 ?_;simp only [zz];refine rL 12 fun K hK=>?_;refine step_store_blk HMK.out rfl (LedC ⟨⟨jb0,jb1,jb2,jb3,jpe,jpr,jce,jcr,jfe,jfr⟩,ep,xb,xn⟩ (.slice (some ⟨g5,0,none⟩) N c5) (.slice (some ⟨g9,0,none⟩) N c9)) ⟨_,_,rfl,rfl,rfl⟩ (by as_aux_lemma=>kernel_rfl) rfl (by simp [LedC,Value.oneCell']) ?_;intro w12 t1 t3;refine hK.out _ _ (.inr rfl) ?_;clear hK K;try simp only [zz]
     refine dL ?_ _;have hfin:=gnew HGC.out t3 HGW.out;have hr5:=HA5.out.kept t3 (.inr (by simpa [Value.ownBlock] using HN5M.out));have hr9:=HA9.out.kept t3 (.inr (by simpa [Value.ownBlock] using HN9M.out));have HFI:=lh (And.intro t1 (And.intro hr5 (And.intro hr9 hfin)));clear t1 t3 hfin hr5 hr9;go_wp2_with fail
     go_meet
     exact ⟨gm,g5,c5,g9,c9,rfl,HFI.out.1,HFI.out.2.1,HFI.out.2.2.1,HN5M.out,HN9M.out,HNN.out,HGW.out,HFI.out.2.2.2⟩
   case rest=>
    obtain ⟨gm,g5,c5,g9,c9,rfl,hbm,ho5,ho9,hn5,hn9,hnn,hgm,hgc⟩:=hcut;have hq3:q+1+1+1 < ZC:=by rw [HZC.out];exact HB3.out.lt
    have hwc:w.heap.size≤ZC:=by rw [HZC.out];exact HG.out.size
    have hzc:ZC≤wc.heap.size:=by rw [HZC.out];exact hgc.size
    have hu:=HCS.out.who.g hgc;have hul : ∀ ad,aw=some ad→0 < xs.length→ad.block < ZC:=fun ad e h=>by
     have h1:=HCS.out.who;rw [e] at h1;rw [HZC.out];exact Ints.lt h1 h
    replace HB3:=lh (HB3.out.g hgc);replace HG:=lh (g2 HG.out hgc);have HD6:Hid (wc.cell? ⟨q+1+1,6,none⟩=some (.slice aw xs.length ac)):=lh ((HCS.out.b2.g hgc).at 6);clear hgc HCS HB HN;have HBM:=lh hbm;have HO5:=lh ho5;have HO9:=lh ho9;have HUW:=lh hu;have HUL:=lh hul;clear hbm ho5 ho9 hu hul;obtain ⟨gt,hgt⟩ : ∃ gt,gt=if NW then g9 else g5:=⟨_,rfl⟩;obtain ⟨ct,hct⟩ : ∃ ct,ct=if NW then c9 else c5:=⟨_,rfl⟩;obtain ⟨ys,hys⟩ : ∃ ys,ys=if NW then xn else xb:=⟨_,rfl⟩;have HGT:=lh hgt;have HCT:=lh hct;have HYS:=lh hys;clear hct hys;clear hgt;have hgtb:ZC≤gt:=by
     rw [HGT.out];split
     ·exact (HO9.out.lt g9 rfl).1
     ·exact (HO5.out.lt g5 rfl).1
    have hgtm:gt≠gm:=by
     rw [HGT.out];split
     ·exact hn9
     ·exact hn5
    have hot:wc.ownsRow ZC 4 1 (.slice (some ⟨gt,0,none⟩) N ct) N (ys.map Value.bool):=by
     rw [HGT.out,HCT.out,HYS.out];cases NW
     ·exact HO5.out
     ·exact HO9.out
    have HOT:=lh hot;clear hot;go_upto_region 8 with (fail)
    have m11:wc.cell? ⟨gm,11,none⟩=some (.slice (some ⟨g5,0,none⟩) N c5):=HBM.out.at 11;have m12:wc.cell? ⟨gm,12,none⟩=some (.slice (some ⟨g9,0,none⟩) N c9):=HBM.out.at 12;go_upto_if 77 with (fail)
    go_cut [13] (fun s13 wx=>s13=.slice (some ⟨gt,0,none⟩) N ct∧wc=wx)
    case first=>
     cases NW
     ·have h1:=HGT.out;have h2:=HCT.out;simp only [Bool.false_eq_true,if_false] at h1 h2;subst h1 h2;go_wp2_with fail
      go_meet
      exact ⟨rfl,rfl⟩
     ·have h1:=HGT.out;have h2:=HCT.out;simp only [if_true] at h1 h2;subst h1 h2;go_wp2_with fail
      go_meet
      exact ⟨rfl,rfl⟩
    case rest=>
     obtain ⟨rfl,rfl⟩:=hcut;clear m11 m12;go_upto_region 11 with (fail)
     have d6:wc.cell? ⟨q+1+1,6,none⟩=some (.slice aw xs.length ac):=HD6.out;go_wp2_with fail
     clear d6
     go_loopw [83] (fun v83 wr=>∃ (j:Nat),v83=.int .i64 (j:Int)∧j≤xs.length∧wr.ownsRow ZC 4 1 (.slice (some ⟨gt,0,none⟩) N ct) N ((setAll ys (xs.take j)).map Value.bool)∧Chg (fun i=>i=gt) wc wr) (fun v83 _=>xs.length - (intOf v83).toNat)
     case atStart=>exact ⟨0,rfl,by omega,HOT.out,Chg.refl _ _⟩
     case round=>
      obtain ⟨j,rfl,hj,ho,hc⟩:=hrel;have HO:=lh ho;have HC:=lh hc;clear ho hc;by_cases hlt:j < xs.length
      ·have hub:=HUL.out;obtain ⟨ad,hae,hce⟩:=(HUW.out.chg HC.out (fun ad e=>by have:=hub ad e (by omega);omega)) j hlt;subst hae;clear hub;have hk:=HRW.out j hlt trivial;have hnx:=setAll_snoc ys (xs.take j) (xs.getD j 0);rw [← take_succ' xs j hlt 0] at hnx;obtain ⟨k,hke⟩ : ∃ k,k=xs.getD j 0:=⟨_,rfl⟩;rw [← hke] at hk hnx hce;obtain ⟨i,hi⟩ : ∃ i:Nat,k=(i:Int):=⟨k.toNat,by omega⟩;rw [hi] at hk hnx hce;rw [Int.toNat_natCast] at hnx;obtain ⟨Z,hZ⟩ : ∃ Z,Z=setAll ys (xs.take j):=⟨_,rfl⟩;rw [← hZ] at HO hnx;have hZl:Z.length=N:=by have:=HO.out.1;simpa using this
       have hcl:wr.cell? ⟨gt,i,none⟩=some (.bool (Z.getD i false)):=by
        rw [HO.out.cellAt i (by omega)];simp [List.getD_eq_getElem?_getD,show i < Z.length by omega]
       have hfr:wr.frozen? ⟨gt,i,none⟩=false:=HO.out.frozenAt i;have hi2:i < N:=by omega
       have HNX:=lh hnx;clear hnx;clear hZ hke hi hZl;go_wp2_with fail
       obtain ⟨h1,h2⟩:=HO.out.stored i (.bool true);refine ⟨⟨j+1,by simp,by omega,?_,HC.out.trans (Chg.one h2 rfl)⟩,by simp [intOf];omega⟩;rw [HNX.out,List.map_set];exact h1
      ·have hje:j=xs.length:=by omega
       subst hje;rw [List.take_length] at HO;have hbm:=HC.out.blk HBM.out (Ne.symm hgtm);have hb3:=HC.out.blk HB3.out (by omega);have hg2:=(Chg.of (S:=fun i=>i=gt) HG.out).trans HC.out;have hX:=HX.out;simp only [if_true] at hX;unfold LedC at hbm;simp only at hbm;have h5:gt≠g5→BRow wr g5 N xb:=fun h=>(brow_own HO5.out).chg HC.out (fun e=>h e.symm);have h9:gt≠g9→BRow wr g9 N xn:=fun h=>(brow_own HO9.out).chg HC.out (fun e=>h e.symm);have hot:=brow_own HO.out;have hl5:=(HO5.out.lt g5 rfl).1;have hl9:=(HO9.out.lt g9 rfl).1;have HXX:=lh hX;have HH5:=lh h5;have HH9:=lh h9;have HOT2:=lh hot;have HCG:=lh hg2;have HBM2:=lh hbm;have HB32:=lh hb3;clear hX h5 h9 hot hg2 hbm hb3;clear HO5 HO9 HO HC HBM HB3 HG HOT;obtain ⟨d0,d1,d2,d3,d4,d5,d6,d7,d8,d9,d10,d11,d12⟩:=HBM2.out.c13;obtain ⟨e0,e1,e2,e3,e4,e5,e6,e7,e8,e9,e10,e11,e12⟩:=HB32.out.c13;obtain ⟨f0,f1,f2,f3,f4,f5,f6,f7,f8,f9,f10,f11,f12⟩:=HB32.out.f13;go_wp2;obtain ⟨t1,_,t3⟩:=put13 (.bool jb0) (.bool jb1) (.bool jb2) (.bool jb3) (.int .i64 jpe) (.int .u64 jpr) (.int .i64 jce) (.int .u64 jcr) (.int .i64 jfe) (.int .u64 jfr) (.int .i64 ep) (.slice (some ⟨g5,0,none⟩) N c5) (.slice (some ⟨g9,0,none⟩) N c9) HB32.out;have t4:=Chg.one (S:=fun i=>i=q+1+1+1) t3 rfl;have hgf:w.grownBy wr none:=HCG.out.non (fun i e=>by omega);refine bodyPost_ret (res53 rfl rfl t1) rfl ⟨_,_,rfl,⟨g5,c5,g9,c9,by rw [HXX.out];cases NW <;> rfl,?_,?_,.inr (by omega),.inr (by omega)⟩,gnew hgf t3 (by have:=HQ_q.out;omega)⟩
       ·rw [HXX.out];cases NW
        ·have e1:gt=g5:=HGT.out;have e2:ys=xb:=HYS.out;rw [e1,e2] at HOT2;exact HOT2.out.chg t4 (by omega)
        ·have e1:gt=g9:=HGT.out;exact (HH5.out (by rw [e1];exact fun e=>hnn e.symm)).chg t4 (by omega)
       ·rw [HXX.out];cases NW
        ·have e1:gt=g5:=HGT.out;exact (HH9.out (by rw [e1];exact hnn)).chg t4 (by omega)
        ·have e1:gt=g9:=HGT.out;have e2:ys=xn:=HYS.out;rw [e1,e2] at HOT2;exact HOT2.out.chg t4 (by omega)
end
end Go.Proofs.YtndfpmboanohcaaGreatDoor
