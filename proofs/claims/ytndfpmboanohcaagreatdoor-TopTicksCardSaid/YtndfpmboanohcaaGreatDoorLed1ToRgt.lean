/- Contracts of package quorum's Enough, justify's Next, ledger's who and epoch's Ends. -/
import Derived.Test.YtndfpmboanohcaaGreatDoorNames
import Derived.Deep.DeepCutAuto
import Derived.Deep.CutBlock
namespace Go.Proofs.YtndfpmboanohcaaGreatDoor
set_option maxRecDepth 100000
open Go.RowKit Go.Maps SkipPure
theorem gnew {w W W':World} {z:Nat} (h:w.grownBy W none) (k:W.grownBy W' (some z)) (hz:w.heap.size≤z):w.grownBy W' none:=h.andThen k (fun j e=>Or.inl (by cases e;exact hz))
def enoughF (some all:Int):Bool:=decide (0 < all) && decide (2 * (all / 3)+(2 * (all % 3)+2) / 3≤some)
theorem enough_calls (some all:Int) (w:World) (h0:0≤all) (h1:all≤4294967296000000):Calls Tryz.prog 73 #[.int .u64 some,.int .u64 all] w fun e w'=>e=.returned (.bool (enoughF some all))∧w=w':=by
 have e1:IntKind.u64.wrap (all.tdiv 3)=all / 3:=by rw [Int.tdiv_eq_ediv_of_nonneg h0];simp [IntKind.wrap,IntKind.signed,IntKind.bits];omega
 have e2:IntKind.u64.wrap (all.tmod 3)=all % 3:=by rw [Int.tmod_eq_emod_of_nonneg h0];simp [IntKind.wrap,IntKind.signed,IntKind.bits];omega
 have e3:IntKind.u64.wrap (2 * (all / 3))=2 * (all / 3):=by simp [IntKind.wrap,IntKind.signed,IntKind.bits];omega
 have e4:IntKind.u64.wrap (2 * (all % 3))=2 * (all % 3):=by simp [IntKind.wrap,IntKind.signed,IntKind.bits];omega
 have e5:IntKind.u64.wrap (2 * (all % 3)+2)=2 * (all % 3)+2:=by simp [IntKind.wrap,IntKind.signed,IntKind.bits];omega
 have e6:IntKind.u64.wrap ((2 * (all % 3)+2).tdiv 3)=(2 * (all % 3)+2) / 3:=by rw [Int.tdiv_eq_ediv_of_nonneg (by omega)];simp [IntKind.wrap,IntKind.signed,IntKind.bits];omega
 have e7:IntKind.u64.wrap (2 * (all / 3)+(2 * (all % 3)+2) / 3)=2 * (all / 3)+(2 * (all % 3)+2) / 3:=by simp [IntKind.wrap,IntKind.signed,IntKind.bits];omega
 obtain ⟨B,hB⟩ : ∃ B,B=enoughF some all:=⟨_,rfl⟩;rw [← hB];unfold enoughF at hB;have HB:=lh hB;clear hB;by_cases hp:0 < all
 ·have t0:decide (0 < all)=true:=decide_eq_true hp;go_enter Tryz.func73,Tryz.ntmps73
  go_wp2;go_ret;exact ⟨by rw [HB.out,t0,Bool.true_and];rfl,rfl⟩
 ·have t0:decide (0 < all)=false:=decide_eq_false hp;go_enter Tryz.func73,Tryz.ntmps73
  go_wp2;go_ret;exact ⟨by rw [HB.out,t0,Bool.false_and];rfl,rfl⟩
structure Jst where
 b0:Bool
 b1:Bool
 b2:Bool
 b3:Bool
 pe:Int
 pr:Int
 ce:Int
 cr:Int
 fe:Int
 fr:Int
def jV (s:Jst):Value:=.agg #[.bool s.b0,.bool s.b1,.bool s.b2,.bool s.b3,.int .i64 s.pe,.int .u64 s.pr,.int .i64 s.ce,.int .u64 s.cr,.int .i64 s.fe,.int .u64 s.fr]
structure JBd (s:Jst):Prop where
 p0:0≤s.pe
 p1:s.pe≤1099511627776
 c0:0≤s.ce
 c1:s.ce≤1099511627776
 f0:0≤s.fe
 f1:s.fe≤1099511627776
 pr:inU s.pr
 cr:inU s.cr
 fr:inU s.fr
def ptV (e r:Int):Value:=.agg #[.int .i64 e,.int .u64 r]
def finF (B0 B1 B2 B3:Bool) (ep ce cr pe pr fe fr:Int):Int×Int:=
 if B0 && B1 && (ce+1 == ep) then (ce,cr) else if B0 && B1 && B2 && (ce+2 == ep) then (ce,cr)
  else if B1 && B2 && (pe+2 == ep) then (pe,pr) else if B1 && B2 && B3 && (pe+3 == ep) then (pe,pr) else (fe,fr)
def nextF (s:Jst) (ep:Int) (before now:Bool) (fe fr se sr:Int):Jst:=
 { b0:=now,b1:=before || s.b0,b2:=s.b1,b3:=s.b2,pe:=s.ce,pr:=s.cr,ce:=if now then se else if before then fe else s.ce,cr:=if now then sr else if before then fr else s.cr,
   fe:=(finF now (before || s.b0) s.b1 s.b2 ep s.ce s.cr s.pe s.pr s.fe s.fr).1,fr:=(finF now (before || s.b0) s.b1 s.b2 ep s.ce s.cr s.pe s.pr s.fe s.fr).2 }
set_option maxHeartbeats 4000000 in
theorem next_calls (s:Jst) (hs:JBd s) (ep:Int) (before now:Bool) (fe fr se sr:Int) (w:World) :
  Calls Tryz.prog 76 #[jV s,.int .i64 ep,.bool before,.bool now,ptV fe fr,ptV se sr] w fun e w'=>e=.returned (jV (nextF s ep before now fe fr se sr))∧w.grownBy w' none:=by
 obtain ⟨B0,B1,B2,B3,pe,pr,ce,cr,fe',fr'⟩:=s;obtain ⟨hp0,hp1,hc0,hc1,_,_,_,_,_⟩:=hs;simp only at hp0 hp1 hc0 hc1;obtain ⟨R,hR⟩ : ∃ R,R=jV (nextF ⟨B0,B1,B2,B3,pe,pr,ce,cr,fe',fr'⟩ ep before now fe fr se sr):=⟨_,rfl⟩;rw [← hR];have HR:=lh hR;clear hR;unfold jV ptV;go_enter Tryz.func76,Tryz.ntmps76
 go_wp2;refine nmC4 ?_;intro W b0 b1 b2 b3 hz hg;obtain ⟨q,hq⟩ : ∃ q,q=w.heap.size:=⟨_,rfl⟩;rw [← hq] at b0 b1 b2 b3 hz ⊢;obtain ⟨_,_,_,_,c4,c5,c6,c7,_,_⟩:=b0.c10;have HB0:=lh b0;have HB1:=lh b1;have HB2:=lh b2;have HB3:=lh b3;have HZ:=lh hz;have HG:=lh hg;have HQ:=lh hq;have n4:=World.new_ne W _ c4;clear b0 b1 b2 b3 hz hg hq
 go_cut [13,14] (fun s13 s14 wx=>∃ x y:Nat,s13=.pointer (some ⟨x,0,none⟩)∧s14=.pointer (some ⟨y,0,none⟩)∧Blk wx x #[.int .i64 ce,.int .u64 cr] 61∧Blk wx y #[.int .i64 pe,.int .u64 pr] 61∧q+4≤x∧q+4≤y∧W.grownBy wx none)
 case first=>
  go_region_held3 (fun w'=>w'.cell? ⟨q,4,none⟩=some (.int .i64 pe)∧w'.cell? ⟨q,5,none⟩=some (.int .u64 pr)∧w'.cell? ⟨q,6,none⟩=some (.int .i64 ce)∧w'.cell? ⟨q,7,none⟩=some (.int .u64 cr)) (go_keep) (fail)
  ·go_wp2_with fail
   go_meet
   obtain ⟨⟨k0,k1⟩,k2,k3⟩:=alloc2 W #[.int .i64 ce,.int .u64 cr] #[.int .i64 pe,.int .u64 pr] 61 61;have hz:=HZ.out;exact ⟨_,_,rfl,rfl,k0.drew,k1.drew,by omega,by omega,gdrew k3⟩
  ·go_wp2_with fail
   go_meet
   obtain ⟨⟨k0,k1⟩,k2,k3⟩:=alloc2 W #[.int .i64 pe,.int .u64 pr] #[.int .i64 ce,.int .u64 cr] 61 61;have hz:=HZ.out;exact ⟨_,_,rfl,rfl,k1.drew,k0.drew,by omega,by omega,gdrew k3⟩
 case rest=>
  obtain ⟨x,y,rfl,rfl,hx,hy,hxq,hyq,hgw⟩:=hcut;clear c4 c5 c6 c7 n4;have hzq:q+4≤wc.heap.size:=by have h1:=HZ.out;have h2:=hgw.size;omega
  have HX:=lh hx;have HY:=lh hy;clear hx hy;replace HB0:=lh (HB0.out.g hgw);replace HB1:=lh (HB1.out.g hgw);replace HB2:=lh (HB2.out.g hgw);replace HB3:=lh (HB3.out.g hgw);replace HG:=lh (g2 HG.out hgw);clear hgw;obtain ⟨c0,c1,c2,c3,c4,c5,c6,c7,c8,c9⟩:=HB0.out.c10;go_upto_region 3 with (fail)
  refine nmC1 ?_;intro W2 b2 hz2 hg2;have hxz:=HX.out.lt;have hyz:=HY.out.lt;obtain ⟨z,hq_z⟩ : ∃ q,q=wc.heap.size:=⟨_,rfl⟩;rw [← hq_z] at b2 hz2 hxz hyz hzq ⊢;have HQ_z:=lh hq_z;clear hq_z;clear c0 c1 c2 c3 c4 c5 c6 c7 c8 c9;have HO:=lh b2;have HZ2:=lh hz2;clear b2 hz2;replace HB0:=lh (HB0.out.g hg2);replace HB1:=lh (HB1.out.g hg2);replace HB2:=lh (HB2.out.g hg2);replace HB3:=lh (HB3.out.g hg2);replace HX:=lh (HX.out.g hg2);replace HY:=lh (HY.out.g hg2);replace HG:=lh (g2 HG.out hg2);have hgz:W2.grownBy W2 none:=gR _ _;have HGZ:=lh hgz;clear hgz;clear hg2;obtain ⟨c0,c1,c2,c3,c4,c5,c6,c7,c8,c9⟩:=HB0.out.c10;obtain ⟨o0,o1,o2,o3,o4,o5,o6,o7,o8,o9⟩:=HO.out.c10;obtain ⟨f0,f1,f2,f3,f4,f5,f6,f7,f8,f9⟩:=HO.out.f10;go_upto_region 4 with (fail)
  refine nsC4 HO.out ?_;intro W3 b3 hz3 hg3;simp only [List.setIfInBounds_toArray,List.set_cons_zero,List.set_cons_succ] at b3;replace HB0:=lh (HB0.out.kept hg3 (by simp;omega));replace HB1:=lh (HB1.out.kept hg3 (by simp;omega));replace HB2:=lh (HB2.out.kept hg3 (by simp;omega));replace HB3:=lh (HB3.out.kept hg3 (by simp;omega));replace HX:=lh (HX.out.kept hg3 (by simp;omega));replace HY:=lh (HY.out.kept hg3 (by simp;omega));have hwz:w.heap.size≤z:=by have:=HQ.out;omega
  have HG3:=lh (gnew HG.out hg3 hwz);clear HG hg3 hz3 c0 c1 c2 c3 c4 c5 c6 c7 c8 c9 o0 o1 o2 o3 o4 o5 o6 o7 o8 o9 f0 f1 f2 f3 f4 f5 f6 f7 f8 f9 HO HZ2 HGZ;have HO:=lh b3;clear b3;obtain ⟨o0,o1,o2,o3,o4,o5,o6,o7,o8,o9⟩:=HO.out.c10;obtain ⟨f0,f1,f2,f3,f4,f5,f6,f7,f8,f9⟩:=HO.out.f10;obtain ⟨d0,d1⟩:=HB1.out.c2;obtain ⟨e0,e1⟩:=HB2.out.c2;go_upto_if 39 with (fail)
  go_cut [2] (fun s2 wx=>s2=.bool before∧∃ (o1:Bool) (cu cv:Int),o1=(before || B0)∧cu=(if before then fe else ce)∧cv=(if before then fr else cr)∧Blk wx z #[.bool false,.bool o1,.bool B1,.bool B2,.int .i64 ce,.int .u64 cr,.int .i64 cu,.int .u64 cv,.int .i64 fe',.int .u64 fr'] 130∧W3.grownBy wx (some z))
  case first=>
   cases before
   ·go_wp2
    go_meet
    exact ⟨rfl,B0,ce,cr,by simp,rfl,rfl,HO.out,gR _ _⟩
   ·go_wp2
    go_meet
    obtain ⟨h1,_,h3⟩:=sto3 6 7 1 (.int .i64 fe) (.int .u64 fr) (.bool true) HO.out;simp only [List.setIfInBounds_toArray,List.set_cons_zero,List.set_cons_succ] at h1;exact ⟨rfl,true,fe,fr,by simp,rfl,rfl,h1,h3⟩
  case rest=>
   obtain ⟨rfl,p1,cu,cv,hp1e,hcu,hcv,hb,hg⟩:=hcut;replace HB0:=lh (HB0.out.kept hg (by simp;omega));replace HB1:=lh (HB1.out.kept hg (by simp;omega));replace HB2:=lh (HB2.out.kept hg (by simp;omega));replace HB3:=lh (HB3.out.kept hg (by simp;omega));replace HX:=lh (HX.out.kept hg (by simp;omega));replace HY:=lh (HY.out.kept hg (by simp;omega));replace HG3:=lh (gnew HG3.out hg hwz);clear hg HO o0 o1 o2 o3 o4 o5 o6 o7 o8 o9 f0 f1 f2 f3 f4 f5 f6 f7 f8 f9 d0 d1 e0 e1;have HO:=lh hb;have HP1:=lh hp1e;have HCU:=lh hcu;have HCV:=lh hcv;clear hb hp1e hcu hcv;obtain ⟨o0,o1,o2,o3,o4,o5,o6,o7,o8,o9⟩:=HO.out.c10;obtain ⟨f0,f1,f2,f3,f4,f5,f6,f7,f8,f9⟩:=HO.out.f10;obtain ⟨d0,d1⟩:=HB1.out.c2;obtain ⟨e0,e1⟩:=HB2.out.c2;go_upto_if 44 with (fail)
   go_cut [3] (fun s3 wx=>s3=.bool now∧∃ (du dv:Int),du=(if now then se else cu)∧dv=(if now then sr else cv)∧Blk wx z #[.bool now,.bool p1,.bool B1,.bool B2,.int .i64 ce,.int .u64 cr,.int .i64 du,.int .u64 dv,.int .i64 fe',.int .u64 fr'] 130∧wc.grownBy wx (some z))
   case first=>
    cases now
    ·go_wp2
     go_meet
     exact ⟨rfl,cu,cv,rfl,rfl,HO.out,gR _ _⟩
    ·go_wp2
     go_meet
     obtain ⟨h1,_,h3⟩:=sto3 6 7 0 (.int .i64 se) (.int .u64 sr) (.bool true) HO.out;simp only [List.setIfInBounds_toArray,List.set_cons_zero,List.set_cons_succ] at h1;exact ⟨rfl,se,sr,rfl,rfl,h1,h3⟩
   case rest=>
    obtain ⟨rfl,du,dv,hdu,hdv,hb,hg⟩:=hcut;replace HB0:=lh (HB0.out.kept hg (by simp;omega));replace HB1:=lh (HB1.out.kept hg (by simp;omega));replace HB2:=lh (HB2.out.kept hg (by simp;omega));replace HB3:=lh (HB3.out.kept hg (by simp;omega));replace HX:=lh (HX.out.kept hg (by simp;omega));replace HY:=lh (HY.out.kept hg (by simp;omega));replace HG3:=lh (gnew HG3.out hg hwz);clear hg HO o0 o1 o2 o3 o4 o5 o6 o7 o8 o9 f0 f1 f2 f3 f4 f5 f6 f7 f8 f9 d0 d1 e0 e1;have HO:=lh hb;have HDU:=lh hdu;have HDV:=lh hdv;clear hb hdu hdv;obtain ⟨o0,o1,o2,o3,o4,o5,o6,o7,o8,o9⟩:=HO.out.c10;go_upto_region 8 with (fail)
    go_cut [16] (fun s16 wx=>∃ t:Nat,s16=.pointer (some ⟨t,0,none⟩)∧Blk wx t #[.bool now,.bool p1,.bool B1,.bool B2] 128∧wc.heap.size≤t∧wc.grownBy wx none)
    case first=>
     go_wp2
     go_meet
     obtain ⟨h1,_,h3⟩:=alloc1 wc #[.bool now,.bool p1,.bool B1,.bool B2] 128;exact ⟨_,rfl,h1,Nat.le_refl _,h3⟩
    case rest=>
     obtain ⟨t,rfl,b5,hz5,hg5⟩:=hcut;have hzl:=HO.out.lt;replace HB3:=lh (HB3.out.g hg5);replace HO:=lh (HO.out.g hg5);replace HX:=lh (HX.out.g hg5);replace HY:=lh (HY.out.g hg5);replace HG3:=lh (g2 HG3.out hg5);clear hg5 o0 o1 o2 o3 o4 o5 o6 o7 o8 o9;have HT:=lh b5;clear b5;obtain ⟨d0,d1,d2,d3⟩:=HT.out.c4;obtain ⟨x0,x1⟩:=HX.out.c2;obtain ⟨y0,y1⟩:=HY.out.c2;obtain ⟨f0,f1,f2,f3,f4,f5,f6,f7,f8,f9⟩:=HO.out.f10;obtain ⟨o0,o1,o2,o3,o4,o5,o6,o7,o8,o9⟩:=HO.out.c10;have hne:q+1+1+1≠z:=by omega
     have hqr:w.heap.size≤q+1+1+1:=by have:=HQ.out;omega
     have HRR:=lh (show R=_ from HR.out);simp only [nextF] at HRR;rw [← HP1.out,← HCU.out,← HCV.out,← HDU.out,← HDV.out] at HRR;clear HR HP1 HCU HCV HDU HDV;go_upto_block 0 with (fail)
     go_cut [0,3] (fun _ _ wx=>∃ (xe xr:Int),finF now p1 B1 B2 ep ce cr pe pr fe' fr'=(xe,xr)∧Blk wx z #[.bool now,.bool p1,.bool B1,.bool B2,.int .i64 ce,.int .u64 cr,.int .i64 du,.int .u64 dv,.int .i64 xe,.int .u64 xr] 130∧wc.grownBy wx (some z))
     case first=>
      go_wp2;all_goals go_meet
      all_goals first
       | exact ⟨fe',fr',by simp [finF, *],HO.out,gR _ _⟩
       | (obtain ⟨h1,_,h3⟩:=sto2 8 9 (.int .i64 ce) (.int .u64 cr) HO.out
          simp only [List.setIfInBounds_toArray,List.set_cons_zero,List.set_cons_succ] at h1;exact ⟨ce,cr,by simp [finF, *],h1,h3⟩)
       | (obtain ⟨h1,_,h3⟩:=sto2 8 9 (.int .i64 pe) (.int .u64 pr) HO.out
          simp only [List.setIfInBounds_toArray,List.set_cons_zero,List.set_cons_succ] at h1;exact ⟨pe,pr,by simp [finF, *],h1,h3⟩)
     case rest=>
      obtain ⟨xe,xr,hfin,hb,hg⟩:=hcut;replace HB3:=lh (HB3.out.kept hg (by simp;omega));replace HG3:=lh (gnew HG3.out hg hwz);clear hg HO o0 o1 o2 o3 o4 o5 o6 o7 o8 o9 f0 f1 f2 f3 f4 f5 f6 f7 f8 f9 d0 d1 d2 d3 x0 x1 y0 y1;rw [hfin] at HRR;clear hfin;have HO:=lh hb;clear hb;obtain ⟨o0,o1,o2,o3,o4,o5,o6,o7,o8,o9⟩:=HO.out.c10;obtain ⟨r0,r1,r2,r3,r4,r5,r6,r7,r8,r9⟩:=HB3.out.c10;obtain ⟨g0,g1,g2',g3,g4,g5,g6,g7,g8,g9⟩:=HB3.out.f10;go_wp2;obtain ⟨k1,_,k3⟩:=put10 (.bool now) (.bool p1) (.bool B1) (.bool B2) (.int .i64 ce) (.int .u64 cr) (.int .i64 du) (.int .u64 dv) (.int .i64 xe) (.int .u64 xr) HB3.out;have k4:=gnew HG3.out k3 hqr;refine bodyPost_ret (res76 rfl k1) rfl ⟨?_,k4⟩;rw [HRR.out];rfl
structure Vt where
 sl:Int
 hd:Int
 se:Int
 sr:Int
 te:Int
 tr:Int
 who:List Int
def vtV (v:Vt) (a:Option Addr) (c:Nat):Value:=.agg #[.int .i64 v.sl,.int .u64 v.hd,.int .i64 v.se,.int .u64 v.sr,.int .i64 v.te,.int .u64 v.tr,.slice a v.who.length c]
def wOk (N:Nat) (ks:List Int) (j:Nat):Bool:=decide (0≤ks.getD j 0) && decide (ks.getD j 0 < (N:Int)) && (decide (j=0) || decide (ks.getD (j - 1) 0 < ks.getD j 0))
def rightF (N:Nat) (S:Int) (v:Vt):Bool:=
 !(decide (v.who.length=0)) && decide (0≤v.sl) && decide (0≤v.se) && decide (v.se≤v.te) && (v.te == eOf v.sl S) && (List.range v.who.length).all (wOk N v.who)
theorem all_range_succ (p:Nat→Bool) (n:Nat):(List.range (n+1)).all p=((List.range n).all p && p n):=by
 rw [List.range_succ,List.all_append];simp
set_option maxHeartbeats 2000000 in
theorem right_calls {w:World} {a wa:Option Addr} {c c2:Nat} {S B:Int} {bs:List Int} {v:Vt} (hw:Ints .i64 w wa v.who) (hsl:v.sl≤9223372036854775807) (hS:S≤1000000) (hk:v.who.length≤1000000) :
  Calls Tryz.prog 56 #[cfgV a bs.length c S B,vtV v wa c2] w fun e w'=>e=.returned (.bool (rightF bs.length S v))∧w.grownBy w' none:=by
 obtain ⟨sl,hd,se,sr,te,tr,ks⟩:=v;simp only at hw hsl hk;unfold cfgV vtV rightF;simp only;obtain ⟨N,hNe⟩ : ∃ N,N=bs.length:=⟨_,rfl⟩;rw [← hNe];have HW:=lh hw;obtain ⟨E,hE⟩ : ∃ E,E=eOf sl S:=⟨_,rfl⟩;have hEc:=eof_calls sl S;rw [← hE] at hEc ⊢;have HEC:=lh fun w=>hEc w hsl hS;obtain ⟨R,hR⟩ : ∃ R,R=(!decide (ks.length=0) && decide (0≤sl) && decide (0≤se) && decide (se≤te) && (te == E) && (List.range ks.length).all (wOk N ks)):=⟨_,rfl⟩;rw [← hR];have HR:=lh hR;clear hE hEc hw hNe hR;go_enter Tryz.func56,Tryz.ntmps56
 go_upto_region 1 with (fail)
 refine nmC2 ?_;intro W b0 b1 hz hg;obtain ⟨q,hq_q⟩ : ∃ q,q=w.heap.size:=⟨_,rfl⟩;rw [← hq_q] at b0 b1 hz ⊢;have HQ_q:=lh hq_q;clear hq_q;have HB0:=lh b0;have HB1:=lh b1;have HG:=lh hg;clear b0 b1 hg;replace HW:=lh (HW.out.kept HG.out);have e0:W.cell? ⟨q+1,0,none⟩=some (.int .i64 sl):=HB1.out.at 0;have e2:W.cell? ⟨q+1,2,none⟩=some (.int .i64 se):=HB1.out.at 2;have e4:W.cell? ⟨q+1,4,none⟩=some (.int .i64 te):=HB1.out.at 4;have e6:W.cell? ⟨q+1,6,none⟩=some (.slice wa ks.length c2):=HB1.out.at 6;have d1:W.cell? ⟨q,1,none⟩=some (.int .i64 S):=HB0.out.at 1;by_cases h0:ks.length=0
 ·have g0:((ks.length:Int) == 0)=true:=by simp [h0]
  go_quiet (fail)
  go_wp2;go_ret;exact ⟨by rw [HR.out];simp [h0],g2 HG.out (drewN_grown W _)⟩
 have g0:((ks.length:Int) == 0)=false:=by rw [beq_eq_false_iff_ne];omega
 by_cases h1:sl < 0
 ·have H1:=lh h1;go_quiet (fail)
  go_wp2;go_ret;exact ⟨by have:=H1.out;rw [HR.out];simp [show ¬ 0≤sl by omega],g2 HG.out (drewN_grown W _)⟩
 have b1:=decide_eq_false h1;have H1:=lh h1;clear h1;by_cases h2:se < 0
 ·have H2:=lh h2;go_quiet (fail)
  go_wp2;go_ret;exact ⟨by have:=H2.out;rw [HR.out];simp [show ¬ 0≤se by omega],g2 HG.out (drewN_grown W _)⟩
 have b2:=decide_eq_false h2;have H2:=lh h2;clear h2;by_cases h3:te < se
 ·have H3:=lh h3;go_quiet (fail)
  go_wp2;go_ret;exact ⟨by have:=H3.out;rw [HR.out];simp [show ¬ se≤te by omega],g2 HG.out (drewN_grown W _)⟩
 have b3:=decide_eq_false h3;have H3:=lh h3;clear h3;by_cases h4:te=E
 ·subst h4;go_quiet (first | (go_at_call 47;refine Calls.quiet_of_same ((HEC.out _).mono fun _ _ ⟨k1,k2⟩=>⟨k1,k2.symm⟩)))
  go_wp2_with fail
  have c0:(W.drewN nq).cell? ⟨q,0,none⟩=some (.slice a N c):=HB0.out.at 0;have c6:(W.drewN nq).cell? ⟨q+1,6,none⟩=some (.slice wa ks.length c2):=e6;replace HW:=lh (HW.out.kept (drewN_grown W nq));replace HG:=lh (g2 HG.out (drewN_grown W nq));generalize W.drewN nq=W1 at c0 c6 HW HG ⊢;clear e0 e2 e4 e6 d1;have hse:R=(List.range ks.length).all (wOk N ks):=by
   have k1:=H1.out;have k2:=H2.out;have k3:=H3.out;rw [HR.out];simp [show 0≤sl by omega,show 0≤se by omega,show se≤te by omega,h0]
  replace HR:=lh hse;clear hse b1 b2 b3 g0 h0
  go_loop [45] (fun v45=>∃ j:Nat,v45=.int .i64 (j:Int)∧j≤ks.length∧Hid ((List.range j).all (wOk N ks)=true)) (fun v45=>ks.length - (intOf v45).toNat)
  case atStart=>exact ⟨0,rfl,by omega,lh (by simp)⟩
  case round=>
   obtain ⟨j,rfl,hj,HA⟩:=hrel;by_cases hlt:j < ks.length
   ·obtain ⟨ad,rfl,hc⟩:=HW.out j hlt;have hfail:wOk N ks j=false→R=false:=fun hf=>by
     rw [HR.out,List.all_eq_false];exact ⟨j,by simpa using hlt,by simp [hf]⟩
    have HF:=lh hfail;obtain ⟨k,hke⟩ : ∃ k,k=ks.getD j 0:=⟨_,rfl⟩;rw [← hke] at hc;have HK:=lh hke;clear hfail hke;by_cases h1:k < 0
    ·have HX:Hid (R=false):=lh (HF.out (by unfold wOk;rw [← HK.out];simp [show ¬ 0≤k by omega]));go_wp2_with fail
     go_ret;exact ⟨by rw [HX.out];rfl,HG.out⟩
    replace h1:0≤k:=by omega
    by_cases h2:(N:Int)≤k
    ·have HX:Hid (R=false):=lh (HF.out (by unfold wOk;rw [← HK.out];simp [show ¬ k < (N:Int) by omega]));go_wp2_with fail
     go_ret;exact ⟨by rw [HX.out];rfl,HG.out⟩
    replace h2:k < (N:Int):=by omega
    by_cases hj0:j=0
    ·have b0:(j:Int)≤0:=by omega
     have HX:Hid (wOk N ks j=true):=lh (by unfold wOk;rw [← HK.out];simp [hj0,h1,h2]);clear hj0;go_wp2_with fail
     go_round
     case rel=>exact ⟨j+1,by simp,by omega,lh (by rw [all_range_succ,HA.out,HX.out];rfl)⟩
     case measure=>simp [intOf];omega
    ·have b0:0 < (j:Int):=by omega
     obtain ⟨ad2,he,hc2⟩:=HW.out (j - 1) (by omega);cases he;obtain ⟨p,hpe⟩ : ∃ p,p=ks.getD (j - 1) 0:=⟨_,rfl⟩;rw [← hpe] at hc2;have HP:=lh hpe;clear hpe;by_cases h3:k≤p
     ·have HX:Hid (R=false):=lh (HF.out (by unfold wOk;rw [← HK.out,← HP.out];simp [hj0,show ¬ p < k by omega]));clear hj0;go_wp2_with fail
      go_ret;exact ⟨by rw [HX.out];rfl,HG.out⟩
     ·replace h3:p < k:=by omega
      have HX:Hid (wOk N ks j=true):=lh (by unfold wOk;rw [← HK.out,← HP.out];simp [h1,h2,h3]);clear hj0;go_wp2_with fail
      go_round
      case rel=>exact ⟨j+1,by simp,by omega,lh (by rw [all_range_succ,HA.out,HX.out];rfl)⟩
      case measure=>simp [intOf];omega
   ·have hje:j=ks.length:=by omega
    subst hje;go_wp2_with fail
    go_ret;exact ⟨by rw [HR.out,HA.out];rfl,HG.out⟩
 ·have g4:(te == E)=false:=by simp [h4]
  go_quiet (first | (go_at_call 47;refine Calls.quiet_of_same ((HEC.out _).mono fun _ _ ⟨k1,k2⟩=>⟨k1,k2.symm⟩)))
  go_wp2;go_ret;exact ⟨by rw [HR.out];simp [h4],g2 HG.out (drewN_grown W _)⟩
end Go.Proofs.YtndfpmboanohcaaGreatDoor
