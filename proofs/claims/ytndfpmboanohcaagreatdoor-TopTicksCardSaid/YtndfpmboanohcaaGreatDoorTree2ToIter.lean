/- Contracts of package tree: Get, Len, First, At, Below. -/
import Derived.Test.YtndfpmboanohcaaGreatDoorLowToTree1
import Derived.Shelf.Small.Bits
import Derived.Shelf.AbstractIn
import Derived.RangeFuncSeq
import Derived.RangeFuncGives
import Derived.Sort.MapsRangeIn
import Derived.Sort.KeysCollected
import Derived.Maps.AppendAt
import Derived.OwnWalkIn
import Derived.TacticsInMore
import Derived.RegionIn
import Derived.LoopNIn
import Derived.LoopIn
import Derived.RangeFuncBox
import Derived.RangeFuncLeaves
import Derived.Shelf.Abstract
namespace Go.Proofs.YtndfpmboanohcaaGreatDoor
set_option maxRecDepth 100000
open Go.RowKit Go.Maps SkipPure
def Box3 (w:World) (q:Nat) (x y z:Value) (T:TypeId):Prop:=w.heap[q]? = some (.cells #[x,y,z] T (0,0))
section
variable {w w':World} {q:Nat} {x y z:Value} {T:TypeId}
theorem Box3.kept (h:Box3 w q x y z T) (hg:w.grownBy w' none):Box3 w' q x y z T:=by
 unfold Box3 at *;rw [hg.block q (Array.getElem?_eq_some_iff.1 h).1 (by simp)];exact h
theorem Box3.alloc (w:World) (x y z:Value) (T:TypeId):Box3 (w.alloc (.cells #[x,y,z] T)) w.heap.size x y z T:=by
 unfold Box3
 simpa using (MapKept.heap_alloc w (.cells #[x,y,z] T)).1
theorem Box3.c0 (h:Box3 w q x y z T):w.cell? ⟨q,0,none⟩=some x:=cel h 0
theorem Box3.c1 (h:Box3 w q x y z T):w.cell? ⟨q,1,none⟩=some y:=cel h 1
theorem Box3.c2 (h:Box3 w q x y z T):w.cell? ⟨q,2,none⟩=some z:=cel h 2
end
section
variable {w:World} {p b n:Nat} {f:Int} {F:Int→Option (Int×Int×Int)}
structure WellT (f:Int) (F:Int→Option (Int×Int×Int)):Prop where
 first:(F f).isSome=true
 up : ∀ r x,F r=some x→r≠f→∃ y,F x.1=some y∧y.2.1 < x.2.1
 key : ∀ r x,F r=some x→inU r
 slot : ∀ r x,F r=some x→0≤x.2.1∧x.2.1≤1099511627776
 hgt : ∀ r x,F r=some x→0≤x.2.2∧x.2.2≤1000000
theorem TreeAt.c0 (h:TreeAt w p b n f F):w.cell? ⟨p,0,none⟩=some (.int .u64 f):=cel h.2.1 0
theorem TreeAt.c1 (h:TreeAt w p b n f F):w.cell? ⟨p,1,none⟩=some (.map (some b)):=cel h.2.1 1
theorem tlen_calls (h:TreeAt w p b n f F):Calls Tryz.prog 40 #[.pointer (some ⟨p,0,none⟩)] w fun e w'=>e=.returned (.int .i64 (n:Int))∧w=w':=by
 have c1:=h.c1;have hl:=h.2.2.len Tryz.underlying169 3;clear h;go_enter Tryz.func40,Tryz.ntmps40
 go_wp2;go_ret;exact ⟨rfl,rfl⟩
theorem tfirst_calls (h:TreeAt w p b n f F):Calls Tryz.prog 145 #[.pointer (some ⟨p,0,none⟩)] w fun e w'=>e=.returned (.int .u64 f)∧w=w':=by
 have c0:=h.c0;clear h;go_enter Tryz.func145,Tryz.ntmps145
 go_wp2;go_ret;exact ⟨rfl,rfl⟩
theorem results_tmp4 {fn:Func} {t u v x:Tmp} (h:fn.results=#[.tmp t,.tmp u,.tmp v,.tmp x]) (tmps:Array Value) (P:Program) (w:World) :
  (results fn tmps).run P w=Result.ok (.tuple #[tmps.getD t undef,tmps.getD u undef,tmps.getD v undef,tmps.getD x undef]) w:=by
 simp [results,h]
def getT (F:Int→Option (Int×Int×Int)) (r:Int):Int×Int×Int:=(F r).getD (0,0,0)
theorem tget_calls (h:TreeAt w p b n f F) {r:Int} (hr:inU r) :
  Calls Tryz.prog 33 #[.pointer (some ⟨p,0,none⟩),.int .u64 r] w fun e w'=>e=.returned (.tuple #[.int .u64 (getT F r).1,.int .i64 (getT F r).2.1,.int .i64 (getT F r).2.2,.bool (F r).isSome])∧w.grownBy w' none:=by
 have c1:=h.c1;have hl:=h.2.2.look_ok Tryz.underlying27 Tryz.underlying169 (zero62 w) hr;clear h;unfold tfun at hl;unfold getT;cases hF:F r with
 | none=>
  rw [hF] at hl;simp only [Option.map_none,Option.getD_none,Option.isSome_none] at hl ⊢;clear hF;go_enter Tryz.func33,Tryz.ntmps33
  go_wp2;have hx:=Box3.alloc w (.int .u64 0) (.int .i64 0) (.int .i64 0) 168;have hgb:=World.grownBy_alloc w (Obj.cells #[.int .u64 0,.int .i64 0,.int .i64 0] 168) none;obtain ⟨q,hq⟩ : ∃ q,q=w.heap.size:=⟨_,rfl⟩;rw [← hq] at hx ⊢;clear hq;generalize w.alloc (Obj.cells #[.int .u64 0,.int .i64 0,.int .i64 0] 168)=wb at hx hgb ⊢;have d0:=hx.c0;have d1:=hx.c1;have d2:=hx.c2;have HG:=lh hgb;clear hx hgb;go_quiet (fail)
  go_wp2
  (try simp only [Exit.inBlock,Exit.then]);refine bodyPost_ret (results_tmp4 rfl _ _ _) rfl ?_
  exact ⟨rfl,g2 HG.out (drewN_grown _ _)⟩
 | some x=>
  obtain ⟨x0,x1,x2⟩:=x;rw [hF] at hl;simp only [Option.map_some,Option.getD_some,Option.isSome_some,tnode] at hl ⊢;clear hF;go_enter Tryz.func33,Tryz.ntmps33
  go_wp2;have hx:=Box3.alloc w (.int .u64 x0) (.int .i64 x1) (.int .i64 x2) 168;have hgb:=World.grownBy_alloc w (Obj.cells #[.int .u64 x0,.int .i64 x1,.int .i64 x2] 168) none;obtain ⟨q,hq⟩ : ∃ q,q=w.heap.size:=⟨_,rfl⟩;rw [← hq] at hx ⊢;clear hq;generalize w.alloc (Obj.cells #[.int .u64 x0,.int .i64 x1,.int .i64 x2] 168)=wb at hx hgb ⊢;have d0:=hx.c0;have d1:=hx.c1;have d2:=hx.c2;have HG:=lh hgb;clear hx hgb;go_quiet (fail)
  go_wp2
  (try simp only [Exit.inBlock,Exit.then]);refine bodyPost_ret (results_tmp4 rfl _ _ _) rfl ?_
  exact ⟨rfl,g2 HG.out (drewN_grown _ _)⟩
def upT (F:Int→Option (Int×Int×Int)) (f s:Int):Nat→Int→Int
 | 0,r=>r
 | k+1,r=>match F r with
  | none=>0
  | some x=>if r≠f∧s < x.2.1 then upT F f s k x.1 else r
def slotT (F:Int→Option (Int×Int×Int)) (r:Int):Nat:=((F r).getD (0,0,0)).2.1.toNat
def atT (F:Int→Option (Int×Int×Int)) (f r s:Int):Int:=upT F f s (slotT F r+1) r
theorem upT_fuel {f:Int} {F:Int→Option (Int×Int×Int)} (W:WellT f F) (s:Int) : ∀ (k j:Nat) (r:Int),slotT F r < k→slotT F r < j→upT F f s k r=upT F f s j r
 | 0,_,_,h,_=>by omega
 | _,0,_,_,h=>by omega
 | k+1,j+1,r,hk,hj=>by
  unfold upT;cases hF:F r with
  | none=>rfl
  | some x=>
   simp only;by_cases c:r≠f∧s < x.2.1
   ·rw [if_pos c,if_pos c];obtain ⟨y,hy,hlt⟩:=W.up r x hF c.1;have h1:=W.slot _ _ hF;have h2:=W.slot _ _ hy;have e1:slotT F r=x.2.1.toNat:=by unfold slotT;rw [hF];rfl
    have e2:slotT F x.1=y.2.1.toNat:=by unfold slotT;rw [hy];rfl
    exact upT_fuel W s k j x.1 (by omega) (by omega)
   ·rw [if_neg c,if_neg c]
theorem atT_step {f:Int} {F:Int→Option (Int×Int×Int)} (W:WellT f F) {s r:Int} {x:Int×Int×Int} (hF:F r=some x) (c:r≠f∧s < x.2.1):atT F f r s=atT F f x.1 s:=by
 obtain ⟨y,hy,hlt⟩:=W.up r x hF c.1;have h1:=W.slot _ _ hF;have h2:=W.slot _ _ hy;have e1:slotT F r=x.2.1.toNat:=by unfold slotT;rw [hF];rfl
 have e2:slotT F x.1=y.2.1.toNat:=by unfold slotT;rw [hy];rfl
 have e:atT F f r s=upT F f s (slotT F r) x.1:=by
  unfold atT;rw [upT,hF];simp only;rw [if_pos c]
 rw [e];exact upT_fuel W s _ _ _ (by omega) (by omega)
theorem atT_stop {f:Int} {F:Int→Option (Int×Int×Int)} {s r:Int} {x:Int×Int×Int} (hF:F r=some x) (c:¬ (r≠f∧s < x.2.1)):atT F f r s=r:=by
 unfold atT;rw [upT,hF];simp only;rw [if_neg c]
theorem atT_none {f:Int} {F:Int→Option (Int×Int×Int)} {s r:Int} (hF:F r=none):atT F f r s=0:=by
 unfold atT;rw [upT,hF]
theorem Box3.set {w0 w:World} {q:Nat} {x y z:Value} {T:TypeId} (h:Box3 w q x y z T) (hq:w0.heap.size≤q) (hg:w0.grownBy w none) (x' y' z':Value) :
  Box3 (((w.setCell ⟨q,0,none⟩ x').setCell ⟨q,1,none⟩ y').setCell ⟨q,2,none⟩ z') q x' y' z' T∧w0.grownBy (((w.setCell ⟨q,0,none⟩ x').setCell ⟨q,1,none⟩ y').setCell ⟨q,2,none⟩ z') none:=by
 have h1:=heap_setCell_same w q 0 _ T x' h;have h2:=heap_setCell_same _ q 1 _ T y' h1;have h3:=heap_setCell_same _ q 2 _ T z' h2;exact ⟨h3,set_grown _ hq (set_grown _ hq (set_grown _ hq hg))⟩
theorem tat_calls (h:TreeAt w p b n f F) (W:WellT f F) {r:Int} (hr:inU r) (s:Int) :
  Calls Tryz.prog 48 #[.pointer (some ⟨p,0,none⟩),.int .u64 r,.int .i64 s] w fun e w'=>e=.returned (.int .u64 (atT F f r s))∧w.grownBy w' none:=by
 have HH:=lh h;have c1:=h.c1;have hl:=h.2.2.look_ok Tryz.underlying27 Tryz.underlying169 (zero62 w) hr;clear h;unfold tfun at hl;cases hF:F r with
 | none=>
  rw [hF] at hl;rw [atT_none hF];simp only [Option.map_none,Option.getD_none,Option.isSome_none] at hl ⊢;clear hF;go_enter Tryz.func48,Tryz.ntmps48
  go_wp2;refine wp_loop_rounds 1 ?_;rw [rounds_succ];go_wp2;go_ret;exact ⟨rfl,World.grownBy_alloc _ _ none⟩
 | some x=>
  have HF:=lh hF;obtain ⟨x0,x1,x2⟩:=x;rw [hF] at hl;simp only [Option.map_some,Option.getD_some,Option.isSome_some,tnode] at hl ⊢;clear hF;obtain ⟨R,hR⟩ : ∃ R,R=atT F f r s:=⟨_,rfl⟩;rw [← hR];go_enter Tryz.func48,Tryz.ntmps48
  go_wp2;have hx:=Box3.alloc w (.int .u64 x0) (.int .i64 x1) (.int .i64 x2) 168;have hgb:=World.grownBy_alloc w (Obj.cells #[.int .u64 x0,.int .i64 x1,.int .i64 x2] 168) none;obtain ⟨q,hq⟩ : ∃ q,q=w.heap.size:=⟨_,rfl⟩;rw [← hq] at hx ⊢;generalize w.alloc (Obj.cells #[.int .u64 x0,.int .i64 x1,.int .i64 x2] 168)=wb at hx hgb ⊢;have HX:=lh hx;have HG:=lh hgb;have HQ:=lh hq;clear hx hgb hq hl;have HR:=lh hR;clear hR
  go_loopw [1] (fun v1 wr=>∃ (r' y0 y1 y2:Int),v1=.int .u64 r'∧F r'=some (y0,y1,y2)∧R=atT F f r' s∧Box3 wr q (.int .u64 y0) (.int .i64 y1) (.int .i64 y2) 168∧w.grownBy wr none) (fun v1 _=>slotT F (intOf v1))
  case atStart=>exact ⟨r,x0,x1,x2,rfl,HF.out,HR.out,HX.out,HG.out⟩
  case round=>
   obtain ⟨r',y0,y1,y2,rfl,hF',hR',hB,hg⟩:=hrel;have d0:=hB.c0;have d1:=hB.c1;have d2:=hB.c2;have f0:wr.frozen? ⟨q,0,none⟩=false:=frz hB 0;have f1:wr.frozen? ⟨q,1,none⟩=false:=frz hB 1;have f2:wr.frozen? ⟨q,2,none⟩=false:=frz hB 2;have hT:=HH.out.kept hg (by simp);have t0:=hT.c0;have t1:=hT.c1;by_cases hrf:r'=f
   ·have hs:=atT_stop (s:=s) hF' (fun c=>c.1 hrf);rw [hs] at hR';subst hR';have HG2:=lh hg;subst hrf;clear hF' hB hg hT hs;go_wp2;all_goals (go_ret;exact ⟨rfl,HG2.out⟩)
   ·have g0:(r' == f)=false:=beq_eq_false_iff_ne.2 hrf;by_cases hsy:s < y1
    ·have g1:decide (s < y1)=true:=decide_eq_true hsy;obtain ⟨z,hz,hzl⟩:=W.up r' _ hF' hrf;obtain ⟨z0,z1,z2⟩:=z;have hst:=atT_step W (s:=s) hF' ⟨hrf,hsy⟩;have hlz:=hT.2.2.look Tryz.underlying27 Tryz.underlying169 (zero62 wr) (W.key _ _ hz);unfold tfun at hlz;rw [hz] at hlz;simp only [Option.map_some,Option.getD_some,tnode] at hlz;have HB:=lh (hB.set (w0:=w) (by rw [HQ.out];exact Nat.le_refl _) hg (.int .u64 z0) (.int .i64 z1) (.int .i64 z2));have e1:slotT F r'=y1.toNat:=by unfold slotT;rw [hF'];rfl
     have e2:slotT F y0=z1.toNat:=by unfold slotT;rw [hz];rfl
     have hy1:=(W.slot _ _ hF').1;have hz1:=(W.slot _ _ hz).1;simp only at hz hzl hst hy1 hz1;have HZ:=lh hz;have HST:=lh (hR'.trans hst);have hm:slotT F y0 < slotT F r':=by omega
     have HM:=lh hm;clear hF' hB hg hT hz hst hR' hzl hm e1 e2;go_wp2;exact ⟨⟨y0,z0,z1,z2,rfl,HZ.out,HST.out,HB.out.1,HB.out.2⟩,HM.out⟩
    ·have hs:=atT_stop (f:=f) (s:=s) hF' (fun c=>hsy c.2);rw [hs] at hR';subst hR';have HG2:=lh hg;have g1:decide (s < y1)=false:=decide_eq_false hsy;clear hF' hB hg hT hs;go_wp2;all_goals (go_ret;exact ⟨rfl,HG2.out⟩)
def belowT (F:Int→Option (Int×Int×Int)) (f r on:Int):Bool:=
 match F on with
 | none=>false
 | some x=>(F r).isSome && (atT F f r x.2.1 == on)
theorem tbelow_calls (h:TreeAt w p b n f F) (W:WellT f F) {r on:Int} (hr:inU r) (ho:inU on) :
  Calls Tryz.prog 70 #[.pointer (some ⟨p,0,none⟩),.int .u64 r,.int .u64 on] w fun e w'=>e=.returned (.bool (belowT F f r on))∧w.grownBy w' none:=by
 have HH:=lh h;have c1:=h.c1;have hl:=h.2.2.look_ok Tryz.underlying27 Tryz.underlying169 (zero62 w) ho;clear h;unfold tfun at hl;unfold belowT;cases hF:F on with
 | none=>
  rw [hF] at hl;simp only [Option.map_none,Option.getD_none,Option.isSome_none] at hl ⊢;clear hF;go_enter Tryz.func70,Tryz.ntmps70
  go_wp2;go_ret;exact ⟨rfl,World.grownBy_alloc _ _ none⟩
 | some x=>
  obtain ⟨x0,x1,x2⟩:=x;rw [hF] at hl;simp only [Option.map_some,Option.getD_some,Option.isSome_some,tnode] at hl ⊢;clear hF;go_enter Tryz.func70,Tryz.ntmps70
  go_wp2_with fail
  have hx:=Box3.alloc w (.int .u64 x0) (.int .i64 x1) (.int .i64 x2) 168;have hgb:=World.grownBy_alloc w (Obj.cells #[.int .u64 x0,.int .i64 x1,.int .i64 x2] 168) none;obtain ⟨q,hq⟩ : ∃ q,q=w.heap.size:=⟨_,rfl⟩;rw [← hq] at hx ⊢;clear hq hl;generalize w.alloc (Obj.cells #[.int .u64 x0,.int .i64 x1,.int .i64 x2] 168)=wb at hx hgb ⊢;have HX:=lh hx;have HG:=lh hgb;clear hx hgb;refine (thas_calls (HH.out.kept HG.out (by simp)) hr).mono ?_;rintro e w1 ⟨rfl,hg1⟩;have HG1:=lh (g2 HG.out hg1);have hx1:=HX.out.kept hg1;have d1:=hx1.c1;clear hg1 hx1;cases hr':(F r).isSome with
  | false=>
   have HRR:=lh hr';clear hr';go_wp2;go_ret;exact ⟨by rw [HRR.out];rfl,HG1.out⟩
  | true=>
   have HRR:=lh hr';clear hr';go_wp2_with fail
   refine (tat_calls (HH.out.kept HG1.out (by simp)) W hr x1).mono ?_;rintro e w2 ⟨rfl,hg2⟩;have HG2:=lh (g2 HG1.out hg2);clear hg2;obtain ⟨R,hR⟩ : ∃ R,R=atT F f r x1:=⟨_,rfl⟩;have HR:=lh hR;rw [← hR];clear hR;go_wp2;go_ret;exact ⟨by rw [HRR.out,← HR.out];simp,HG2.out⟩
end
theorem gweak {w w':World} {row:Option Nat} (h:w.grownBy w' none):w.grownBy w' row:=⟨h.os,h.tape,h.output,h.size,fun i hi _=>h.block i hi (by simp)⟩
theorem nan_calls (x:Int) (w:World):Calls Tryz.prog 118 #[.int .u64 x] w fun e w'=>e=.returned (.bool false)∧w=w':=by
 go_enter Tryz.func118,Tryz.ntmps118
 go_wp2;go_ret;exact ⟨by simp,rfl⟩
theorem less_calls (x y:Int) (w:World):Calls Tryz.prog 99 #[.int .u64 x,.int .u64 y] w fun e w'=>e=.returned (.bool (decide (x < y)))∧w=w':=by
 go_enter Tryz.func99,Tryz.ntmps99
 go_wp2_with (go_at_call 118;refine (nan_calls _ _).mono ?_;rintro e w' ⟨rfl,rfl⟩)
 go_ret;exact ⟨by simp,rfl⟩
end Go.Proofs.YtndfpmboanohcaaGreatDoor
namespace Go.Proofs
open Go.Shelf
def Tryz.bitsLen_ren:Go.Shelf.Ren:=⟨fun | 125=>89 | 128=>102 | 129=>103 | n=>n,fun | 46=>229 | 3=>3 | 51=>240 | 53=>27 | 4=>4 | 5=>5 | 9=>9 | n=>n,fun n=>n⟩
theorem Tryz.bitsLen:Lays.n125 Tryz.prog Tryz.bitsLen_ren where
 mixed:=by kernel_rfl
 f125:=Tryz.func89.trans (congrArg some (by kernel_rfl))
 f128:=Tryz.func102.trans (congrArg some (by kernel_rfl))
 f129:=Tryz.func103.trans (congrArg some (by kernel_rfl))
 t3:=Tryz.underlying3
 a3:=Tryz.isAgg3
 z3:=Tryz.sizeOf3
 v3:=Tryz.zeroValue3
 t4:=Tryz.underlying4
 a4:=Tryz.isAgg4
 z4:=Tryz.sizeOf4
 v4:=Tryz.zeroValue4
 t5:=Tryz.underlying5
 a5:=Tryz.isAgg5
 z5:=Tryz.sizeOf5
 v5:=Tryz.zeroValue5
 t9:=Tryz.underlying9
 a9:=Tryz.isAgg9
 z9:=Tryz.sizeOf9
 v9:=Tryz.zeroValue9
 t46:=Tryz.underlying229
 a46:=Tryz.isAgg229
 z46:=Tryz.sizeOf229
 v46:=Tryz.zeroValue229
 t51:=Tryz.underlying240
 a51:=Tryz.isAgg240
 z51:=Tryz.sizeOf240
 v51:=Tryz.zeroValue240
 t53:=Tryz.underlying27
 a53:=Tryz.isAgg27
 z53:=Tryz.sizeOf27
 v53:=Tryz.zeroValue27
end Go.Proofs
namespace Go.Proofs.YtndfpmboanohcaaGreatDoor
open Go.RowKit Go.Maps SkipPure Go.Shelf
end Go.Proofs.YtndfpmboanohcaaGreatDoor
namespace Go.Proofs.YtndfpmboanohcaaGreatDoor
set_option maxRecDepth 100000
open Go.RowKit Go.Maps Go.Sort SkipPure Go.Shelf
abbrev encU:Int→Value:=Value.int .u64
theorem encU_inj {x y:Int} (h:encU x=encU y):x=y:=by simpa [encU] using h
theorem inU_wf {x:Int} (h:(Lit.int .u64 x).wf=true):inU x:=by
 simp [Lit.wf,IntKind.min,IntKind.max,IntKind.signed,IntKind.bits] at h;exact ⟨by omega,by omega⟩
def CollectedU (D0:DataW Value) (left:Lit→Bool) (ss:List Int):Prop:=
 ss.Nodup∧(∀ x∈ss,inU x)∧∀ x,inU x→(x∈ss↔(has D0 (kk x)=true∧left (kk x)=false))
theorem CollectedU.start (D0:DataW Value):CollectedU D0 (has D0) []:=⟨List.nodup_nil,by simp,fun x _=>by cases has D0 (kk x) <;> simp⟩
theorem CollectedU.step {D0:DataW Value} {left:Lit→Bool} {ss:List Int} (h:CollectedU D0 left ss) {x:Int} {y:DataW Value} (hx:inU x) (hlk:left (kk x)=true) (hat : ∀ zd,D0.atKey (kk x) zd=y):CollectedU D0 (fun z=>left z && !z.sameKey (kk x)) (ss++[x]):=by
 have hhas:has D0 (kk x)=true:=has_true_of_atKey hat;have hnew:x∉ss:=fun hm=>by have:=((h.2.2 x hx).1 hm).2;rw [hlk] at this;cases this
 refine ⟨List.nodup_append.2 ⟨h.1,by simp,fun a ha b hb=>by simp at hb;subst hb;exact fun e=>hnew (e ▸ ha)⟩,fun y hy=>?_,fun y hyU=>?_⟩
 ·rcases List.mem_append.1 hy with hy | hy
  ·exact h.2.1 y hy
  ·simp at hy;subst hy;exact hx
 ·by_cases hy:y=x
  ·subst hy;simp [Lit.sameKey,kk];exact hhas
  ·have:=h.2.2 y hyU;simp only [List.mem_append,List.mem_singleton,hy,or_false,this];simp [Lit.sameKey,kk,hy]
def KeysOf (F:Int→Option Value) (ss:List Int):Prop:=ss.Nodup∧(∀ x∈ss,inU x)∧∀ x,inU x→(x∈ss↔(F x).isSome=true)
theorem CollectedU.done {D0:DataW Value} {left:Lit→Bool} {ss:List Int} {F:Int→Option Value} (h:CollectedU D0 left ss) (hH:HoldsAs D0 F) (hl : ∀ kl,left kl=false):KeysOf F ss:=by
 refine ⟨h.1,h.2.1,fun x hx=>(h.2.2 x hx).trans ?_⟩;obtain ⟨h1,h2⟩:=hH x hx;rw [hl];cases hF:F x with
 | none=>simp [h1 hF]
 | some v=>simp [(h2 v hF).1]
set_option maxHeartbeats 1000000 in
theorem keys1_in {F:Fence} {n:Nat} (h10:F.fn 81) (hro:F.round=none) (hn:1≤n) (l Bm b nn:Nat) {G:Int→Option Value} (J Jx:List Int→World→Prop)
  (hY : ∀ pre x W,J pre W→pre.length < nn→YieldAt F (n - 1) Tryz.prog l #[encU x] W fun e W'=>(e=.returned (.bool true)∧J (pre++[x]) W'∧KeepsWalks W W')∨(e=.returned (.bool false)∧Jx (pre++[x]) W'))
  (W:World) (hJ:AbidesFrom W.heap.size J) (hm:W.cell? ⟨Bm,0,none⟩=some (.map (some b))) (hown:RawMap Tryz.prog 27 W b nn G) (h0:J [] W) :
  CallsIn F n Tryz.prog 81 #[.func (.yield l) #[] #[],.pointer (some ⟨Bm,0,none⟩)] W fun e W'=>(∃ v,e=.returned v)∧((∃ ss:List Int,(KeysOf G ss∧ss.length≤nn)∧J ss W')∨(∃ pre:List Int,True∧Jx pre W')):=by
 obtain ⟨D0,hown,hH,hsz⟩:=hown;refine callsIn_of_wp Tryz.func81 rfl h10 ?_ hro;simp only [Tryz.ntmps81,List.size_toArray,List.length_cons,List.length_nil,Nat.reduceAdd,Nat.reduceSub,Array.replicate_succ,Array.replicate_zero,List.push_toArray,List.append_toArray,List.nil_append,List.cons_append]
 gi_wp2_with (first
  | (gi_at_range;refine wpListIn_range_own _ rfl _ 169 rfl 27 168 (int_keyed Tryz.underlying27) Tryz.underlying169 _ b nn _ rfl hown ?_;intro w0 hrg0 hg0 hs0)
  | gi_in)
 go_frame
 gi_loopw [3] (fun _ wr=>∃ (left:Lit→Bool) (cnt:Nat) (ss:List Int),wr.ranges Tryz.prog 27 rawE b W.heap.size nn D0 left cnt∧ss.length+cnt≤nn∧CollectedU D0 left ss∧J ss wr)
  (fun _ wr=>wr.rangeLeft b W.heap.size)
 case atStart=>
  exact ⟨_,_,[],hrg0,by simp;omega,CollectedU.start D0,hJ [] W w0 none h0 hg0 (fun r e=>by cases e)⟩
 case round=>
  obtain ⟨left,cnt,ss,hrg,hcs,hC,hJs⟩:=hrel
  gi_wp2_with (first
   | (gi_at_next;refine wpListIn_next_ranges _ rfl _ rfl 27 (int_keyed Tryz.underlying27) rawE encU id (fun key kl hk=>by obtain ⟨x,hx,_⟩:=Maps.keyOf_int_inv Tryz.underlying27 hk;exact ⟨x,hx⟩) (fun v _ _=>⟨v,rfl⟩) b W.heap.size nn _ _ _ rfl hrg ?_ ?_)
   | gi_in)
  ·intro hc0 hl0
   gi_wp2
   go_end0
   exact ⟨⟨_,rfl⟩,.inl ⟨ss,⟨hC.done hH hl0,by omega⟩,hJs⟩⟩
  ·intro x c kl yd yp w2 cnt2 hkey hlk hv hat hrg2 hlt hg2 hs2 hen;obtain ⟨x',ex,rfl,hwx⟩:=Maps.keyOf_int_inv Tryz.underlying27 hkey;obtain rfl:x=x':=encU_inj ex;have hJ2:J ss w2:=hJ ss wr w2 (some W.heap.size) hJs hg2 (fun r e=>by cases e;exact ⟨Nat.le_refl _,hrg.iter_walk⟩);obtain ⟨fn,tmps,assign,body,hy,hR⟩:=hY ss x w2 hJ2 (by omega);clear hs2
   gi_wp2
   refine hR.mono ?_;have hC2:=hC.step (inU_wf hwx) hlk hat;rintro e W3 (⟨rfl,hJ3,hk3⟩ | ⟨rfl,hJx3⟩)
   ·gi_wp2
    have hrg3:=hrg2.of_walks hk3
    go_roundw
    case rel=>exact ⟨_,cnt2,ss++[x],hrg3,by simp;omega,hC2,hJ3⟩
    case measure=>rw [hrg3.left_eq,hrg.left_eq];exact hlt
   ·gi_wp2
    refine bodyPost_ret (results_none rfl _ _ _) rfl ?_;exact ⟨⟨_,rfl⟩,.inr ⟨ss++[x],trivial,hJx3⟩⟩
theorem keys_stops {F:Fence} {n:Nat} (h10:F.fn 81) (hro:F.round=none) (hn:1≤n) (Bm b nn:Nat) {G:Int→Option Value} (w:World) (hBm:Bm < w.heap.size)
  (hm:w.cell? ⟨Bm,0,none⟩=some (.map (some b))) (hown:RawMap Tryz.prog 27 w b nn G) :
  SeqStops F n Tryz.prog 81 #[.pointer (some ⟨Bm,0,none⟩)] encU (fun ss=>KeysOf G ss∧ss.length≤nn) (fun _=>True) nn w:=fun l J Jx W hW hJ _ hY h0=>by
 have hown':RawMap Tryz.prog 27 W b nn G:=by
  have hbl:=hown.lt;obtain ⟨D,⟨es,clock,hb,Ft,hs,hD⟩,h2⟩:=hown;exact ⟨D,⟨es,clock,(hW.block b hbl).trans hb,Ft,hs,hD⟩,h2⟩
 exact keys1_in h10 hro hn l Bm b nn J Jx hY W hJ ((hW.cell (p:=⟨Bm,0,none⟩) hBm).trans hm) hown' h0
theorem info_u64:(Tryz.prog.info? 27).map (fun i=>(i.zero,i.size,i.bytes))=some (some (.int .u64 0),1,8):=by kernel_rfl
section
attribute [local go_sem] Oper.semAt_some
set_option maxHeartbeats 2000000 in
theorem aseq_in {F:Fence} {n:Nat} (h11:F.fn 87) (h10:F.fn 81) (hro:F.round=none) (hn:3≤n) (Bm N:Nat) {S:List Int→Prop} (hN:N≤maxLen) (hNb:N * 8≤140737488355328) (w:World)
  (hseq:SeqStops F (n - 1) Tryz.prog 81 #[.pointer (some ⟨Bm,0,none⟩)] encU S (fun _=>True) N w) :
  CallsIn F n Tryz.prog 87 #[.slice none 0 0,.func (.func 81) #[] #[.pointer (some ⟨Bm,0,none⟩)]] w fun e W'=>∃ (v:Value) (ss:List Int),e=.returned v∧S ss∧W'.ownsRow w.heap.size 27 1 v ss.length (ss.map encU)∧(v=.slice none 0 0↔ss=[])∧Below w.heap.size w W':=by
 have h1:1≤n:=by omega
 obtain ⟨i0,hi,hz0,hz1,hz2⟩:=info_parts info_u64;refine callsIn_of_wp_marks Tryz.func87 rfl h11 ?_ hro;simp only [Tryz.ntmps87,List.size_toArray,List.length_cons,List.length_nil,Nat.reduceAdd,Nat.reduceSub,Array.replicate_succ,Array.replicate_zero,List.push_toArray,List.append_toArray,List.nil_append,List.cons_append]
 gi_wp2
 have bO:=Boxed.new w 34 (.slice none 0 0);have hB0:Below w.heap.size w (w.alloc (.cells #[.slice none 0 0] 34)):=(Below.refl _ w).alloc (Nat.le_refl _) _;refine wpIn_rangeFunc_ownG hro h1 (gf:=81) (lb:=#[.pointer (some ⟨Bm,0,none⟩)]) rfl h10 (enters_of Tryz.func81 (by kernel_rfl) rfl)
  hseq walksK_t walksK_b hB0 (fun _=>rfl)
  (fun pre W=>(∃ v,Boxed W w.heap.size 34 v∧W.ownsRow w.heap.size 27 1 v pre.length (pre.map encU)∧(v=.slice none 0 0↔pre=[]))∧RowKit.Below w.heap.size w W)
  (fun _ _ _=>False)
  (OwnFrom.and (Own.from (holdsRow_own w.heap.size w.heap.size 34 27 1 (fun pre=>pre.length) (fun pre=>pre.map encU) (fun pre v=>v=.slice none 0 0↔pre=[])) _) (ownFrom_below (Nat.le_refl _) (by simp)))
  (fun _ _ _ _ _ hs _ _=>hs)
  ⟨⟨_,bO,World.ownsRow_nil _ _ _ _,by simp⟩,hB0⟩
  (fun x=>{ tmps:=#[.slice none 0 0,.func (.func 81) #[] #[.pointer (some ⟨Bm,0,none⟩)],.pointer (some ⟨w.heap.size,0,none⟩),undef,.slice none 0 0,.int .u64 x,.func (.func 81) #[] #[.pointer (some ⟨Bm,0,none⟩)],.int .u64 x,undef,undef,undef,undef,undef],defers:=[] }) ?assign ?body ?done ?stop
 case assign=>
  intro l x W K hK
  gi_wp2
  exact hK
 case body=>
  rintro l pre x W ⟨⟨v,hv,hrow,hnil⟩,hB⟩ hlt;have hc:=hv.cell
  gi_wp2_with (gi_at_builtin;refine wpListIn_append_own _ rfl _ _ 34 rfl w.heap.size 27 i0 (.int .u64 0) 1 8 Tryz.underlying34 hi hz0 hz1 hz2 rfl (by decide) _ _ _ rfl (hrow.alloc _) ⟨W.heap.size,0,none⟩ 1 1 [.int .u64 x] rfl rfl (cell_one_new _ _ _) (by simp [Value.oneCell']) (by omega) (by omega) (by have:=hB.size;simp;omega) ?_;intro v' w1 hown' hgrow _;obtain ⟨g',cap',rfl⟩:=ownsRow_succ hown';obtain ⟨hv1,hv2,hr2,hk2,hb2⟩:=hv.appended (by decide) hrow hB.size (Nat.le_refl _) hown' hgrow;have hc1:=hv1.cell;have hf1:=hv1.frozen)
  exact ⟨hk2.from _,hk2.walks,⟨_,hv2,by simpa using hr2,by simp⟩,hB.trans hb2⟩
 case done=>
  rintro D ys W hD hS ⟨⟨v,hv,hrow,hnil⟩,hB⟩ hK;have hc:=hv.cell
  gi_wp2
  refine ⟨by simp,.inl ⟨_,_,rfl,run_takeDeferred hK,?_⟩⟩;exact ⟨_,results_tmp rfl _ _ _,v,ys,rfl,hS,ownsRow_putObj hrow _ hK rfl,hnil,hB.trans (belowK_b (w:=w) (Nat.le_refl _) W D _ _ (by simp at hD;omega) hK rfl rfl)⟩
 case stop=>
  rintro D c pre W _ _ h _;exact h.elim
end
theorem below_grown {w w':World} (h:RowKit.Below w.heap.size w w'):w.grownBy w' none:=⟨h.os,h.tape,h.output,h.size,fun i hi _=>h.block i hi⟩
theorem collect_calls (Bm N:Nat) {S:List Int→Prop} (hN:N≤maxLen) (hNb:N * 8≤140737488355328) (w:World)
  (hseq:SeqStops Fence.wide 5 Tryz.prog 81 #[.pointer (some ⟨Bm,0,none⟩)] encU S (fun _=>True) N w) :
  Calls Tryz.prog 79 #[.func (.func 81) #[] #[.pointer (some ⟨Bm,0,none⟩)]] w fun e W'=>∃ (v:Value) (ss:List Int),e=.returned v∧S ss∧W'.ownsRow w.heap.size 27 1 v ss.length (ss.map encU)∧w.grownBy W' none:=by
 have hA:=(callsIn_wide (n:=6)).1 (aseq_in (F:=Fence.wide) (n:=6) trivial trivial rfl (by omega) Bm N hN hNb w hseq);have HA:=lh hA;clear hA hseq;go_enter Tryz.func79,Tryz.ntmps79
 go_wp2_with fail
 refine HA.out.mono ?_;rintro e w' ⟨v,ss,rfl,hS,hrow,_,hb⟩;have H1:=lh hS;have H2:=lh hrow;have H3:=lh (below_grown hb);clear hS hrow hb;go_wp2;go_ret;exact ⟨v,ss,rfl,H1.out,H2.out,H3.out⟩
theorem keysfun_calls (mb:Option Nat) (w:World):Calls Tryz.prog 62 #[.map mb] w fun e w'=>e=.returned (.func (.func 81) #[] #[.pointer (some ⟨w.heap.size,0,none⟩)])∧w'=w.alloc (.cells #[.map mb] 169):=by
 go_enter Tryz.func62,Tryz.ntmps62
 go_wp2;go_ret;exact ⟨rfl,rfl⟩
def SortUpTo (N:Nat):Prop:=∀ (w:World) (B g c:Nat) (xs:List Int),1≤xs.length→xs.length≤N→w.ownsRow B 27 1 (.slice (some ⟨g,0,none⟩) xs.length c) xs.length (xs.map encU) →
 Calls Tryz.prog 80 #[.slice (some ⟨g,0,none⟩) xs.length c] w fun e w'=>e=.returned (.tuple #[])∧∃ ys:List Int,ys.Perm xs∧ys.Pairwise (·≤·)∧w'.ownsRow B 27 1 (.slice (some ⟨g,0,none⟩) xs.length c) xs.length (ys.map encU)∧w.grownBy w' (some g)
theorem sorted_calls (Bm N:Nat) {S:List Int→Prop} (hN:N≤maxLen) (hNb:N * 8≤140737488355328) (hS:SortUpTo N) (hS2 : ∀ ss,S ss→1≤ss.length∧ss.length≤N) (w:World)
  (hseq:SeqStops Fence.wide 5 Tryz.prog 81 #[.pointer (some ⟨Bm,0,none⟩)] encU S (fun _=>True) N w) :
  Calls Tryz.prog 61 #[.func (.func 81) #[] #[.pointer (some ⟨Bm,0,none⟩)]] w fun e W'=>∃ (v:Value) (ss ys:List Int),e=.returned v∧S ss∧ys.Perm ss∧ys.Pairwise (·≤·)∧W'.ownsRow w.heap.size 27 1 v ss.length (ys.map encU)∧w.grownBy W' none:=by
 have HA:=lh (collect_calls Bm N hN hNb w hseq);have HS:=lh hS;clear hseq hS;go_enter Tryz.func61,Tryz.ntmps61
 go_wp2_with fail
 refine HA.out.mono ?_;rintro e w1 ⟨v,ss,rfl,hS,hrow,hg⟩;obtain ⟨hl1,hl2⟩:=hS2 ss hS;obtain ⟨g,cap,rfl,hgb⟩:=hrow.form (by omega);have H1:=lh hS;have H3:=lh hg;have hs:=HS.out w1 _ g cap ss hl1 hl2 hrow;have HX:=lh hs;clear hS hrow hg hs;go_wp2_with fail
 refine HX.out.mono ?_;rintro e w2 ⟨rfl,ys,hp,hle,h1,h2⟩;have H4:=lh h1;have H5:=lh (H3.out.andThen h2 (fun j e=>by cases e;exact Or.inl hgb.1));have H6:=lh hp;have H7:=lh hle;clear h1 h2 hp hle;go_wp2;go_ret;exact ⟨_,ss,ys,rfl,H1.out,H6.out,H7.out,H4.out,H5.out⟩
theorem rowMono {w:World} {base base':Nat} {e:TypeId} {size:Nat} {v:Value} {n:Nat} {xs:List Value} (h:w.ownsRow base e size v n xs) (hb:base'≤base):w.ownsRow base' e size v n xs:=
 ⟨h.1,h.2.imp id fun ⟨g,cap,cur,a,b,c⟩=>⟨g,cap,cur,a,Nat.le_trans hb b,c⟩⟩
def Rising (F:Int→Option (Int×Int×Int)) (ks:List Int):Prop:=ks.Pairwise (· < ·)∧(∀ x∈ks,inU x)∧∀ x,inU x→(x∈ks↔(F x).isSome=true)
theorem rising_eq : ∀ {ks js:List Int},ks.Pairwise (· < ·)→js.Pairwise (· < ·)→(∀ x,x∈ks↔x∈js)→ks=js
 | [],[],_,_,_=>rfl
 | [],j :: js,_,_,h=>by have:=(h j).2 (by simp);simp at this
 | k :: ks,[],_,_,h=>by have:=(h k).1 (by simp);simp at this
 | k :: ks,j :: js,h1,h2,h=>by
  have hk:=(h k).1 (by simp);have hj:=(h j).2 (by simp);rw [List.pairwise_cons] at h1 h2;have e:k=j:=by
   rcases List.mem_cons.1 hk with hk | hk
   ·exact hk
   ·rcases List.mem_cons.1 hj with hj | hj
    ·exact hj.symm
    ·have:=h2.1 k hk;have:=h1.1 j hj;omega
  subst e
  congr 1
  refine rising_eq h1.2 h2.2 fun x=>⟨fun hx=>?_,fun hx=>?_⟩
  ·rcases List.mem_cons.1 ((h x).1 (List.mem_cons_of_mem _ hx)) with e | e
   ·have:=h1.1 x hx;omega
   ·exact e
  ·rcases List.mem_cons.1 ((h x).2 (List.mem_cons_of_mem _ hx)) with e | e
   ·have:=h2.1 x hx;omega
   ·exact e
theorem Rising.eq {F:Int→Option (Int×Int×Int)} {ks js:List Int} (h1:Rising F ks) (h2:Rising F js):ks=js:=
 rising_eq h1.1 h2.1 fun x=>⟨fun hx=>(h2.2.2 x (h1.2.1 x hx)).2 ((h1.2.2 x (h1.2.1 x hx)).1 hx),fun hx=>(h1.2.2 x (h2.2.1 x hx)).2 ((h2.2.2 x (h2.2.1 x hx)).1 hx)⟩
theorem roots_calls {w:World} {p b n:Nat} {f:Int} {F:Int→Option (Int×Int×Int)} (h:TreeAt w p b n f F) (W:WellT f F) (hn:n≤1000000) (hS:SortUpTo n) :
  Calls Tryz.prog 41 #[.pointer (some ⟨p,0,none⟩)] w fun e W'=>∃ (v:Value) (ks:List Int),e=.returned v∧Rising F ks∧ks.length≤n∧W'.ownsRow w.heap.size 27 1 v ks.length (ks.map encU)∧w.grownBy W' none:=by
 have c1:=h.c1;have HH:=lh h;have HS0:=lh hS;clear h hS;go_enter Tryz.func41,Tryz.ntmps41
 go_wp2_with fail
 refine (keysfun_calls _ _).mono ?_;rintro e w1 ⟨rfl,hw1⟩;have hg1:w.grownBy w1 none:=by rw [hw1];exact World.grownBy_alloc _ _ none
 have hb:w1.cell? ⟨w.heap.size,0,none⟩=some (.map (some b)):=by rw [hw1];simp
 have hlt:w.heap.size < w1.heap.size:=by rw [hw1];simp
 have hT:=HH.out.kept hg1 (by simp);have hseq:=keys_stops (F:=Fence.wide) (n:=5) trivial rfl (by omega) w.heap.size b n w1 hlt hb hT.2.2;have hS2 : ∀ ss,(KeysOf (tfun F) ss∧ss.length≤n)→1≤ss.length∧ss.length≤n:=fun ss hs=>by
  refine ⟨?_,by omega⟩;obtain ⟨x,hx⟩:=Option.isSome_iff_exists.1 W.first
  have hm:=(hs.1.2.2 f (W.key _ _ hx)).2 (by unfold tfun;rw [hx];rfl);exact List.length_pos_of_mem hm
 have HS:=lh (sorted_calls w.heap.size n (by unfold maxLen;omega) (by omega) HS0.out hS2 w1 hseq);have HG:=lh hg1;clear hw1 hg1 hb hT hseq;go_wp2_with fail
 refine HS.out.mono ?_;rintro e w2 ⟨v,ss,ys,rfl,⟨hK,hl⟩,hp,hle,hrow,hg2⟩;have H1:=lh hK;have H2:=lh hrow;have H3:=lh (g2 HG.out hg2);have H4:=lh hp;have H5:=lh hle;clear hK hrow hg2 hp hle;go_wp2;go_ret;have hnd:ys.Nodup:=H4.out.nodup_iff.2 H1.out.1;refine ⟨v,ys,rfl,⟨(H5.out.and hnd).imp fun ⟨a,b⟩=>by omega,fun x hx=>H1.out.2.1 x (H4.out.mem_iff.1 hx),fun x hx=>?_⟩,by rw [H4.out.length_eq];exact hl,?_,H3.out⟩
 ·rw [H4.out.mem_iff,H1.out.2.2 x hx];unfold tfun;cases F x <;> simp
 ·rw [H4.out.length_eq];exact rowMono H2.out HG.out.size
end Go.Proofs.YtndfpmboanohcaaGreatDoor
