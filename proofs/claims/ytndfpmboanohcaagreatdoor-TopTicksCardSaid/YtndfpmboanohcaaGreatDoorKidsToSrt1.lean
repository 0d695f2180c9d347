/- Contract of (*tree.Tree).Kids, at trees of as many blocks as slices.Sort is known for. -/
import Derived.Test.YtndfpmboanohcaaGreatDoorTree2ToIter
import Derived.Sort.Walk13
import Derived.Sort.Walk7
import Derived.Sort.Walk11
import Derived.Sort.WalkC4
import Derived.Sort.AssemblyPlain
namespace Go.Proofs.YtndfpmboanohcaaGreatDoor
set_option maxRecDepth 100000
open Go.RowKit Go.Maps SkipPure
def kidsT (F:Int→Option (Int×Int×Int)) (f root:Int) (ks:List Int):List Int:=ks.filter fun r=>!(r == f) && (((F r).getD (0,0,0)).1 == root)
theorem kidsT_take (F:Int→Option (Int×Int×Int)) (f root:Int) (ks:List Int) (i:Nat) (h:i < ks.length) :
  kidsT F f root (ks.take (i+1))=kidsT F f root (ks.take i)++(if (!(ks.getD i 0 == f) && (((F (ks.getD i 0)).getD (0,0,0)).1 == root))=true then [ks.getD i 0] else []):=by
 unfold kidsT;rw [List.take_add_one,List.filter_append]
 congr 1
 rw [List.getElem?_eq_getElem h,List.getD_eq_getElem?_getD,List.getElem?_eq_getElem h];simp only [Option.toList_some,Option.getD_some,List.filter_cons,List.filter_nil]
theorem kidsT_length (F:Int→Option (Int×Int×Int)) (f root:Int) (ks:List Int):(kidsT F f root ks).length≤ks.length:=List.length_filter_le _ _
theorem rowCell {w:World} {base n g c:Nat} {xs:List Int} (h:w.ownsRow base 27 1 (.slice (some ⟨g,0,none⟩) n c) n (xs.map encU)) (i:Nat) (hi:i < n):w.cell? ⟨g,i,none⟩=some (.int .u64 (xs.getD i 0)):=by
 have hl:xs.length=n:=by have:=h.1;simpa using this
 rw [h.cellAt i (by omega)];simp [List.getD_eq_getElem?_getD,show i < xs.length by omega]
theorem fieldN (x y z:Int) (w:World):(Instr.field 168 (.agg #[.int .u64 x,.int .i64 y,.int .i64 z]) 0).run Tryz.prog w=.ok (.int .u64 x) w:=by kernel_rfl
set_option maxHeartbeats 1000000 in
theorem kids_calls {w:World} {p b n:Nat} {f:Int} {F:Int→Option (Int×Int×Int)} (h:TreeAt w p b n f F) (W:WellT f F) (hn:n≤1000000) (hS:SortUpTo n) (root:Int) :
  Calls Tryz.prog 150 #[.pointer (some ⟨p,0,none⟩),.int .u64 root] w fun e W'=>∃ (v:Value) (ks:List Int),e=.returned v∧Rising F ks∧ks.length≤n∧W'.ownsRow w.heap.size 27 1 v (kidsT F f root ks).length ((kidsT F f root ks).map encU)∧w.grownBy W' none:=by
 have HH:=lh h;clear h;obtain ⟨i0,hi,hz0,hz1,hz2⟩:=info_parts info_u64;have HI0:=lh hi;have HZ0:=lh hz0;have HZ1:=lh hz1;have HZ2:=lh hz2;clear hi hz0 hz1 hz2;go_enter Tryz.func150,Tryz.ntmps150
 go_wp2_with fail
 refine (roots_calls HH.out W hn hS).mono ?_;rintro e w1 ⟨v,ks,rfl,hR,hl,hrow,hg⟩;have hpos:0 < ks.length:=by
  obtain ⟨x,hx⟩:=Option.isSome_iff_exists.1 W.first
  exact List.length_pos_of_mem ((hR.2.2 f (W.key _ _ hx)).2 (by rw [hx];rfl))
 obtain ⟨g,cap,rfl,hgb⟩:=hrow.form hpos;have HR:=lh hR;have HROW:=lh hrow;have HG:=lh hg;clear hR hrow hg hpos;go_wp2
 go_loopw [11,5] (fun v11 v5 wr=>∃ j:Nat,v11=.int .i64 (j:Int)∧j≤ks.length∧wr.ownsRow w1.heap.size 27 1 v5 (kidsT F f root (ks.take j)).length ((kidsT F f root (ks.take j)).map encU)∧w1.grownBy wr none) (fun v11 _ _=>ks.length - (intOf v11).toNat)
 case atStart=>exact ⟨0,rfl,by omega,by simpa [kidsT] using World.ownsRow_nil w1 _ _ _,gR w1 none⟩
 case round=>
  obtain ⟨j,rfl,hj,ho,hg1⟩:=hrel;have HO:=lh ho;have HG1:=lh hg1;by_cases hlt:j < ks.length
  ·have hc:=rowCell (HROW.out.kept hg1 (by simp [Value.ownBlock])) j hlt;have ht:=kidsT_take F f root ks j hlt;have hin:=HR.out.2.1 (ks.getD j 0) (by rw [List.getD_eq_getElem?_getD,List.getElem?_eq_getElem hlt];simp);obtain ⟨r,hr⟩ : ∃ r,r=ks.getD j 0:=⟨_,rfl⟩;rw [← hr] at hc ht hin;have hT:=HH.out.kept (g2 HG.out hg1) (by simp);have c0:=hT.c0;have c1:=hT.c1;have hlk:=hT.2.2.look Tryz.underlying27 Tryz.underlying169 (zero62 wr) hin;have hlk2:(tfun F r).getD (Value.agg #[.int .u64 0,.int .i64 0,.int .i64 0])=tnode ((F r).getD (0,0,0)):=by
    unfold tfun;cases F r <;> rfl
   rw [hlk2] at hlk;obtain ⟨y,hy⟩ : ∃ y,y=(F r).getD (0,0,0):=⟨_,rfl⟩;rw [← hy] at hlk ht;obtain ⟨y0,y1,y2⟩:=y;simp only [tnode] at hlk ht;have hfl:=fieldN y0 y1 y2;have HT:=lh ht;clear ho hg1 ht hr hT hlk2 hy;have hkl:(kidsT F f root (ks.take j)).length≤1000000:=Nat.le_trans (kidsT_length _ _ _ _) (by simp;omega);by_cases hrf:r=f
   ·have hcond:¬ (!(r == f) && (y0 == root))=true:=by simp [hrf]
    have g0:(r == f)=true:=beq_iff_eq.2 hrf;have HC:=lh hcond;clear hcond;subst hrf;go_wp2;exact ⟨⟨j+1,by simp,by omega,by rw [HT.out,if_neg HC.out,List.append_nil];exact HO.out,HG1.out⟩,by simp [intOf];omega⟩
   ·have g0:(r == f)=false:=beq_eq_false_iff_ne.2 hrf;by_cases hy0:y0=root
    ·have hcond:(!(r == f) && (y0 == root))=true:=by simp [hrf,hy0]
     have g1:(y0 == root)=true:=beq_iff_eq.2 hy0;subst hy0;rcases HO.out.two with hv5 | ⟨g5,c5,hv5⟩
     ·subst hv5;go_wp2_with (at_builtin;refine wpList_append_lies _ rfl _ _ 34 rfl w1.heap.size 27 i0 (.int .u64 0) 1 8 Tryz.underlying34 HI0.out HZ0.out HZ1.out HZ2.out rfl (by decide) _ (kidsT F f y0 (ks.take j)).length ((kidsT F f y0 (ks.take j)).map encU) rfl (HO.out.alloc _) ⟨wr.heap.size,0,none⟩ 1 1 [.int .u64 r] rfl rfl (World.news_of_block (MapKept.heap_alloc _ _).1) (by simp [Value.oneCell']) (by decide) (by unfold maxLen;omega) (by omega) (by have:=HG1.out.size;simp;omega) _ rfl ?_;intro g6 c6 w6 h6 hg6 hat6 hlt6;have H6:=lh h6;have HG6:=lh hg6;clear h6 hg6 hat6)
      refine ⟨⟨j+1,by simp,by omega,?_,(g2 HG1.out (World.grownBy_alloc wr _ none)).andThen HG6.out (fun k e=>Or.inl (HO.out.lt k e).1)⟩,by simp [intOf];omega⟩;rw [HT.out,if_pos hcond];have:=H6.out
      simpa using this
     ·subst hv5;go_wp2_with (at_builtin;refine wpList_append_lies _ rfl _ _ 34 rfl w1.heap.size 27 i0 (.int .u64 0) 1 8 Tryz.underlying34 HI0.out HZ0.out HZ1.out HZ2.out rfl (by decide) _ (kidsT F f y0 (ks.take j)).length ((kidsT F f y0 (ks.take j)).map encU) rfl (HO.out.alloc _) ⟨wr.heap.size,0,none⟩ 1 1 [.int .u64 r] rfl rfl (World.news_of_block (MapKept.heap_alloc _ _).1) (by simp [Value.oneCell']) (by decide) (by unfold maxLen;omega) (by omega) (by have:=HG1.out.size;simp;omega) _ rfl ?_;intro g6 c6 w6 h6 hg6 hat6 hlt6;have H6:=lh h6;have HG6:=lh hg6;clear h6 hg6 hat6)
      refine ⟨⟨j+1,by simp,by omega,?_,(g2 HG1.out (World.grownBy_alloc wr _ none)).andThen HG6.out (fun k e=>Or.inl (HO.out.lt k e).1)⟩,by simp [intOf];omega⟩;rw [HT.out,if_pos hcond];have:=H6.out
      simpa using this
    ·have hcond:¬ (!(r == f) && (y0 == root))=true:=by simp [hy0]
     have g1:(y0 == root)=false:=beq_eq_false_iff_ne.2 hy0;have HC:=lh hcond;clear hcond;go_wp2;exact ⟨⟨j+1,by simp,by omega,by rw [HT.out,if_neg HC.out,List.append_nil];exact HO.out,HG1.out⟩,by simp [intOf];omega⟩
  ·have hje:j=ks.length:=by omega
   subst hje;rw [List.take_length] at HO;clear ho hg1;go_wp2;go_ret;exact ⟨_,ks,rfl,HR.out,hl,rowMono HO.out HG.out.size,g2 HG.out HG1.out⟩
structure Ent where
 h:Bool
 e:Int
 r:Int
 b:Bool
def VAt (w:World) (g n:Nat) (V:Nat→Ent):Prop:=
 ∃ cs:Array Value,w.heap[g]? = some (.cells cs 147 (0,0))∧cs.size=n * 4 ∧
  ∀ i,i < n→cs[i * 4]? = some (.bool (V i).h)∧cs[i * 4+1]? = some (.int .i64 (V i).e)∧cs[i * 4+2]? = some (.int .u64 (V i).r)∧cs[i * 4+3]? = some (.bool (V i).b)
def vset (V:Nat→Ent) (i:Nat) (x:Ent):Nat→Ent:=fun j=>if j=i then x else V j
theorem VAt.cells {w:World} {g n:Nat} {V:Nat→Ent} (h:VAt w g n V) {i:Nat} (hi:i < n) :
  w.cell? ⟨g,i * 4,none⟩=some (.bool (V i).h)∧w.cell? ⟨g,i * 4+1,none⟩=some (.int .i64 (V i).e)∧w.cell? ⟨g,i * 4+2,none⟩=some (.int .u64 (V i).r)∧w.cell? ⟨g,i * 4+3,none⟩=some (.bool (V i).b):=by
 obtain ⟨cs,hb,_,hc⟩:=h;obtain ⟨h0,h1,h2,h3⟩:=hc i hi;exact ⟨(cel hb _).trans h0,(cel hb _).trans h1,(cel hb _).trans h2,(cel hb _).trans h3⟩
theorem VAt.frozen {w:World} {g n:Nat} {V:Nat→Ent} (h:VAt w g n V) (i:Nat):w.frozen? ⟨g,i,none⟩=false:=by
 obtain ⟨cs,hb,_,_⟩:=h;exact frz hb i
theorem VAt.lt {w:World} {g n:Nat} {V:Nat→Ent} (h:VAt w g n V):g < w.heap.size:=by
 obtain ⟨cs,hb,_,_⟩:=h;exact (Array.getElem?_eq_some_iff.1 hb).1
theorem VAt.kept {w w':World} {g n:Nat} {V:Nat→Ent} {row:Option Nat} (h:VAt w g n V) (hg:w.grownBy w' row) (hne:row≠some g):VAt w' g n V:=by
 have hl:=h.lt;obtain ⟨cs,hb,h2,h3⟩:=h;exact ⟨cs,(hg.block g hl (fun e=>hne e.symm)).trans hb,h2,h3⟩
theorem gset (w:World) (g i:Nat) (v:Value):w.grownBy (w.setCell ⟨g,i,none⟩ v) (some g):=
 ⟨rfl,rfl,rfl,by simp,fun j _ hne=>heap_setCell_other _ _ _ _ (fun e=>hne (by rw [e]))⟩
theorem gtrans {a b c:World} {g:Nat} (h:a.grownBy b (some g)) (k:b.grownBy c (some g)):a.grownBy c (some g):=
 h.andThen k (fun _ e=>Or.inr e)
theorem VAt.put {w:World} {g n:Nat} {V:Nat→Ent} (h:VAt w g n V) {i:Nat} (hi:i < n) (x:Ent) :
  VAt ((((w.setCell ⟨g,i * 4,none⟩ (.bool x.h)).setCell ⟨g,i * 4+1,none⟩ (.int .i64 x.e)).setCell ⟨g,i * 4+2,none⟩ (.int .u64 x.r)).setCell ⟨g,i * 4+3,none⟩ (.bool x.b)) g n (vset V i x):=by
 obtain ⟨cs,hb,hs,hc⟩:=h;have h0:=heap_setCell_same w g (i * 4) cs 147 (.bool x.h) hb;have h1:=heap_setCell_same _ g (i * 4+1) _ 147 (.int .i64 x.e) h0;have h2:=heap_setCell_same _ g (i * 4+2) _ 147 (.int .u64 x.r) h1;have h3:=heap_setCell_same _ g (i * 4+3) _ 147 (.bool x.b) h2;refine ⟨_,h3,by simp [hs],fun j hj=>?_⟩;obtain ⟨c0,c1,c2,c3⟩:=hc j hj;simp only [Array.getElem?_setIfInBounds,Array.size_setIfInBounds,hs,vset];by_cases e:j=i
 ·subst e;simp only [if_true];refine ⟨?_,?_,?_,?_⟩
  ·rw [if_neg (by omega),if_neg (by omega),if_neg (by omega),if_pos (by omega)]
  ·rw [if_neg (by omega),if_neg (by omega),if_pos (by omega)]
  ·rw [if_neg (by omega),if_pos (by omega)]
  ·rw [if_pos (by omega)]
 ·rw [if_neg e];refine ⟨?_,?_,?_,?_⟩
  ·rw [if_neg (by omega),if_neg (by omega),if_neg (by omega),if_neg (by omega)];exact c0
  ·rw [if_neg (by omega),if_neg (by omega),if_neg (by omega),if_neg (by omega)];exact c1
  ·rw [if_neg (by omega),if_neg (by omega),if_neg (by omega),if_neg (by omega)];exact c2
  ·rw [if_neg (by omega),if_neg (by omega),if_neg (by omega),if_neg (by omega)];exact c3
theorem VAt.ban {w:World} {g n:Nat} {V:Nat→Ent} (h:VAt w g n V) {i:Nat} (hi:i < n) :
  VAt (w.setCell ⟨g,i * 4+3,none⟩ (.bool true)) g n (vset V i ⟨(V i).h,(V i).e,(V i).r,true⟩):=by
 obtain ⟨cs,hb,hs,hc⟩:=h;have h3:=heap_setCell_same w g (i * 4+3) cs 147 (.bool true) hb;refine ⟨_,h3,by simp [hs],fun j hj=>?_⟩;obtain ⟨c0,c1,c2,c3⟩:=hc j hj;simp only [Array.getElem?_setIfInBounds,hs,vset];by_cases e:j=i
 ·subst e;rw [if_pos rfl];refine ⟨?_,?_,?_,?_⟩
  ·rw [if_neg (by omega)];exact c0
  ·rw [if_neg (by omega)];exact c1
  ·rw [if_neg (by omega)];exact c2
  ·rw [if_pos rfl,if_pos (by omega)]
 ·rw [if_neg e];refine ⟨?_,?_,?_,?_⟩
  ·rw [if_neg (by omega)];exact c0
  ·rw [if_neg (by omega)];exact c1
  ·rw [if_neg (by omega)];exact c2
  ·rw [if_neg (by omega)];exact c3
section
variable {w:World} {g n:Nat} {V:Nat→Ent}
theorem take_no (h:VAt w g n V) (_:n≤4096) {i:Nat} (hi:i < n) (e r:Int) (hv:(V i).b=true∨(V i).h=true∧e≤(V i).e) :
  Calls Tryz.prog 58 #[.slice (some ⟨g,0,none⟩) n n,.int .i64 i,.int .i64 e,.int .u64 r] w fun z w'=>z=.returned (.bool false)∧w=w':=by
 obtain ⟨c0,c1,c2,c3⟩:=h.cells hi;clear h;have g1:decide (n≤i)=false:=decide_eq_false (by omega);obtain ⟨x,hx⟩ : ∃ x,x=V i:=⟨_,rfl⟩;rw [← hx] at c0 c1 c2 c3 hv;clear hx;obtain ⟨xh,xe,xr,xb⟩:=x;simp only at c0 c1 c2 c3 hv;cases xb with
 | true=>
  clear hv;go_enter Tryz.func58,Tryz.ntmps58
  go_wp2;go_ret;exact ⟨rfl,rfl⟩
 | false=>
  obtain ⟨rfl,hle⟩:=hv.resolve_left (by decide);have g2:decide (e≤xe)=true:=decide_eq_true hle;clear hv;go_enter Tryz.func58,Tryz.ntmps58
  go_wp2;go_ret;exact ⟨rfl,rfl⟩
theorem take_yes (h:VAt w g n V) (_:n≤4096) {i:Nat} (hi:i < n) (e r:Int) (hb:(V i).b=false) (hv:(V i).h=true→(V i).e < e) :
  Calls Tryz.prog 58 #[.slice (some ⟨g,0,none⟩) n n,.int .i64 i,.int .i64 e,.int .u64 r] w fun z w'=>z=.returned (.bool true)∧VAt w' g n (vset V i ⟨true,e,r,false⟩)∧w.grownBy w' (some g):=by
 have hput:=h.put hi ⟨true,e,r,false⟩;have f0:=h.frozen (i * 4);have f1:=h.frozen (i * 4+1);have f2:=h.frozen (i * 4+2);have f3:=h.frozen (i * 4+3);obtain ⟨c0,c1,c2,c3⟩:=h.cells hi;have HP:=lh hput;clear h hput;have g1:decide (n≤i)=false:=decide_eq_false (by omega);obtain ⟨x,hx⟩ : ∃ x,x=V i:=⟨_,rfl⟩;rw [← hx] at c0 c1 c2 c3 hv hb;clear hx;obtain ⟨xh,xe,xr,xb⟩:=x;simp only at c0 c1 c2 c3 hv hb;subst hb;cases xh with
 | false=>
  clear hv;go_enter Tryz.func58,Tryz.ntmps58
  go_wp2;go_ret;exact ⟨rfl,HP.out,gtrans (gtrans (gtrans (gset _ _ _ _) (gset _ _ _ _)) (gset _ _ _ _)) (gset _ _ _ _)⟩
 | true=>
  have hlt:=hv rfl;have g2:decide (e≤xe)=false:=decide_eq_false (by omega);clear hv;go_enter Tryz.func58,Tryz.ntmps58
  go_wp2;go_ret;exact ⟨rfl,HP.out,gtrans (gtrans (gtrans (gset _ _ _ _) (gset _ _ _ _)) (gset _ _ _ _)) (gset _ _ _ _)⟩
theorem ban_no (h:VAt w g n V) (_:n≤4096) {i:Nat} (hi:i < n) (hb:(V i).b=true) :
  Calls Tryz.prog 60 #[.slice (some ⟨g,0,none⟩) n n,.int .i64 i] w fun z w'=>z=.returned (.bool false)∧w=w':=by
 obtain ⟨c0,c1,c2,c3⟩:=h.cells hi;clear h;rw [hb] at c3;have g1:decide (n≤i)=false:=decide_eq_false (by omega);clear hb;go_enter Tryz.func60,Tryz.ntmps60
 go_wp2;go_ret;exact ⟨rfl,rfl⟩
theorem ban_yes (h:VAt w g n V) (_:n≤4096) {i:Nat} (hi:i < n) (hb:(V i).b=false) :
  Calls Tryz.prog 60 #[.slice (some ⟨g,0,none⟩) n n,.int .i64 i] w fun z w'=>z=.returned (.bool true)∧VAt w' g n (vset V i ⟨(V i).h,(V i).e,(V i).r,true⟩)∧w.grownBy w' (some g):=by
 have HP:=lh (h.ban hi);have f3:=h.frozen (i * 4+3);obtain ⟨c0,c1,c2,c3⟩:=h.cells hi;clear h;rw [hb] at c3;have g1:decide (n≤i)=false:=decide_eq_false (by omega);clear hb;go_enter Tryz.func60,Tryz.ntmps60
 go_wp2;go_ret;exact ⟨rfl,HP.out,gset _ _ _ _⟩
theorem get_in (h:VAt w g n V) (_:n≤4096) {i:Nat} (hi:i < n) :
  Calls Tryz.prog 57 #[.slice (some ⟨g,0,none⟩) n n,.int .i64 i] w fun z w'=>z=.returned (.tuple #[.int .u64 (if (V i).h && !(V i).b then (V i).r else 0),.bool ((V i).h && !(V i).b)])∧w=w':=by
 obtain ⟨c0,c1,c2,c3⟩:=h.cells hi;clear h;have g1:decide (n≤i)=false:=decide_eq_false (by omega);obtain ⟨x,hx⟩ : ∃ x,x=V i:=⟨_,rfl⟩;rw [← hx] at c0 c1 c2 c3 ⊢;clear hx;obtain ⟨xh,xe,xr,xb⟩:=x;simp only at c0 c1 c2 c3;cases xh <;> cases xb
 all_goals
  go_enter Tryz.func57,Tryz.ntmps57
  go_wp2;go_ret2;exact ⟨rfl,rfl⟩
end
def E0:Ent:=⟨false,0,0,false⟩
theorem info33':(Tryz.prog.info? 147).map (fun i=>(i.zero,i.size,i.bytes))=some (some (.agg #[(.bool false),(.int .i64 0),(.int .u64 0),(.bool false)]),4,32):=by kernel_rfl
theorem made_get (n i t:Nat) (hi:i < n) (ht:t < 4):(madeCells #[Value.bool false,.int .i64 0,.int .u64 0,.bool false] (n * 4))[i * 4+t]? = some ((#[Value.bool false,.int .i64 0,.int .u64 0,.bool false]:Array Value)[t]!):=by
 unfold madeCells;rw [Array.getElem?_map,Array.getElem?_range];rw [if_pos (by omega)];simp only [Option.map_some];have e:(#[Value.bool false,.int .i64 0,.int .u64 0,.bool false]:Array Value).size=4:=rfl;rw [e,show (i * 4+t) % 4=t by omega]
theorem VAt.made (w:World) (n:Nat):VAt (w.alloc (.cells (madeCells #[Value.bool false,.int .i64 0,.int .u64 0,.bool false] (n * 4)) 147)) w.heap.size n (fun _=>E0):=
 ⟨_,(MapKept.heap_alloc w _).1,by simp [size_madeCells],fun i hi=>⟨made_get n i 0 hi (by omega),made_get n i 1 hi (by omega),made_get n i 2 hi (by omega),made_get n i 3 hi (by omega)⟩⟩
theorem run_make33 (t:TypeId) (ht:Tryz.prog.underlying t=some (.slice 147)) (n:Nat) (hn:n≤4096) (w:World) :
  (Instr.makeSlice t (.int .i64 (n:Int)) (.int .i64 (n:Int))).run Tryz.prog w=.ok (.slice (some ⟨w.heap.size,0,none⟩) n n) (w.alloc (.cells (madeCells #[Value.bool false,.int .i64 0,.int .u64 0,.bool false] (n * 4)) 147)):=by
 obtain ⟨i0,hi,hz0,hz1,hz2⟩:=info_parts info33';have h:=run_make (P:=Tryz.prog) w t 147 i0 _ ht hi hz0 .i64 .i64 (n:Int) (n:Int) (by omega) (by omega) (by rw [hz2];omega) (by omega);rw [hz1] at h
 simpa [Value.cells] using h
attribute [local go_sem] max2' min2' max_two' min_two' in
theorem vof_calls (w:World) (n:Nat) (hn:n≤4096) :
  Calls Tryz.prog 29 #[.int .i64 (n:Int)] w fun z w'=>∃ g,z=.returned (.slice (some ⟨g,0,none⟩) n n)∧VAt w' g n (fun _=>E0)∧w.heap.size≤g∧w.grownBy w' none:=by
 have hm:=run_make33 73 Tryz.underlying73 n hn w;have h1:min (n:Int) 4096=n:=by omega
 have h2:max 0 (n:Int)=n:=by omega
 go_enter Tryz.func29,Tryz.ntmps29
 go_wp2;go_ret;exact ⟨_,rfl,VAt.made w n,Nat.le_refl _,World.grownBy_alloc _ _ _⟩
end Go.Proofs.YtndfpmboanohcaaGreatDoor
namespace Go.Proofs.YtndfpmboanohcaaGreatDoor
open Go.RowKit Go.Maps SkipPure
def takeB (x:Ent) (e:Int):Bool:=!(x.b || (x.h && decide (e≤x.e)))
def takeV (V:Nat→Ent) (i:Nat) (e r:Int):Nat→Ent:=if takeB (V i) e then vset V i ⟨true,e,r,false⟩ else V
section
variable {w:World} {g n:Nat} {V:Nat→Ent}
theorem take_any (h:VAt w g n V) (hn:n≤4096) {i:Nat} (hi:i < n) (e r:Int) :
  Calls Tryz.prog 58 #[.slice (some ⟨g,0,none⟩) n n,.int .i64 i,.int .i64 e,.int .u64 r] w fun z w'=>z=.returned (.bool (takeB (V i) e))∧VAt w' g n (takeV V i e r)∧w.grownBy w' (some g):=by
 unfold takeV;cases hT:takeB (V i) e with
 | false=>
  have hv:(V i).b=true∨(V i).h=true∧e≤(V i).e:=by
   unfold takeB at hT;cases hb:(V i).b with
   | true=>exact .inl rfl
   | false=>exact .inr (by simpa [hb] using hT)
  refine (take_no h hn hi e r hv).mono ?_;rintro z w' ⟨rfl,rfl⟩;exact ⟨rfl,h,gR _ _⟩
 | true=>
  have hv:(V i).b=false∧((V i).h=true→(V i).e < e):=by
   unfold takeB at hT;have k:(V i).b=false∧((V i).h=false∨(V i).e < e):=by simpa using hT
   refine ⟨k.1,fun hh=>?_⟩;rcases k.2 with k2 | k2
   ·rw [hh] at k2;cases k2
   ·exact k2
  refine (take_yes h hn hi e r hv.1 hv.2).mono ?_;rintro z w' ⟨rfl,h1,h2⟩;exact ⟨rfl,h1,h2⟩
end
end Go.Proofs.YtndfpmboanohcaaGreatDoor
namespace Go.Proofs.SrtU
open Go.RowKit Go.Sort
abbrev encU:Int→Value:=fun x=>Value.int .u64 x
theorem su_cmp_Less_int (x y:Int) (w:World):Calls Tryz.prog 99 #[.int .u64 x,.int .u64 y] w fun e w'=>e=.returned (.bool (Sort.ltInt x y))∧w'=w:=
 (YtndfpmboanohcaaGreatDoor.less_calls x y w).mono fun _ _ ⟨h1,h2⟩=>⟨h1,h2.symm⟩
theorem su_bits_Len (n:Int) (w:World) (h0:0≤n) (h1:n < 18446744073709551616):Calls Tryz.prog 89 #[.int .u64 n] w fun e w'=>e=.returned (.int .i64 (Lib.bitLen n.toNat:Nat))∧w'=w:=
 Any.bits_Len Tryz.bitsLen n w h0 (by omega)
theorem su_insertionSort_int (blk off cap a b:Nat) (d:Array Int) (w:World) (hH:Holds (Value.int .u64) w blk off d) (hab:a≤b) (hb:b≤d.size) (hsz:d.size < 4611686018427387904) :
  Calls Tryz.prog 93 #[.slice (some ⟨blk,off,none⟩) d.size cap,.int .i64 a,.int .i64 b] w fun e w'=>
   e=.returned (.tuple #[])∧∃ n,w'=putRow (Value.int .u64) (Sort.ahead w n) blk off (Sort.insertionSort ltInt d a b):=by
 go_enter Tryz.func93,Tryz.ntmps93
 go_wp2
 go_loopw [6] (fun vi wr=>∃ (i n:Nat) (dk:Array Int),vi=.int .i64 i∧a < i∧i≤b+1∧dk.size=d.size∧wr=putRow (Value.int .u64) (Sort.ahead w n) blk off dk ∧
   insOuter ltInt a b i dk=insOuter ltInt a b (a+1) d) (fun vi _=>b+1 - (intOf vi).toNat)
 case atStart=>exact ⟨a+1,0,d,by go_num,by omega,by omega,rfl,(putRow_self _ _ _ _ _ hH).symm,rfl⟩
 case round=>
  obtain ⟨i,n,dk,rfl,hai,hib,hsk,hwr,hO⟩:=hrel;have HO:Hid (insOuter ltInt a b i dk=insOuter ltInt a b (a+1) d):=hO;clear hO;go_wp2
  ·
   go_loopw [7] (fun vj wr2=>∃ (j m:Nat) (dj:Array Int),vj=.int .i64 j∧a≤j∧j≤i∧dj.size=d.size∧wr2=putRow (Value.int .u64) (Sort.ahead w m) blk off dj ∧
     insInner ltInt a j dj=insInner ltInt a i dk) (fun vj _=>(intOf vj).toNat)
   case atStart=>exact ⟨i,n,dk,rfl,by omega,Nat.le_refl _,hsk,rfl,rfl⟩
   case round=>
    obtain ⟨j,m,dj,rfl,haj,hji,hsj,hw2,hI⟩:=hrel;have hlt:i < b:=by assumption
    obtain ⟨G,hG⟩ : ∃ G:Nat→Int,∀ t,G t=dj[t]!:=⟨fun t=>dj[t]!,fun _=>rfl⟩;have hcw : ∀ t,t < d.size→wr.cell? ⟨blk,off+t,none⟩=some (.int .u64 (G t)):=fun t ht=>by
     rw [hw2,hG];exact cell?_putRow _ _ _ _ d dj (holds_ahead _ _ _ _ _ _ hH) hsj t (by omega)
    have hfw : ∀ t,t < d.size→wr.frozen? ⟨blk,off+t,none⟩=false:=fun t ht=>by
     rw [hw2,frozen?_putRow];exact ((holds_ahead _ _ m _ _ _ hH) t ht).2
    have HW:Hid (wr=putRow (Value.int .u64) (Sort.ahead w m) blk off dj):=hw2;have HG:Hid (∀ t,G t=dj[t]!):=hG;have HI:Hid (insInner ltInt a j dj=insInner ltInt a i dk):=hI;clear hw2 hG hI hH;have out:(j≤a∨ltInt dj[j]! dj[j - 1]! = false)→∀ q,∃ i' n' dk',Value.int .i64 ((i:Int)+1)=.int .i64 (i':Nat)∧a < i'∧i'≤b+1∧dk'.size=d.size ∧
      wr.drewN q=putRow (Value.int .u64) (Sort.ahead w n') blk off dk'∧insOuter ltInt a b i' dk'=insOuter ltInt a b (a+1) d:=fun hs q=>
     ⟨i+1,m+q,dj,by go_num,by omega,by omega,hsj,by rw [HW.out];exact putRow_drewN _ _ _ _ _ _ _,
      by rw [← HO.out,insOuter_go _ _ _ _ _ hlt,← HI.out,insInner_stop _ _ _ _ hs]⟩
    have OUT:Hid _:=out;clear out;go_wp2;by_cases hja:a < j
    ·go_quiet (first | (go_at_call 99;refine Calls.quiet_of_same (su_cmp_Less_int _ _ _)))
     go_wp2
     ·
      have hl:ltInt (G j) (G (j - 1))=true:=by assumption
      go_region
      all_goals go_wp2
      go_roundw
      case rel=>
       refine ⟨j - 1,m+(nq+1),swp dj j (j - 1),by congr 1;omega,by omega,by omega,by rw [size_swp];exact hsj,?_,?_⟩
       ·rw [HW.out,HG.out,HG.out];exact swap_worldA _ w m (nq+1) blk off dj j (j - 1) (by omega) (by omega)
       ·rw [← HI.out,insInner_go ltInt a j dj hja (by rw [← HG.out,← HG.out];exact hl)]
      case measure=>simp [intOf];omega
     ·
      have hl:ltInt (G j) (G (j - 1))=false:=by assumption
      go_roundw
      case rel=>exact OUT.out (Or.inr (by rw [← HG.out,← HG.out];exact hl)) nq
      case measure=>simp [intOf];omega
    ·go_quiet (first | (go_at_call 99;refine Calls.quiet_of_same (su_cmp_Less_int _ _ _)))
     go_wp2
     go_roundw
     case rel=>exact OUT.out (Or.inl (by omega)) nq
     case measure=>simp [intOf];omega
  ·
   have hge:¬ i < b:=by assumption
   go_end0
   exact ⟨rfl,n,by unfold Sort.insertionSort;rw [← HO.out,insOuter_stop _ _ _ _ _ hge]⟩
set_option maxHeartbeats 1600000 in
set_option maxRecDepth 1000000 in
theorem su_reverseRange_int (blk off cap:Nat) (d:Array Int) (a b:Nat) (w:World) (hH:Holds encU w blk off d) (hab:a≤b) (hb:b≤d.size) (hsz:d.size < 4611686018427387904) :
  Calls Tryz.prog 97 #[.slice (some ⟨blk,off,none⟩) d.size cap,.int .i64 a,.int .i64 b] w fun e w'=>e=.returned (.tuple #[])∧∃ n,w'=putRow encU (Sort.ahead w n) blk off (reverseRange d a b):=by
 go_enter Tryz.func97,Tryz.ntmps97
 go_wp2
 go_loopg [6,7] (b - a) (fun k s6 s7 wr=>∃ (i jn:Nat) (jz:Int) (dk:Array Int) (n:Nat),s6=.int .i64 i∧s7=.int .i64 jz∧((i:Int) < jz→jz=jn∧jn < d.size)∧(¬ (i:Int) < jz→¬ i < jn)∧jn - i≤k ∧
  dk.size=d.size∧wr=putRow encU (Sort.ahead w n) blk off dk∧reverseLoop i jn dk=reverseLoop a (b - 1) d)
 case atStart=>exact ⟨a,b - 1,(b:Int) - 1,d,0,rfl,rfl,fun h=>⟨by omega,by omega⟩,fun h=>by omega,by omega,rfl,(putRow_self encU w blk off d hH).symm,rfl⟩
 case round=>
  obtain ⟨i,jn,jz,dk,n,rfl,rfl,h1,h2,hk,hds,hwr,heq⟩:=hrel;by_cases hlt:(i:Int) < jz
  ·obtain ⟨rfl,hjn⟩:=h1 hlt;have hij:i < jn:=by omega
   have hHk:Holds encU wr blk off dk:=by rw [hwr];exact holds_putRow encU _ blk off d dk (holds_ahead encU w n blk off d hH) hds
   obtain ⟨ci,fi⟩:=hHk i (by omega);obtain ⟨cj,fj⟩:=hHk jn (by omega);have A:Aside (wr=putRow encU (Sort.ahead w n) blk off dk):=hwr;clear hwr hHk hH h1 h2;go_wp2_with fail
   go_region
   go_wp2
   go_roundg (jn - 1 - (i+1))
   case measure=>omega
   case rel=>
    rw [reverseLoop,if_pos hij] at heq;exact ⟨i+1,jn - 1,(jn:Int) - 1,swp dk i jn,n+1,by simp,rfl,fun h=>⟨by omega,by omega⟩,fun h=>by omega,Nat.le_refl _,by rw [size_swp];exact hds,
     swap_world encU (by omega) (by omega) A.out (by simp [encU,getElem!_pos,show jn < dk.size by omega]) rfl,heq⟩
  ·have hnot:=h2 hlt;go_wp2
   go_end0
   refine ⟨rfl,n,?_⟩;rw [reverseLoop,if_neg hnot] at heq;rw [reverseRange,← heq]
set_option maxHeartbeats 3200000 in
set_option maxRecDepth 1000000 in
theorem su_siftDown_int (blk off len cap:Nat) (d:Array Int) (hlen:d.size=len) (lo hi first:Nat) (w:World) (hH:Holds encU w blk off d) (hlo:lo≤hi) (hb:first+hi≤d.size) (hsz:d.size < 4611686018427387904) :
  Calls Tryz.prog 113 #[.slice (some ⟨blk,off,none⟩) len cap,.int .i64 lo,.int .i64 hi,.int .i64 first] w fun e w'=>e=.returned (.tuple #[])∧∃ n,w'=putRow encU (Sort.ahead w n) blk off (siftDown ltInt hi first lo d):=by
 subst hlen;go_enter Tryz.func113,Tryz.ntmps113
 go_wp2
 go_loopg [8] (hi - lo) (fun k s8 wr=>∃ (root:Nat) (dk:Array Int) (n:Nat),s8=.int .i64 root∧root≤hi∧hi - root≤k∧dk.size=d.size∧wr=putRow encU (Sort.ahead w n) blk off dk∧siftDown ltInt hi first root dk=siftDown ltInt hi first lo d)
 case atStart=>exact ⟨lo,d,0,rfl,hlo,Nat.le_refl _,rfl,(putRow_self encU w blk off d hH).symm,rfl⟩
 case round=>
  obtain ⟨root,dk,n,rfl,hr,hk,hds,hwr,heq⟩:=hrel;have hHk:Holds encU wr blk off dk:=by rw [hwr];exact holds_putRow encU _ blk off d dk (holds_ahead encU w n blk off d hH) hds
  have hcw : ∀ t,t < d.size→wr.cell? ⟨blk,off+t,none⟩=some (.int .u64 dk[t]!):=fun t ht=>(hHk t (by omega)).1;have hfw : ∀ t,t < d.size→wr.frozen? ⟨blk,off+t,none⟩=false:=fun t ht=>(hHk t (by omega)).2;have A:Aside (wr=putRow encU (Sort.ahead w n) blk off dk):=hwr;clear hwr hH hHk;by_cases h0:hi≤2 * root+1
  ·
   have h0z:(hi:Int)≤2 * (root:Int)+1:=by omega
   go_wp2
   go_end0
   refine ⟨rfl,n,?_⟩;rw [A.out,← heq,sd_end ltInt dk h0]
  ·
   have h0z:¬ ((hi:Int)≤2 * (root:Int)+1):=by omega
   by_cases h1:2 * root+2 < hi
   ·have h1z:2 * (root:Int)+1+1 < (hi:Int):=by omega
    go_wp2_with fail
    go_big_quiet (first | (go_at_call 99;refine Calls.quiet_of_same (su_cmp_Less_int _ _ _)))
    go_wp2_with fail
    ·
     have hL:ltInt dk[first+2 * root+1]! dk[first+2 * root+2]! = true:=by assumption
     revert nq;intro nq1
     have hcw2 : ∀ t,t < d.size→(wr.drewN nq1).cell? ⟨blk,off+t,none⟩=some (.int .u64 dk[t]!):=hcw;have hfw2 : ∀ t,t < d.size→(wr.drewN nq1).frozen? ⟨blk,off+t,none⟩=false:=hfw;have A2:Aside (wr.drewN nq1=putRow encU (Sort.ahead w (n+nq1)) blk off dk):=drewN_world encU A.out nq1;clear hcw hfw A;generalize wr.drewN nq1=wr2 at hcw2 hfw2 A2 ⊢;go_big_quiet (first | (go_at_call 99;refine Calls.quiet_of_same (su_cmp_Less_int _ _ _)))
     go_wp2_with fail
     ·
      have hS:ltInt dk[first+root]! dk[first+2 * root+2]! = false:=by
       have : (!ltInt dk[first+root]! dk[first+2 * root+2]!)=true:=by assumption
       simpa using this
      (try simp only [Exit.inBlock,Exit.then]);refine bodyPost_ret (results_none rfl _ _ _) rfl ?_
      refine ⟨rfl,n+nq1+nq,?_⟩;rw [drewN_world encU A2.out nq,← heq,sd_right_stop ltInt dk h1 hL hS]
     ·
      have hG:ltInt dk[first+root]! dk[first+2 * root+2]! = true:=by
       have : (!ltInt dk[first+root]! dk[first+2 * root+2]!)=false:=by assumption
       simpa using this
      have hcw3 : ∀ t,t < d.size→(wr2.drewN nq).cell? ⟨blk,off+t,none⟩=some (.int .u64 dk[t]!):=hcw2;have hfw3 : ∀ t,t < d.size→(wr2.drewN nq).frozen? ⟨blk,off+t,none⟩=false:=hfw2;have A3:Aside (wr2.drewN nq=putRow encU (Sort.ahead w (n+nq1+nq)) blk off dk):=drewN_world encU A2.out nq;clear hcw2 hfw2 A2;generalize wr2.drewN nq=wr3 at hcw3 hfw3 A3 ⊢
      go_region
      go_wp2
      go_roundg (hi - (2 * root+2))
      case measure=>omega
      case rel=>
       refine ⟨2 * root+2,swp dk (first+root) (first+(2 * root+1+1)),n+nq1+nq+1,by simp <;> omega,by omega,Nat.le_refl _,by rw [size_swp];exact hds,swap_world encU (by omega) (by omega) A3.out rfl rfl,?_⟩;rw [← heq,sd_right_go ltInt dk h1 hL hG]
    ·
     have hL:ltInt dk[first+2 * root+1]! dk[first+2 * root+2]! = false:=by assumption
     revert nq;intro nq1
     have hcw2 : ∀ t,t < d.size→(wr.drewN nq1).cell? ⟨blk,off+t,none⟩=some (.int .u64 dk[t]!):=hcw;have hfw2 : ∀ t,t < d.size→(wr.drewN nq1).frozen? ⟨blk,off+t,none⟩=false:=hfw;have A2:Aside (wr.drewN nq1=putRow encU (Sort.ahead w (n+nq1)) blk off dk):=drewN_world encU A.out nq1;clear hcw hfw A;generalize wr.drewN nq1=wr2 at hcw2 hfw2 A2 ⊢;go_big_quiet (first | (go_at_call 99;refine Calls.quiet_of_same (su_cmp_Less_int _ _ _)))
     go_wp2_with fail
     ·
      have hS:ltInt dk[first+root]! dk[first+2 * root+1]! = false:=by
       have : (!ltInt dk[first+root]! dk[first+2 * root+1]!)=true:=by assumption
       simpa using this
      (try simp only [Exit.inBlock,Exit.then]);refine bodyPost_ret (results_none rfl _ _ _) rfl ?_
      refine ⟨rfl,n+nq1+nq,?_⟩;rw [drewN_world encU A2.out nq,← heq,sd_left_stop ltInt dk (by omega) (fun _=>hL) hS]
     ·
      have hG:ltInt dk[first+root]! dk[first+2 * root+1]! = true:=by
       have : (!ltInt dk[first+root]! dk[first+2 * root+1]!)=false:=by assumption
       simpa using this
      have hcw3 : ∀ t,t < d.size→(wr2.drewN nq).cell? ⟨blk,off+t,none⟩=some (.int .u64 dk[t]!):=hcw2;have hfw3 : ∀ t,t < d.size→(wr2.drewN nq).frozen? ⟨blk,off+t,none⟩=false:=hfw2;have A3:Aside (wr2.drewN nq=putRow encU (Sort.ahead w (n+nq1+nq)) blk off dk):=drewN_world encU A2.out nq;clear hcw2 hfw2 A2;generalize wr2.drewN nq=wr3 at hcw3 hfw3 A3 ⊢
      go_region
      go_wp2
      go_roundg (hi - (2 * root+1))
      case measure=>omega
      case rel=>
       refine ⟨2 * root+1,swp dk (first+root) (first+(2 * root+1)),n+nq1+nq+1,by simp <;> omega,by omega,Nat.le_refl _,by rw [size_swp];exact hds,swap_world encU (by omega) (by omega) A3.out rfl rfl,?_⟩;rw [← heq,sd_left_go ltInt dk (by omega) (fun _=>hL) hG]
   ·
    have h1z:decide (2 * (root:Int)+1+1 < (hi:Int))=false:=decide_eq_false (by omega);go_wp2_with fail
    go_big_quiet (first | (go_at_call 99;refine Calls.quiet_of_same (su_cmp_Less_int _ _ _)))
    go_wp2_with fail
    revert nq;intro nq1
    have hcw2 : ∀ t,t < d.size→(wr.drewN nq1).cell? ⟨blk,off+t,none⟩=some (.int .u64 dk[t]!):=hcw;have hfw2 : ∀ t,t < d.size→(wr.drewN nq1).frozen? ⟨blk,off+t,none⟩=false:=hfw;have A2:Aside (wr.drewN nq1=putRow encU (Sort.ahead w (n+nq1)) blk off dk):=drewN_world encU A.out nq1;clear hcw hfw A;generalize wr.drewN nq1=wr2 at hcw2 hfw2 A2 ⊢;go_big_quiet (first | (go_at_call 99;refine Calls.quiet_of_same (su_cmp_Less_int _ _ _)))
    go_wp2_with fail
    ·
     have hS:ltInt dk[first+root]! dk[first+2 * root+1]! = false:=by
      have : (!ltInt dk[first+root]! dk[first+2 * root+1]!)=true:=by assumption
      simpa using this
     (try simp only [Exit.inBlock,Exit.then]);refine bodyPost_ret (results_none rfl _ _ _) rfl ?_
     refine ⟨rfl,n+nq1+nq,?_⟩;rw [drewN_world encU A2.out nq,← heq,sd_left_stop ltInt dk (by omega) (fun h=>absurd h h1) hS]
    ·
     have hG:ltInt dk[first+root]! dk[first+2 * root+1]! = true:=by
      have : (!ltInt dk[first+root]! dk[first+2 * root+1]!)=false:=by assumption
      simpa using this
     have hcw3 : ∀ t,t < d.size→(wr2.drewN nq).cell? ⟨blk,off+t,none⟩=some (.int .u64 dk[t]!):=hcw2;have hfw3 : ∀ t,t < d.size→(wr2.drewN nq).frozen? ⟨blk,off+t,none⟩=false:=hfw2;have A3:Aside (wr2.drewN nq=putRow encU (Sort.ahead w (n+nq1+nq)) blk off dk):=drewN_world encU A2.out nq;clear hcw2 hfw2 A2;generalize wr2.drewN nq=wr3 at hcw3 hfw3 A3 ⊢
     go_region
     go_wp2
     go_roundg (hi - (2 * root+1))
     case measure=>omega
     case rel=>
      refine ⟨2 * root+1,swp dk (first+root) (first+(2 * root+1)),n+nq1+nq+1,by simp <;> omega,by omega,Nat.le_refl _,by rw [size_swp];exact hds,swap_world encU (by omega) (by omega) A3.out rfl rfl,?_⟩;rw [← heq,sd_left_go ltInt dk (by omega) (fun h=>absurd h h1) hG]
set_option maxHeartbeats 3200000 in
set_option maxRecDepth 1000000 in
theorem su_heapSort_int (blk off len cap:Nat) (d:Array Int) (hlen:d.size=len) (a b:Nat) (w:World) (hH:Holds encU w blk off d) (hab:a≤b) (hb:b≤d.size) (hsz:d.size < 4611686018427387904) :
  Calls Tryz.prog 94 #[.slice (some ⟨blk,off,none⟩) len cap,.int .i64 a,.int .i64 b] w fun e w'=>e=.returned (.tuple #[])∧∃ n,w'=putRow encU (Sort.ahead w n) blk off (heapSort ltInt d a b):=by
 subst hlen;have ecast:((b - a:Nat):Int)=(b:Int) - (a:Int):=by omega
 go_enter Tryz.func94,Tryz.ntmps94
 go_wp2
 go_loopg [9] ((b - a - 1) / 2+1) (fun k s9 wr=>s9=.int .i64 ((k:Int) - 1)∧k≤(b - a - 1) / 2+1∧∃ (dk:Array Int) (n:Nat),dk.size=d.size∧wr=putRow encU (Sort.ahead w n) blk off dk ∧
  heapBuild ltInt (b - a) a k dk=heapBuild ltInt (b - a) a ((b - a - 1) / 2+1) d)
 case atStart=>exact ⟨by rw [half_start hab],Nat.le_refl _,d,0,rfl,(putRow_self encU w blk off d hH).symm,rfl⟩
 case round=>
  obtain ⟨rfl,hkk,dk,n,hds,hwr,heq⟩:=hrel;have hHk:Holds encU wr blk off dk:=by rw [hwr];exact holds_putRow encU _ blk off d dk (holds_ahead encU w n blk off d hH) hds
  have A:Aside (wr=putRow encU (Sort.ahead w n) blk off dk):=hwr;clear hwr;cases gk with
  | zero=>
   have hB:dk=heapBuild ltInt (b - a) a ((b - a - 1) / 2+1) d:=heq;clear heq hHk hkk;go_wp2
   go_loopg [10] (b - a) (fun k s10 wr2=>s10=.int .i64 ((k:Int) - 1)∧k≤b - a∧∃ (dj:Array Int) (n2:Nat),dj.size=d.size∧wr2=putRow encU (Sort.ahead w n2) blk off dj∧heapPop ltInt a k dj=heapPop ltInt a (b - a) dk)
   case atStart=>exact ⟨by rw [ecast],Nat.le_refl _,dk,n,hds,A.out,rfl⟩
   case round=>
    obtain ⟨rfl,hkk,dj,n2,hdj,hwr2,heq2⟩:=hrel;cases gk with
    | zero=>
     go_wp2
     go_end0
     refine ⟨rfl,n2,?_⟩;have e:dj=heapSort ltInt d a b:=by rw [heapSort,← hB,← heq2];rfl
     rw [← e]
    | succ k=>
     have hHj:Holds encU wr blk off dj:=by rw [hwr2];exact holds_putRow encU _ blk off d dj (holds_ahead encU w n2 blk off d hH) hdj
     have hcw : ∀ t,t < d.size→wr.cell? ⟨blk,off+t,none⟩=some (.int .u64 dj[t]!):=fun t ht=>(hHj t (by omega)).1;have hfw : ∀ t,t < d.size→wr.frozen? ⟨blk,off+t,none⟩=false:=fun t ht=>(hHj t (by omega)).2;have A2:Aside (wr=putRow encU (Sort.ahead w n2) blk off dj):=hwr2;clear hwr2 hHj;rcases Nat.eq_zero_or_pos k with hk0 | hkp
     ·subst hk0;go_wp2_with fail
      go_region
      go_wp2_with fail
      rw [swap_world encU (i:=a) (j:=a) (by omega) (by omega) A2.out rfl rfl];refine (su_siftDown_int blk off d.size cap (swp dj a (a)) (by rw [size_swp];exact hdj) 0 0 a _ (holds_putRow encU _ blk off d _ (holds_ahead encU w (n2+1) blk off d hH) (by rw [size_swp];exact hdj)) (Nat.zero_le _) (by rw [size_swp];omega) (by rw [size_swp];omega)).mono ?_;rintro e w1 ⟨rfl,m,hw1⟩;go_wp2
      go_roundg 0
      case measure=>omega
      case rel=>
       refine ⟨by simp,by omega,siftDown ltInt 0 a 0 (swp dj a (a)),n2+1+m,by rw [size_siftDown ltInt _ _ _ _ _ (Nat.le_refl _),size_swp];exact hdj,?_,heq2⟩;first
        | rw [hw1,putRow_ahead_putRow encU w (n2+1) m blk off _ _ (size_siftDown ltInt _ _ _ _ _ (Nat.le_refl _))]
        | rw [putRow_ahead_putRow encU w (n2+1) m blk off _ _ (size_siftDown ltInt _ _ _ _ _ (Nat.le_refl _))]
     ·skip;go_wp2_with fail
      go_region
      go_wp2_with fail
      rw [swap_world encU (i:=a) (j:=a+k) (by omega) (by omega) A2.out rfl rfl];refine (su_siftDown_int blk off d.size cap (swp dj a (a+k)) (by rw [size_swp];exact hdj) 0 k a _ (holds_putRow encU _ blk off d _ (holds_ahead encU w (n2+1) blk off d hH) (by rw [size_swp];exact hdj)) (Nat.zero_le _) (by rw [size_swp];omega) (by rw [size_swp];omega)).mono ?_;rintro e w1 ⟨rfl,m,hw1⟩;go_wp2
      go_roundg k
      case measure=>omega
      case rel=>
       refine ⟨by simp,by omega,siftDown ltInt k a 0 (swp dj a (a+k)),n2+1+m,by rw [size_siftDown ltInt _ _ _ _ _ (Nat.le_refl _),size_swp];exact hdj,?_,heq2⟩;first
        | rw [hw1,putRow_ahead_putRow encU w (n2+1) m blk off _ _ (size_siftDown ltInt _ _ _ _ _ (Nat.le_refl _))]
        | rw [putRow_ahead_putRow encU w (n2+1) m blk off _ _ (size_siftDown ltInt _ _ _ _ _ (Nat.le_refl _))]
  | succ k=>
   have hcall:=su_siftDown_int blk off d.size cap dk hds k (b - a) a wr hHk (by omega) (by omega) (by omega);rw [ecast] at hcall;go_wp2_with (go_at_call 113;refine hcall.mono ?_;rintro e w1 ⟨rfl,m,hw1⟩)
   go_roundg k
   case measure=>omega
   case rel=>
    refine ⟨by simp,by omega,siftDown ltInt (b - a) a k dk,n+m,by rw [size_siftDown ltInt _ _ _ _ _ (Nat.le_refl _)];exact hds,?_,heq⟩;rw [A.out,putRow_ahead_putRow encU w n m blk off dk _ (size_siftDown ltInt _ _ _ _ _ (Nat.le_refl _))]
end Go.Proofs.SrtU
