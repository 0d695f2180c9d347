/- A load of a wide struct, as one step. -/
import Derived.Test.YtndfpmboanohcaaGreatDoorSto3ToReg2
namespace Go.Proofs.YtndfpmboanohcaaGreatDoor
open Go
theorem run_loadVar_blk {P:Program} {w:World} {g off:Nat} {full:Array Value} {T ty:TypeId} (h:Blk w g full T) (d:TypeDesc)
  (hu:P.underlying ty=some d) (hd:(match d with | .struct _ | .array _ _=>true | _=>false)=true) (cs:Array Value) (hi:(P.info? ty).map (·.size)=some cs.size) (hcs:(full.toList.drop off).take cs.size=cs.toList) :
  (loadVar ty ⟨g,off,none⟩).run P w=.ok (.agg cs) w:=by
 have hl:(loadCells ⟨g,off,none⟩ cs.toList.length).run P w=.ok cs.toList.toArray w:=
  run_loadCells_list (P:=P) (w:=w) ⟨g,off,none⟩ cs.toList (fun j v hv=>by
   have hadd:(⟨g,off,none⟩:Addr).add j=⟨g,off+j,none⟩:=by unfold Addr.add;split <;> simp_all
   rw [hadd,Blk.at h,← hcs] at *;rw [← hv,List.getElem?_take];split
   ·simp
   ·next hn=>
    rw [List.getElem?_take,if_neg hn] at hv;cases hv)
 cases hq:P.info? ty with
 | none=>simp [hq] at hi
 | some i=>
  have hs:i.size=cs.size:=by simpa [hq] using hi
  have hagg:(isAgg ty).run P w=.ok true w:=by
   unfold isAgg;rw [Sem.run_bind,run_underlying hu w];cases d <;> simp_all
  simp only [Array.length_toList,Array.toArray_toList] at hl;simp [loadVar,Sem.run_bind,hagg,sizeOf,typeInfo,hq,hs,hl]
theorem exec_load_blk {P:Program} {o:Oper} {a:Act} {w:World} {g off:Nat} {full:Array Value} {T ty:TypeId} (h:Blk w g full T) (ho : ∃ x,o.op=.load ty x∧a.eval x=.pointer (some ⟨g,off,none⟩)) (d:TypeDesc)
  (hu:P.underlying ty=some d) (hd:(match d with | .struct _ | .array _ _=>true | _=>false)=true) (cs:Array Value) (hi:(P.info? ty).map (·.size)=some cs.size) (hcs:(full.toList.drop off).take cs.size=cs.toList) :
  (execOp a.eval o).run P w=.ok (.value (.agg cs)) w:=by
 obtain ⟨x,ho,hx⟩:=ho;unfold execOp;simp only [ho,hx,Instr.loadAt,Instr.sureAddr,Sem.run_bind,Sem.run_pure,Result.andThen_ok,run_loadVar_blk h d hu hd cs hi hcs]
theorem exec_load_all {P:Program} {o:Oper} {a:Act} {w:World} {g:Nat} {cs:Array Value} {T ty:TypeId} (h:Blk w g cs T) (ho : ∃ x,o.op=.load ty x∧a.eval x=.pointer (some ⟨g,0,none⟩)) (d:TypeDesc)
  (hu:P.underlying ty=some d) (hd:(match d with | .struct _ | .array _ _=>true | _=>false)=true) (hi:(P.info? ty).map (·.size)=some cs.size) :
  (execOp a.eval o).run P w=.ok (.value (.agg cs)) w:=exec_load_blk h ho d hu hd cs hi (by simp [← Array.length_toList])
theorem wpList_load_blk {P:Program} {ops:Array Oper} {rest:List Oper} {o:Oper} {a:Act} {w:World} {Q:Exit→Act→World→Prop} {g off:Nat} {full:Array Value} {T ty:TypeId} (h:Blk w g full T) (hgd:o.guard=none) (x:Operand) (ho:o.op=.load ty x) (hx:a.eval x=.pointer (some ⟨g,off,none⟩)) (d:TypeDesc)
  (hu:P.underlying ty=some d) (hd:(match d with | .struct _ | .array _ _=>true | _=>false)=true) (cs:Array Value) (hi:(P.info? ty).map (·.size)=some cs.size) (hcs:(full.toList.drop off).take cs.size=cs.toList)
  (hK:wpList P ops Q rest (a.put o.dst (.agg cs)) w):wpList P ops Q (o :: rest) a w:=
 wpList_plain hgd fun K' hK'=>by
  unfold Oper.wp;rw [exec_load_blk h ⟨x,ho,hx⟩ d hu hd cs hi hcs];exact hK' _ _ hK
theorem step_store_blk {P:Program} {ops:Array Oper} {o:Oper} {a:Act} {w:World} {K:Act→World→Prop} {Q:Exit→Act→World→Prop} {E:Prop} {g:Nat} {old:Array Value} {T ty:TypeId} (h:Blk w g old T) (hgd:o.guard=none)
  (cells:Array Value) (ho : ∃ x y,o.op=.store ty x y∧a.eval x=.pointer (some ⟨g,0,none⟩)∧a.eval y=.agg cells) (hi:(P.info? ty).map (·.size)=some cells.size) (hold:old.size=cells.size) (h1:cells.all (·.oneCell')=true)
  (hK : ∀ w',Blk w' g cells T→w.grownBy w' (some g)→K (a.put o.dst undef) w'):if Region.wanted o (yielded ops a.tmps)=true then Oper.wp P o a w K Q else E:=by
 have hw:Region.wanted o (yielded ops a.tmps)=true:=by simp [Region.wanted,hgd]
 rw [if_pos hw];obtain ⟨x,y,ho,hx,hy⟩:=ho;exact wp_store_row ty x y ho g cells hx hy T old h hi hold h1 (hK _ (setRow_heap w g old cells T (0,0) h) ⟨rfl,rfl,rfl,by simp,fun k _ hk=>setRow_other w g k cells (fun e=>hk (by rw [e]))⟩)
theorem wpList_store_new {P:Program} {ops:Array Oper} {rest:List Oper} {o:Oper} {a:Act} {w:World} {Q:Exit→Act→World→Prop} {old:Array Value} {T ty:TypeId} (hgd:o.guard=none)
  (cells:Array Value) (ho : ∃ x y,o.op=.store ty x y∧a.eval x=.pointer (some ⟨w.heap.size,0,none⟩)∧a.eval y=.agg cells) (hi:(P.info? ty).map (·.size)=some cells.size) (hold:old.size=cells.size) (h1:cells.all (·.oneCell')=true)
  (hK : ∀ w',Blk w' w.heap.size cells T→w.grownBy w' none→wpList P ops Q rest (a.put o.dst undef) w'):wpList P ops Q (o :: rest) a (w.alloc (.cells old T)):=by
 obtain ⟨x,y,ho,hx,hy⟩:=ho;have hb:=Blk.alloc w old T;refine wpList_store_row hgd ty x y ho w.heap.size cells hx hy T old hb hi hold h1 (hK _ (setRow_heap _ w.heap.size old cells T (0,0) hb) ?_);have g1:=World.grownBy_alloc w (.cells old T) none;exact ⟨g1.os,g1.tape,g1.output,by simp,fun k hk _=>(setRow_other _ w.heap.size k cells (by omega)).trans (g1.block k hk (by simp))⟩
end Go.Proofs.YtndfpmboanohcaaGreatDoor
namespace Go.Proofs.YtndfpmboanohcaaGreatDoor
set_option maxRecDepth 100000
open Go.RowKit Go.Maps SkipPure
theorem WellT.set {f:Int} {F:Int→Option (Int×Int×Int)} (W:WellT f F) {r q s qq qs qh:Int} (hr:inU r) (hF:F q=some (qq,qs,qh)) (hn:F r=none) (hs:qs < s) (hs1:s≤1099511627776) (hh:qh < 1000000):WellT f (tset F r (q,s,qh+1)):=by
 have hqr:q≠r:=fun e=>by rw [e,hn] at hF;cases hF
 have hq:=W.slot q _ hF;have hq2:=W.hgt q _ hF;simp only at hq hq2;refine ⟨?_,?_,?_,?_,?_⟩
 ·have:=W.first
  unfold tset;split
  ·rfl
  ·exact this
 ·intro j y hy hj;unfold tset at hy ⊢;split at hy
  ·obtain rfl:=Option.some.inj hy;simp only;rw [if_neg hqr];exact ⟨_,hF,hs⟩
  ·obtain ⟨z,hz,hlt⟩:=W.up j y hy hj;rw [if_neg (fun e=>by rw [e,hn] at hz;cases hz)];exact ⟨z,hz,hlt⟩
 ·intro j y hy;unfold tset at hy;split at hy
  ·subst j;exact hr
  ·exact W.key j y hy
 ·intro j y hy;unfold tset at hy;split at hy
  ·obtain rfl:=Option.some.inj hy;exact ⟨by show 0≤s;omega,hs1⟩
  ·exact W.slot j y hy
 ·intro j y hy;unfold tset at hy;split at hy
  ·obtain rfl:=Option.some.inj hy;exact ⟨by show 0≤qh+1;omega,by show qh+1≤1000000;omega⟩
  ·exact W.hgt j y hy
theorem info_chg:(Tryz.prog.info? 178).map (fun i=>(i.zero,i.size,i.bytes))=some (some (.agg #[.int .i64 0,.int .u64 0,.int .u64 0,.int .i64 0,.int .u64 0,.bool false]),6,48):=by kernel_rfl
theorem elem_chg : ∃ i,Elem Tryz.prog 178 i (.agg #[.int .i64 0,.int .u64 0,.int .u64 0,.int .i64 0,.int .u64 0,.bool false]) 6 48:=info_parts info_chg
theorem zero133 (w:World):(zeroValue 133).run Tryz.prog w=.ok (.agg #[.bool false,.bool false,.bool false,.bool false,.int .i64 0,.int .u64 0,.int .i64 0,.int .u64 0,.int .i64 0,.int .u64 0,.int .i64 0,.slice none 0 0,.slice none 0 0]) w:=by kernel_rfl
def LedC (x:Led) (a b:Value):Array Value:=#[.bool x.j.b0,.bool x.j.b1,.bool x.j.b2,.bool x.j.b3,.int .i64 x.j.pe,.int .u64 x.j.pr,.int .i64 x.j.ce,.int .u64 x.j.cr,.int .i64 x.j.fe,.int .u64 x.j.fr,.int .i64 x.ep,a,b]
theorem ledV_eq (x:Led) (a b:Value):ledV x a b=.agg (LedC x a b):=rfl
section
variable {w:World} {I:Ids} {σ:St}
theorem LedAt.here {w:World} {ok:Nat→Prop} {N:Nat} {x:Led} {v:Value} (h:LedAt w ok N x v) (hN:0 < N):LedAt w (fun i=>ok i∧i < w.heap.size) N x v:=by
 obtain ⟨g,c,g2,d,hv,h3,h4,h5,h6⟩:=h;exact ⟨g,c,g2,d,hv,h3,h4,⟨h5,h3.lt hN⟩,⟨h6,h4.lt hN⟩⟩
theorem StoreAt.lt (h:StoreAt w I σ) {i:Nat} (hi:Mut I i):i < w.heap.size:=by
 rcases hi with rfl | rfl | rfl | rfl | rfl | rfl
 ·exact h.blk.lt
 ·exact Blk.lt (q:=I.tp) h.tree.2.1
 ·exact h.tree.2.2.lt
 ·exact h.votes.lt
 ·obtain ⟨_,_,_,h,_⟩:=h.led;exact h.lt
 ·exact h.gone.lt
theorem StoreAt.far (h:StoreAt w I σ) {i:Nat} (hi:Far I i):i < w.heap.size:=hi.elim h.lt (h.exlt i)
def addS (σ:St) (r q s qh:Int) (x:Led):St:=
 { σ with n:=σ.n+1,F:=tset σ.F r (q,s,qh+1),L:=ledSet σ.L r (advF σ.bs σ.S (tset σ.F r (q,s,qh+1)) σ.f r x s),boosted:=if s=σ.slot∧σ.boosted=0 then r else σ.boosted }
end
structure Nd where
 r:Int
 p:Int
 u:Int
 d:Int
 w:Int
def nodeV (x:Nd):Value:=.agg #[.int .u64 x.r,.int .i64 x.p,.int .u64 x.u,.int .u64 x.d,.int .u64 x.w]
def fld (x:Nd):Nat→Value
 | 0=>.int .u64 x.r
 | 1=>.int .i64 x.p
 | 2=>.int .u64 x.u
 | 3=>.int .u64 x.d
 | _=>.int .u64 x.w
def NAt (w:World) (g c n:Nat) (X:Nat→Nd):Prop:=
 n≤c∧c≤maxLen∧∃ cs:Array Value,w.heap[g]? = some (.cells cs 150 (0,0))∧cs.size=c * 5∧∀ i,i < n→∀ t,t < 5→cs[i * 5+t]? = some (fld (X i) t)
def nset (X:Nat→Nd) (i:Nat) (x:Nd):Nat→Nd:=fun j=>if j=i then x else X j
section
variable {w w':World} {nb c n:Nat} {X:Nat→Nd}
theorem NAt.at (h:NAt w nb c n X) {i t:Nat} (hi:i < n) (ht:t < 5):w.cell? ⟨nb,i * 5+t,none⟩=some (fld (X i) t):=by
 obtain ⟨_,_,cs,hb,_,hc⟩:=h;exact (cel hb _).trans (hc i hi t ht)
theorem NAt.c5 (h:NAt w nb c n X) {i:Nat} (hi:i < n) :
  w.cell? ⟨nb,i * 5,none⟩=some (.int .u64 (X i).r)∧w.cell? ⟨nb,i * 5+1,none⟩=some (.int .i64 (X i).p)∧w.cell? ⟨nb,i * 5+2,none⟩=some (.int .u64 (X i).u)∧w.cell? ⟨nb,i * 5+3,none⟩=some (.int .u64 (X i).d)∧w.cell? ⟨nb,i * 5+4,none⟩=some (.int .u64 (X i).w):=
 ⟨h.at hi (t:=0) (by omega),h.at hi (t:=1) (by omega),h.at hi (t:=2) (by omega),h.at hi (t:=3) (by omega),h.at hi (t:=4) (by omega)⟩
theorem NAt.frozen (h:NAt w nb c n X) (i:Nat):w.frozen? ⟨nb,i,none⟩=false:=by
 obtain ⟨_,_,cs,hb,_,_⟩:=h;exact frz hb i
theorem NAt.lt (h:NAt w nb c n X):nb < w.heap.size:=by
 obtain ⟨_,_,cs,hb,_,_⟩:=h;exact (Array.getElem?_eq_some_iff.1 hb).1
theorem NAt.kept {row:Option Nat} (h:NAt w nb c n X) (hg:w.grownBy w' row) (hne:row≠some nb):NAt w' nb c n X:=by
 have hl:=h.lt;obtain ⟨h1,h2,cs,hb,h3,h4⟩:=h;exact ⟨h1,h2,cs,(hg.block nb hl (fun e=>hne e.symm)).trans hb,h3,h4⟩
theorem NAt.g (h:NAt w nb c n X) (hg:w.grownBy w' none):NAt w' nb c n X:=h.kept hg (by simp)
theorem NAt.chg {S:Nat→Prop} (h:NAt w nb c n X) (hg:Chg S w w') (hs:¬ S nb):NAt w' nb c n X:=by
 have hl:=h.lt;obtain ⟨h1,h2,cs,hb,h3,h4⟩:=h;exact ⟨h1,h2,cs,(hg.block nb hl hs).trans hb,h3,h4⟩
theorem NAt.put (h:NAt w nb c n X) {i t:Nat} (hi:i < n) (ht:t < 5) (v:Value) {X':Nat→Nd} (hX : ∀ j,j < n→∀ s,s < 5→fld (X' j) s=if j=i∧s=t then v else fld (X j) s) :
  NAt (w.setCell ⟨nb,i * 5+t,none⟩ v) nb c n X':=by
 obtain ⟨h1,h2,cs,hb,h3,h4⟩:=h;refine ⟨h1,h2,_,heap_setCell_same w nb (i * 5+t) cs 150 v hb,by simp [h3],fun j hj s hs=>?_⟩;rw [hX j hj s hs,Array.getElem?_setIfInBounds];by_cases e:j=i∧s=t
 ·rw [if_pos e];obtain ⟨rfl,rfl⟩:=e;rw [if_pos rfl,if_pos (by omega)]
 ·rw [if_neg (by omega),if_neg e];exact h4 j hj s hs
theorem fld_set (X:Nat→Nd) {i t:Nat} (x:Nd) (v:Value) (hx : ∀ s,s < 5→fld x s=if s=t then v else fld (X i) s) (j:Nat) (s:Nat) (hs:s < 5):fld (nset X i x j) s=if j=i∧s=t then v else fld (X j) s:=by
 unfold nset;by_cases e:j=i
 ·subst e;rw [if_pos rfl,hx s hs];simp
 ·rw [if_neg e,if_neg (fun h=>e h.1)]
theorem five {P:Nat→Prop} (h0:P 0) (h1:P 1) (h2:P 2) (h3:P 3) (h4:P 4) : ∀ s,s < 5→P s:=by
 intro s hs
 match s,hs with
 | 0,_=>exact h0
 | 1,_=>exact h1
 | 2,_=>exact h2
 | 3,_=>exact h3
 | 4,_=>exact h4
theorem NAt.up (h:NAt w nb c n X) {i:Nat} (hi:i < n) (v:Int):NAt (w.setCell ⟨nb,i * 5+2,none⟩ (.int .u64 v)) nb c n (nset X i { X i with u:=v }):=
 h.put hi (by omega) _ (fun j _ s hs=>fld_set X _ _ (five rfl rfl rfl rfl rfl) j s hs)
theorem NAt.down (h:NAt w nb c n X) {i:Nat} (hi:i < n) (v:Int):NAt (w.setCell ⟨nb,i * 5+3,none⟩ (.int .u64 v)) nb c n (nset X i { X i with d:=v }):=
 h.put hi (by omega) _ (fun j _ s hs=>fld_set X _ _ (five rfl rfl rfl rfl rfl) j s hs)
theorem NAt.weigh (h:NAt w nb c n X) {i:Nat} (hi:i < n) (v:Int):NAt (w.setCell ⟨nb,i * 5+4,none⟩ (.int .u64 v)) nb c n (nset X i { X i with w:=v }):=
 h.put hi (by omega) _ (fun j _ s hs=>fld_set X _ _ (five rfl rfl rfl rfl rfl) j s hs)
def rowsOf (X:Nat→Nd) (n:Nat):List Value:=(List.range n).flatMap fun i=>[.int .u64 (X i).r,.int .i64 (X i).p,.int .u64 (X i).u,.int .u64 (X i).d,.int .u64 (X i).w]
theorem rowsOf_succ (X:Nat→Nd) (n:Nat):rowsOf X (n+1)=rowsOf X n++[.int .u64 (X n).r,.int .i64 (X n).p,.int .u64 (X n).u,.int .u64 (X n).d,.int .u64 (X n).w]:=by
 unfold rowsOf;rw [List.range_succ,List.flatMap_append];simp
theorem rowsOf_length (X:Nat→Nd) : ∀ n,(rowsOf X n).length=n * 5
 | 0=>rfl
 | n+1=>by rw [rowsOf_succ,List.length_append,rowsOf_length X n];simp;omega
theorem rowsOf_congr {X Y:Nat→Nd} : ∀ n,(∀ i,i < n→X i=Y i)→rowsOf X n=rowsOf Y n
 | 0,_=>rfl
 | n+1,h=>by rw [rowsOf_succ,rowsOf_succ,rowsOf_congr n (fun i hi=>h i (by omega)),h n (by omega)]
theorem rowsOf_get (X:Nat→Nd) : ∀ n,∀ i,i < n→∀ t,t < 5→(rowsOf X n)[i * 5+t]? = some (fld (X i) t)
 | 0,i,hi,_,_=>by omega
 | n+1,i,hi,t,ht=>by
  rw [rowsOf_succ];by_cases e:i < n
  ·rw [List.getElem?_append_left (by rw [rowsOf_length];omega)];exact rowsOf_get X n i e t ht
  ·obtain rfl:i=n:=by omega
   rw [List.getElem?_append_right (by rw [rowsOf_length];omega),rowsOf_length,show i * 5+t - i * 5=t from by omega];exact five (P:=fun t=>([Value.int .u64 (X i).r,.int .i64 (X i).p,.int .u64 (X i).u,.int .u64 (X i).d,.int .u64 (X i).w]:List Value)[t]? = some (fld (X i) t)) rfl rfl rfl rfl rfl t ht
theorem NAt.owns (h:NAt w nb c n X) {base:Nat} (hb:base≤nb):w.ownsRow base 150 5 (.slice (some ⟨nb,0,none⟩) n c) n (rowsOf X n):=by
 obtain ⟨h1,h2,cs,hg,h3,h4⟩:=h;refine ⟨rowsOf_length X n,.inr ⟨nb,c,cs,rfl,hb,hg,h1,h2,h3,?_⟩⟩;apply List.ext_getElem?;intro j;rw [List.getElem?_take];by_cases hj:j < n * 5
 ·rw [if_pos hj];have e:j=j / 5 * 5+j % 5:=by omega
  rw [e,rowsOf_get X n (j / 5) (by omega) (j % 5) (by omega),← h4 (j / 5) (by omega) (j % 5) (by omega)];simp
 ·rw [if_neg hj,List.getElem?_eq_none (by rw [rowsOf_length];omega)]
theorem NAt.of_owns {base:Nat} (h:w.ownsRow base 150 5 (.slice (some ⟨nb,0,none⟩) n c) n (rowsOf X n)):NAt w nb c n X:=by
 rcases h.2 with ⟨h,_⟩ | ⟨g',c',cur,hv,_,hg,h1,h2,h3,h4⟩
 ·cases h
 ·cases hv;refine ⟨h1,h2,cur,hg,h3,fun i hi t ht=>?_⟩;have:=rowsOf_get X n i hi t ht;rw [← h4,List.getElem?_take,if_pos (by omega)] at this
  simpa using this
def fnd (X:Nat→Nd) (r:Int):Nat→Int
 | 0=>-1
 | n+1=>if 0≤fnd X r n then fnd X r n else if (X n).r=r then n else -1
theorem fnd_lt (X:Nat→Nd) (r:Int) : ∀ n,-1≤fnd X r n∧fnd X r n < n
 | 0=>by simp [fnd]
 | n+1=>by
  have:=fnd_lt X r n;unfold fnd;split
  ·omega
  ·split <;> omega
theorem fnd_stay {X : Nat → Nd} {r : Int} {k n : Nat} (h : 0 ≤ fnd X r k) (hk : k ≤ n) : fnd X r n = fnd X r k := by
 induction n with
 | zero => obtain rfl : k = 0 := by omega
           rfl
 | succ n ih =>
  by_cases e : k = n + 1
  ·rw [e]
  ·have := ih (by omega)
   rw [fnd, this, if_pos h]
theorem fnd_new {X:Nat→Nd} {r:Int} {k:Nat} (h:fnd X r k = -1) (hx:(X k).r=r):fnd X r (k+1)=k:=by
 rw [fnd,h,if_neg (by omega),if_pos hx]
theorem fnd_not {X:Nat→Nd} {r:Int} {k:Nat} (h:fnd X r k = -1) (hx:¬ (X k).r=r):fnd X r (k+1) = -1:=by
 rw [fnd,h,if_neg (by omega),if_neg hx]
theorem same_calls (x:Nd) {b:Nat} {r:Int} (hb:Blk w b #[.int .u64 r] 27) :
  Calls Tryz.prog 166 #[nodeV x,.pointer (some ⟨b,0,none⟩)] w fun e w'=>e=.returned (.bool (x.r == r))∧w.grownBy w' none:=by
 have HB:=lh hb;have hbl:=hb.lt;clear hb;unfold nodeV;go_enter Tryz.func166,Tryz.ntmps166
 go_upto_region 1 with (fail)
 refine nmC1 ?_;intro W b0 hz hg;obtain ⟨q,hq_q⟩ : ∃ q,q=w.heap.size:=⟨_,rfl⟩;rw [← hq_q] at b0 hz hbl ⊢;have HQ_q:=lh hq_q;clear hq_q;have HB0:=lh b0;have HG:=lh hg;clear b0 hg;replace HB:=lh (HB.out.g HG.out);have c0:=HB.out.c1;obtain ⟨d0,d1,d2,d3,d4⟩:=HB0.out.c5;go_wp2;go_ret;exact ⟨rfl,HG.out⟩
set_option maxHeartbeats 1000000 in
theorem index_calls (h:NAt w nb c n X) (hn:n≤1000000) {b:Nat} {r:Int} (hb:Blk w b #[.int .u64 r] 27) :
  Calls Tryz.prog 165 #[.slice (some ⟨nb,0,none⟩) n c,.func (.func 166) #[] #[.pointer (some ⟨b,0,none⟩)]] w fun e w'=>e=.returned (.int .i64 (fnd X r n))∧w.grownBy w' none:=by
 have HH:=lh h;have HB:=lh hb;clear h hb;go_enter Tryz.func165,Tryz.ntmps165
 go_wp2_with fail
 go_loopw [8] (fun v8 wr=>∃ j:Nat,v8=.int .i64 (j:Int)∧j≤n∧fnd X r j = -1∧w.grownBy wr none) (fun v8 _=>n - (intOf v8).toNat)
 case atStart=>exact ⟨0,rfl,by omega,rfl,gR w none⟩
 case round=>
  obtain ⟨j,rfl,hj,hf,hg⟩:=hrel;have HF:=lh hf;have HG:=lh hg;clear hf hg;by_cases hlt:j < n
  ·obtain ⟨c0,c1,c2,c3,c4⟩:=(HH.out.g HG.out).c5 hlt;obtain ⟨x,hx⟩ : ∃ x,x=X j:=⟨_,rfl⟩;rw [← hx] at c0 c1 c2 c3 c4;have HX:=lh hx;clear hx;by_cases he:x.r=r
   ·have hb:(x.r == r)=true:=by simp [he]
    have HE:=lh he;have hsm:=same_calls x (HB.out.g HG.out);rw [hb] at hsm;have HS:=lh hsm;clear he hsm hb;unfold nodeV at HS;go_wp2_with (go_at_call 166;refine HS.out.mono ?_;rintro e w2 ⟨rfl,hg2⟩)
    go_ret;have hx:=HX.out;subst hx;exact ⟨by rw [fnd_stay (k:=j+1) (by rw [fnd_new HF.out HE.out];omega) (by omega),fnd_new HF.out HE.out];rfl,g2 HG.out hg2⟩
   ·have hb:(x.r == r)=false:=by simp [he]
    have HE:=lh he;have hsm:=same_calls x (HB.out.g HG.out);rw [hb] at hsm;have HS:=lh hsm;clear he hsm hb;unfold nodeV at HS;go_wp2_with (go_at_call 166;refine HS.out.mono ?_;rintro e w2 ⟨rfl,hg2⟩;have HG2:=lh (g2 HG.out hg2);clear hg2)
    go_roundw
    case rel=>
     have hx:=HX.out;subst hx;exact ⟨j+1,by simp,by omega,fnd_not HF.out HE.out,HG2.out⟩
    case measure=>simp [intOf];omega
  ·obtain rfl:j=n:=by omega
   go_wp2;go_ret;exact ⟨by rw [HF.out];rfl,HG.out⟩
theorem _root_.Go.World.grownBy.mono0 {w w':World} {row:Option Nat} (h:w.grownBy w' none):w.grownBy w' row:=⟨h.os,h.tape,h.output,h.size,fun k hk _=>h.block k hk (by simp)⟩
structure Arr where
 n:Nat
 X:Nat→Nd
 b:Int
structure AIds where
 q:Nat
 g:Nat
 c:Nat
structure ArrAt (w:World) (J:AIds) (p:Nat) (α:Arr):Prop where
 blk:Blk w J.q #[.pointer (some ⟨p,0,none⟩),.slice (some ⟨J.g,0,none⟩) α.n J.c,.int .u64 α.b] 110
 row:NAt w J.g J.c α.n α.X
 ne:J.q≠J.g
 n:α.n≤100000
theorem ArrAt.kept0 {J:AIds} {p:Nat} {α:Arr} (h:ArrAt w J p α) (hg:w.grownBy w' none):ArrAt w' J p α:=⟨h.blk.g hg,h.row.g hg,h.ne,h.n⟩
theorem ArrAt.chg {S:Nat→Prop} {J:AIds} {p:Nat} {α:Arr} (h:ArrAt w J p α) (hg:Chg S w w') (h1:¬ S J.q) (h2:¬ S J.g):ArrAt w' J p α:=⟨hg.blk h.blk h1,h.row.chg hg h2,h.ne,h.n⟩
def ua (a b:Int):Int:=IntKind.u64.wrap (a+b)
def us (a b:Int):Int:=IntKind.u64.wrap (a - b)
def giveF (X:Nat→Nd) (n:Nat) (r v:Int):Nat→Nd:=if 0≤fnd X r n then nset X (fnd X r n).toNat { X (fnd X r n).toNat with u:=ua (X (fnd X r n).toNat).u v } else X
def takeF (X:Nat→Nd) (n:Nat) (r v:Int):Nat→Nd:=if 0≤fnd X r n then nset X (fnd X r n).toNat { X (fnd X r n).toNat with d:=ua (X (fnd X r n).toNat).d v } else X
variable {J:AIds} {p:Nat} {α:Arr}
theorem find_calls (h:ArrAt w J p α) (r:Int) :
  Calls Tryz.prog 161 #[.pointer (some ⟨J.q,0,none⟩),.int .u64 r] w fun e w'=>e=.returned (.int .i64 (fnd α.X r α.n))∧w.grownBy w' none:=by
 have HH:=lh h;have hql:=h.blk.lt;have hn:=h.n;clear h;go_enter Tryz.func161,Tryz.ntmps161
 go_upto_region 1 with (fail)
 refine nmC1 ?_;intro W b0 hz hg;obtain ⟨q,hq_q⟩ : ∃ q,q=w.heap.size:=⟨_,rfl⟩;rw [← hq_q] at b0 hz hql ⊢;have HQ_q:=lh hq_q;clear hq_q;have HB0:=lh b0;have HG:=lh hg;clear b0 hg;replace HH:=lh (HH.out.kept0 HG.out);obtain ⟨c0,c1,c2⟩:=HH.out.blk.c3;go_wp2_with (go_at_call 165;refine (index_calls HH.out.row (by omega) HB0.out).mono ?_;rintro e w2 ⟨rfl,hg2⟩)
 go_ret;exact ⟨rfl,g2 HG.out hg2⟩
theorem give_calls (h:ArrAt w J p α) (r v:Int) :
  Calls Tryz.prog 163 #[.pointer (some ⟨J.q,0,none⟩),.int .u64 r,.int .u64 v] w fun e w'=>e=.returned (.tuple #[])∧ArrAt w' J p { α with X:=giveF α.X α.n r v }∧w.grownBy w' (some J.g):=by
 have HH:=lh h;have hn:=h.n;have hb:=fnd_lt α.X r α.n;clear h;by_cases h0:0≤fnd α.X r α.n
 ·have e1:giveF α.X α.n r v=nset α.X (fnd α.X r α.n).toNat { α.X (fnd α.X r α.n).toNat with u:=ua (α.X (fnd α.X r α.n).toNat).u v }:=by unfold giveF;rw [if_pos h0]
  obtain ⟨k,hk⟩ : ∃ k:Nat,k=(fnd α.X r α.n).toNat:=⟨_,rfl⟩;have hk2:fnd α.X r α.n=(k:Int):=by omega
  rw [← hk] at e1;have hlt:k < α.n:=by omega
  have HE:=lh e1;have HK:=lh hk2;clear hb h0 hk hk2 e1;go_enter Tryz.func163,Tryz.ntmps163
  go_wp2_with fail
  refine (find_calls HH.out r).mono ?_;rintro e w2 ⟨rfl,hg2⟩;rw [HK.out];replace HH:=lh (HH.out.kept0 hg2);have HG:=lh hg2;clear hg2;obtain ⟨c0,c1,c2⟩:=HH.out.blk.c3;obtain ⟨d0,d1,d2,d3,d4⟩:=HH.out.row.c5 hlt;have f2:=HH.out.row.frozen (k * 5+2);go_wp2
  go_end0
  have hr:=HH.out.row.up hlt (ua (α.X k).u v);rw [← HE.out] at hr;have hg:=gset w2 J.g (k * 5+2) (.int .u64 (ua (α.X k).u v));exact ⟨rfl,⟨HH.out.blk.kept hg (by simpa using fun e=>HH.out.ne e.symm),hr,HH.out.ne,HH.out.n⟩,gtrans HG.out.mono0 hg⟩
 ·have e1:giveF α.X α.n r v=α.X:=by unfold giveF;rw [if_neg h0]
  have hk2:fnd α.X r α.n = -1:=by omega
  rw [e1];have HK:=lh hk2;clear hb h0 hk2 e1;go_enter Tryz.func163,Tryz.ntmps163
  go_wp2_with fail
  refine (find_calls HH.out r).mono ?_;rintro e w2 ⟨rfl,hg2⟩;rw [HK.out];replace HH:=lh (HH.out.kept0 hg2);have HG:=lh hg2;clear hg2;go_wp2
  go_end0
  exact ⟨rfl,HH.out,HG.out.mono0⟩
theorem take_calls (h:ArrAt w J p α) (r v:Int) :
  Calls Tryz.prog 162 #[.pointer (some ⟨J.q,0,none⟩),.int .u64 r,.int .u64 v] w fun e w'=>e=.returned (.tuple #[])∧ArrAt w' J p { α with X:=takeF α.X α.n r v }∧w.grownBy w' (some J.g):=by
 have HH:=lh h;have hn:=h.n;have hb:=fnd_lt α.X r α.n;clear h;by_cases h0:0≤fnd α.X r α.n
 ·have e1:takeF α.X α.n r v=nset α.X (fnd α.X r α.n).toNat { α.X (fnd α.X r α.n).toNat with d:=ua (α.X (fnd α.X r α.n).toNat).d v }:=by unfold takeF;rw [if_pos h0]
  obtain ⟨k,hk⟩ : ∃ k:Nat,k=(fnd α.X r α.n).toNat:=⟨_,rfl⟩;have hk2:fnd α.X r α.n=(k:Int):=by omega
  rw [← hk] at e1;have hlt:k < α.n:=by omega
  have HE:=lh e1;have HK:=lh hk2;clear hb h0 hk hk2 e1;go_enter Tryz.func162,Tryz.ntmps162
  go_wp2_with fail
  refine (find_calls HH.out r).mono ?_;rintro e w2 ⟨rfl,hg2⟩;rw [HK.out];replace HH:=lh (HH.out.kept0 hg2);have HG:=lh hg2;clear hg2;obtain ⟨c0,c1,c2⟩:=HH.out.blk.c3;obtain ⟨d0,d1,d2,d3,d4⟩:=HH.out.row.c5 hlt;have f2:=HH.out.row.frozen (k * 5+3);go_wp2
  go_end0
  have hr:=HH.out.row.down hlt (ua (α.X k).d v);rw [← HE.out] at hr;have hg:=gset w2 J.g (k * 5+3) (.int .u64 (ua (α.X k).d v));exact ⟨rfl,⟨HH.out.blk.kept hg (by simpa using fun e=>HH.out.ne e.symm),hr,HH.out.ne,HH.out.n⟩,gtrans HG.out.mono0 hg⟩
 ·have e1:takeF α.X α.n r v=α.X:=by unfold takeF;rw [if_neg h0]
  have hk2:fnd α.X r α.n = -1:=by omega
  rw [e1];have HK:=lh hk2;clear hb h0 hk2 e1;go_enter Tryz.func162,Tryz.ntmps162
  go_wp2_with fail
  refine (find_calls HH.out r).mono ?_;rintro e w2 ⟨rfl,hg2⟩;rw [HK.out];replace HH:=lh (HH.out.kept0 hg2);have HG:=lh hg2;clear hg2;go_wp2
  go_end0
  exact ⟨rfl,HH.out,HG.out.mono0⟩
end
end Go.Proofs.YtndfpmboanohcaaGreatDoor
