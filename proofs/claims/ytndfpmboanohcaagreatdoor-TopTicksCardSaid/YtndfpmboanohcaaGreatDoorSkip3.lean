/- Contract of (*skip.List).Add. -/
import Derived.Test.YtndfpmboanohcaaGreatDoorAaToSkip2
import Derived.Deep.AppendLies
import Derived.Deep.RegionLaw
import Derived.BigRegion
import Derived.StillTailTactics
namespace Go.Proofs.YtndfpmboanohcaaGreatDoor
set_option maxRecDepth 100000
open Go.RowKit Go.Maps SkipPure
theorem addok (w:World) {ok:Nat→Prop} {p b n:Nat} {hgt:Int→Option Nat} {par:Int→Int} (h:SkipAt w ok p b n hgt par) {r:Int} (hr:inU r) :
  ∃ v,(Instr.lookup 84 (.map (some b)) (.int .u64 r) true).run Tryz.prog w=.ok (.tuple #[v,.bool (hgt r).isSome]) w∧∃ k a l c,v=.agg #[.int .i64 (k:Int),.slice a l c]:=by
 cases hh:hgt r with
 | none=>exact ⟨_,h.noNode hr hh,0,none,0,0,rfl⟩
 | some k=>
  obtain ⟨a,c,_,hl,_⟩:=h.node hr hh;exact ⟨_,hl,k,a,_,c,rfl⟩
theorem add_no {w:World} {ok:Nat→Prop} {p b n:Nat} {hgt:Int→Option Nat} {par:Int→Int} (h:SkipAt w ok p b n hgt par) {root parent:Int} (hr:inU root) (hp:inU parent) (hno:hgt parent=none∨(hgt root).isSome=true) :
  Calls Tryz.prog 8 #[.pointer (some ⟨p,0,none⟩),.int .u64 root,.int .u64 parent] w fun e w'=>e=.returned (.bool false)∧w.grownBy w' none:=by
 have c0:=cell_p h;obtain ⟨v1,hl1,k1,a1,l1,d1,rfl⟩:=addok w h hp;have h':=h.kept (World.grownBy_alloc w (.cells #[.int .i64 (k1:Int),.slice a1 l1 d1] 83) none) (fun j e=>by cases e);have c0':=cell_p h';obtain ⟨v2,hl2,k2,a2,l2,d2,rfl⟩:=addok _ h' hr;clear h h';cases hq:hgt parent with
 | none=>
  rw [hq] at hl1;simp only [Option.isSome_none] at hl1;clear hno hq;go_enter Tryz.func8,Tryz.ntmps8
  go_wp2;go_ret;exact ⟨rfl,(World.grownBy_alloc w _ none).andThen (World.grownBy_alloc _ _ none) (fun j e=>by cases e)⟩
 | some k=>
  have hs:(hgt root).isSome=true:=hno.resolve_left (by rw [hq];simp);rw [hs] at hl2;rw [hq] at hl1;simp only [Option.isSome_some] at hl1;clear hno hq hs;go_enter Tryz.func8,Tryz.ntmps8
  go_wp2;go_ret;exact ⟨rfl,(World.grownBy_alloc w _ none).andThen (World.grownBy_alloc _ _ none) (fun j e=>by cases e)⟩
theorem info26:(Tryz.prog.info? 27).map (fun i=>(i.zero,i.size,i.bytes))=some (some (.int .u64 0),1,8):=by kernel_rfl
def jrow (par:Int→Int) (root:Int) (l:Nat):List Value:=(List.range l).map fun i=>Value.int .u64 (anc par root (2 ^ i))
def AddCur (w0:World) (q:Nat) (par:Int→Int) (root:Int) (h i:Nat) (w:World):Prop:=
 ∃ g c,w.heap[q]? = some (.cells #[.int .i64 ((h:Int)+1),.slice (some ⟨g,0,none⟩) (i+1) c] 83 (0,0))∧w.ownsRow w0.heap.size 27 1 (.slice (some ⟨g,0,none⟩) (i+1) c) (i+1) (jrow par root (i+1))∧g≠q∧w0.grownBy w none
theorem cel {w:World} {g:Nat} {t:TypeId} {cs:Array Value} (h:w.heap[g]? = some (.cells cs t (0,0))) (i:Nat):w.cell? ⟨g,i,none⟩=cs[i]?:=by simp [World.cell?,h]
theorem frz {w:World} {g:Nat} {t:TypeId} {cs:Array Value} (h:w.heap[g]? = some (.cells cs t (0,0))) (i:Nat):w.frozen? ⟨g,i,none⟩=false:=by simp [World.frozen?,h]
theorem field52 (w:World) (x:Int) (a:Option Addr) (l c:Nat):(Instr.field 83 (.agg #[.int .i64 x,.slice a l c]) 1).run Tryz.prog w=.ok (.slice a l c) w:=by kernel_rfl
theorem new_anc {hgt:Int→Option Nat} {par:Int→Int} (T:Tree hgt par) {root parent:Int} {k:Nat} (hq:hgt parent=some k) (hx:hgt root=none) {i:Nat} (hi:2 ^ i≤k+1) :
  hgt (anc (setPar par root parent) root (2 ^ i))=some (k+1 - 2 ^ i):=by
 have h0:=Nat.two_pow_pos i;obtain ⟨d,hd⟩ : ∃ d,2 ^ i=d+1:=⟨2 ^ i - 1,by omega⟩;rw [hd,anc_new T hx hq d (by omega),hgt_anc T hq d (by omega)]
 congr 1;omega
theorem anc_twice {hgt:Int→Option Nat} {par:Int→Int} (T:Tree hgt par) {root parent:Int} {k:Nat} (hq:hgt parent=some k) (hx:hgt root=none) {i:Nat} (hi:2 ^ (i+1)≤k+1) :
  anc par (anc (setPar par root parent) root (2 ^ i)) (2 ^ i)=anc (setPar par root parent) root (2 ^ (i+1)):=by
 have h0:=Nat.two_pow_pos i;have e:2 ^ (i+1)=2 ^ i+2 ^ i:=by rw [Nat.pow_succ];omega
 have hh:=new_anc T hq hx (i:=i) (by omega);rw [e,← anc_add,anc_set T hx hh (2 ^ i) (by omega)]
theorem gdrew {w w':World} {row:Option Nat} (h:w.grownBy w' row):w.grownBy w'.drew row:=⟨h.os,h.tape,h.output,h.size,h.block⟩
theorem addcur_next {w0 wx w3:World} {q k i L g g3 c3:Nat} {y z:Value} {par:Int→Int} {root:Int} (hL:L=i+1) (hz:z=.int .u64 (anc par root (2 ^ (i+1))))
  (hx:w0.grownBy wx none) (hq3:w3.heap[q]? = some (.cells #[.int .i64 ((k:Int)+1),y] 83 (0,0)))
  (hown3:w3.ownsRow w0.heap.size 27 1 (.slice (some ⟨g3,0,none⟩) (L+1) c3) (L+1) (jrow par root L++[z])) (hgrow:wx.grownBy w3 (some g)) (hg:w0.heap.size≤g) (hqs:w0.heap.size≤q) (hgq:g3≠q) :
  AddCur w0 q par root k (i+1) (w3.setCell ⟨q,1,none⟩ (.slice (some ⟨g3,0,none⟩) (L+1) c3)):=by
 subst hL hz;have h3:w3.grownBy (w3.setCell ⟨q,1,none⟩ (.slice (some ⟨g3,0,none⟩) (i+1+1) c3)) (some q):=
  ⟨rfl,rfl,rfl,by simp,fun j _ hne=>heap_setCell_other _ _ _ _ (fun e=>hne (by rw [e]))⟩
 refine ⟨g3,c3,heap_setCell_same w3 q 1 _ _ _ hq3,?_,hgq,?_⟩
 ·have e:jrow par root (i+1+1)=jrow par root (i+1)++[.int .u64 (anc par root (2 ^ (i+1)))]:=by
   simp [jrow,List.range_succ]
  rw [e];exact hown3.kept h3 (Or.inr (by simp [Value.ownBlock];exact hgq))
 ·exact (hx.andThen hgrow (fun j e=>Or.inl (by cases e;exact hg))).andThen h3 (fun j e=>Or.inl (by cases e;exact hqs))
theorem blen_top {m i:Nat} (h1:2 ^ i≤m) (h2:¬ i < blen (m - 2 ^ i)):blen m=i+1:=by
 have h3:=lt_blen.2 h1;have h4:m - 2 ^ i < 2 ^ i:=blen_le.1 (by omega);have h5:blen m≤i+1:=blen_le.2 (by rw [Nat.pow_succ];omega);omega
theorem add_done {w w1 w4:World} {ok:Nat→Prop} {p b n:Nat} {hgt:Int→Option Nat} {par:Int→Int} (hok : ∀ j,ok j→j < w.heap.size) (T:Tree hgt par)
  {root parent:Int} {k i L g c:Nat} (hx:hgt root=none) (hL:L=i+1) (hi:2 ^ i≤k+1) (hlt:¬ i < blen (k+1 - 2 ^ i))
  (hs1:ok p) (hs2:ok b) (hs3:p≠b) (hs4:w1.heap[p]? = some (.cells #[.map (some b)] 86 (0,0))) {F:Int→Option Value} (hN : ∀ r,inU r→NodeAt w1 ok hgt par r (F r)) (hF:RawMap Tryz.prog 27 w1 b n F)
  (hg1:w.grownBy w1 none) (hown:w1.ownsRow w.heap.size 27 1 (.slice (some ⟨g,0,none⟩) L c) L (jrow (setPar par root parent) root L))
  (hF4:RawMap Tryz.prog 27 w4 b (n+1) (upd F root (.agg #[.int .i64 ((k:Int)+1),.slice (some ⟨g,0,none⟩) L c]))) (hg4:w1.grownBy w4 (some b)) :
  w.grownBy w4 (some b)∧SkipAt w4 (fun j=>ok j∨(w.heap.size≤j∧j < w4.heap.size)) p b (n+1) (setHgt hgt root (k+1)) (setPar par root parent):=by
 have hbl:blen (k+1)=L:=by rw [hL];exact blen_top hi hlt
 have hp1:p < w1.heap.size:=(Array.getElem?_eq_some_iff.1 hs4).1;have hgl:=hown.lt g rfl;have hbw:b < w.heap.size:=hok b hs2;have hL0:0 < L:=by omega
 refine ⟨⟨hg4.os.trans hg1.os,hg4.tape.trans hg1.tape,hg4.output.trans hg1.output,Nat.le_trans hg1.size hg4.size,fun j hj hne=>(hg4.block j (Nat.lt_of_lt_of_le hj hg1.size) hne).trans (hg1.block j hj (by simp))⟩,Or.inl hs1,Or.inl hs2,hs3,(hg4.block p hp1 (fun e=>hs3 (by cases e;rfl))).trans hs4,_,hF4,fun r hr=>?_⟩;unfold NodeAt upd;by_cases e:r=root
 ·subst e;simp only [setHgt,if_true];refine ⟨some ⟨g,0,none⟩,c,?_,Or.inr ⟨g,rfl,?_,?_,Or.inr ⟨hgl.1,Nat.lt_of_lt_of_le hgl.2 hg4.size⟩,fun j hj=>?_⟩⟩
  ·rw [hbl];simp [node]
  ·rw [js_length,hbl];exact hL0
  ·rw [js_length,hbl];rcases hown.2 with ⟨h,_⟩ | ⟨g',cap,cur,h,_,_,hle,_⟩
   ·cases h
   ·cases h;exact hle
  ·rw [js_length,hbl] at hj;have h1:=hown.cellAt j (by omega);rw [js_getD _ _ _ _ (by rw [hbl];exact hj)];have h2:(jrow (setPar par r parent) r L)[j]? = some (.int .u64 (anc (setPar par r parent) r (2 ^ j))):=by simp [jrow,hj]
   rw [h2] at h1;exact hg4.cell h1 (fun e=>by have e2:g=b:=Option.some.inj e;omega)
 ·have hn:=hN r hr;unfold NodeAt at hn;simp only [setHgt,e,if_false];cases hh:hgt r with
  | none=>rw [hh] at hn;exact hn
  | some m=>
   rw [hh] at hn;obtain ⟨a,c',hf,hR⟩:=hn;refine ⟨a,c',hf,?_⟩;rw [js_set T hx hh];obtain ⟨D,⟨es,cl,hb,_⟩,_⟩:=hF;exact (hR.keptBlock hg4 ⟨es,cl,hb⟩).imp (fun j h=>Or.inl h)
set_option maxHeartbeats 1000000 in
theorem add_yes {w:World} {ok:Nat→Prop} {p b n:Nat} {hgt:Int→Option Nat} {par:Int→Int} (h:SkipAt w ok p b n hgt par) (hok : ∀ j,ok j→j < w.heap.size) (T:Tree hgt par) (K:Keys hgt) (hn:n < 1099511627776)
  {root parent:Int} (hr:inU root) {k:Nat} (hk:k < 1099511627775) (hq:hgt parent=some k) (hx:hgt root=none) :
  Calls Tryz.prog 8 #[.pointer (some ⟨p,0,none⟩),.int .u64 root,.int .u64 parent] w fun e w'=>e=.returned (.bool true)∧w.grownBy w' (some b) ∧
   SkipAt w' (fun j=>ok j∨(w.heap.size≤j∧j < w'.heap.size)) p b (n+1) (setHgt hgt root (k+1)) (setPar par root parent):=by
 have hp:=(K parent k hq).1;have c0:=cell_p h;obtain ⟨a1,d1,_,hl1,_⟩:=h.node hp hq;have h':=h.kept (World.grownBy_alloc w (.cells #[.int .i64 (k:Int),.slice a1 (blen k) d1] 83) none) (fun j e=>by cases e);have c0':=cell_p h';have hl2:=h'.noNode hr hx;clear h';have HH:=lh h;clear h;go_enter Tryz.func8,Tryz.ntmps8
 go_wp2;obtain ⟨q,hqe⟩ : ∃ q,q=w.heap.size+1+1+1:=⟨_,rfl⟩;have hw4:w.grownBy ((((w.alloc (Obj.cells #[Value.int IntKind.i64 ↑k,Value.slice a1 (blen k) d1] 83)).alloc (Obj.cells #[Value.int IntKind.i64 0,Value.slice none 0 0] 83)).alloc (Obj.cells #[Value.int IntKind.u64 parent] 27)).alloc
   (Obj.cells #[Value.int IntKind.i64 (↑k+1),Value.slice (some { block:=w.heap.size+1+1,off:=0 }) 1 1] 83)) none:=
  (((World.grownBy_alloc w _ none).andThen (World.grownBy_alloc _ _ none) (fun j e=>by cases e)).andThen (World.grownBy_alloc _ _ none) (fun j e=>by cases e)).andThen (World.grownBy_alloc _ _ none) (fun j e=>by cases e)
 have hj0:(jrow (setPar par root parent) root (0+1))=[Value.int .u64 parent]:=by simp [jrow,anc,setPar]
 rw [← hqe]
 go_loopw [12] (fun v12 wr=>∃ i:Nat,v12=.int .i64 (i:Int)∧2 ^ i≤k+1∧AddCur w q (setPar par root parent) root k i wr) (fun v12 _=>64 - (intOf v12).toNat)
 case atStart=>
  refine ⟨0,rfl,by simp,w.heap.size+1+1,1,?_,?_,by omega,hw4⟩
  ·rw [hqe];have:=(MapKept.heap_alloc (((w.alloc (Obj.cells #[Value.int IntKind.i64 ↑k,Value.slice a1 (blen k) d1] 83)).alloc (Obj.cells #[Value.int IntKind.i64 0,Value.slice none 0 0] 83)).alloc (Obj.cells #[Value.int IntKind.u64 parent] 27)) (Obj.cells #[Value.int IntKind.i64 (↑k+1),Value.slice (some { block:=w.heap.size+1+1,off:=0 }) 1 1] 83)).1
   simpa using this
  ·rw [hj0];have:=(World.ownsRow_lit (base:=w.heap.size) (e:=27) (size:=1) ((w.alloc (Obj.cells #[Value.int IntKind.i64 ↑k,Value.slice a1 (blen k) d1] 83)).alloc (Obj.cells #[Value.int IntKind.i64 0,Value.slice none 0 0] 83)) #[Value.int .u64 parent] 1 (by simp;omega) (by unfold maxLen;omega) (by simp)).alloc (Obj.cells #[Value.int IntKind.i64 (↑k+1),Value.slice (some { block:=w.heap.size+1+1,off:=0 }) 1 1] 83)
   simpa using this
 case round=>
  obtain ⟨i,rfl,hi,g,c,hq1,hown,hgq,hg1⟩:=hrel;have hy:=new_anc T hq hx hi;have hyU:=(K _ _ hy).1;have hcg:=hown.cellAt i (by omega);have hj1:(jrow (setPar par root parent) root (i+1))[i]? = some (.int .u64 (anc (setPar par root parent) root (2 ^ i))):=by simp [jrow]
  rw [hj1] at hcg;have hib:i≤40:=by
   rcases Nat.lt_or_ge 40 i with h | h
   ·have:=Nat.pow_le_pow_right (show 0 < 2 by omega) (show 41≤i by omega);have e:(2:Nat) ^ 41=2199023255552:=by decide
    omega
   ·exact h
  have HS:=HH.out.kept hg1 (fun j e=>by cases e);have c0w:=cell_p HS;obtain ⟨a2,d2,hR2,hl2w⟩:=HS.nodeN hyU hy;clear HS;have q1:wr.cell? ⟨q,1,none⟩=some (.slice (some ⟨g,0,none⟩) (i+1) c):=by simp [World.cell?,hq1]
  obtain ⟨L,hL⟩ : ∃ L,L=i+1:=⟨_,rfl⟩;rw [← hL] at q1;have hiL:i < L:=by omega
  have HL:=lh hL;clear hL;have HQ1:=lh hq1;have HOWN:=lh hown;have HG1:=lh hg1;have HY:=lh hy;have HR2:=lh hR2;have HQE:=lh hqe;have HT:=lh T;have HK:=lh K;have HQ:=lh hq;have HX:=lh hx;have HI:=lh hi;have HJ1:=lh hj1;clear hq1 hown hg1 hy hR2 hqe T K hq hx hi hj1 hj0 hw4 hl1 hl2 hyU;obtain ⟨m,hm⟩ : ∃ m,m=k+1 - 2 ^ i:=⟨_,rfl⟩;have hbm:blen (k+1 - 2 ^ i)≤41:=blen_le.2 (Nat.lt_of_le_of_lt (Nat.sub_le _ _) (by simp;omega));rw [← hm] at hl2w hbm;have HM:=lh hm;clear hm;have hfd:=fun w=>field52 w (m:Int) a2 (blen m) d2;by_cases hlt:i < blen m
  ·have g1:decide (blen m≤i)=false:=decide_eq_false (by omega);go_wp2;go_quiet (fail)
   go_wp2;have hR2':=HR2.out;have hlen:(js par (anc (setPar par root parent) root (2 ^ i)) (k+1 - 2 ^ i)).length=blen m:=by rw [js_length,HM.out]
   have hpow:2 ^ i≤m:=lt_blen.1 hlt;have hi1:2 ^ (i+1)≤k+1:=by have:=HM.out;rw [Nat.pow_succ];omega
   rcases hR2' with ⟨he,_⟩ | ⟨g2,rfl,hp0,hpc,hgk,hcell⟩
   ·rw [he] at hlen;simp at hlen;omega
   rw [hlen] at hp0 hpc hcell;have cz:=hcell i hlt;rw [js_getD _ _ _ _ (by rw [← HM.out];exact hlt),anc_twice HT.out HQ.out HX.out hi1] at cz;have HHI:=lh hi1;have HLEN:=lh hlen;clear hcell hlen hi1 hpow;have hq2:(wr.drewN nq).heap[q]? = some (.cells #[.int .i64 ((k:Int)+1),.slice (some ⟨g,0,none⟩) L c] 83 (0,0)):=by rw [HL.out];exact HQ1.out
   have hown2:(wr.drewN nq).ownsRow w.heap.size 27 1 (.slice (some ⟨g,0,none⟩) L c) L (jrow (setPar par root parent) root L):=by rw [HL.out];exact HOWN.out
   have hg2:w.grownBy (wr.drewN nq) none:=HG1.out.andThen (drewN_grown wr nq) (fun j e=>by cases e);have cz2:(wr.drewN nq).cell? ⟨g2,i,none⟩=some (.int .u64 (anc (setPar par root parent) root (2 ^ (i+1)))):=cz;have q12:(wr.drewN nq).cell? ⟨q,1,none⟩=some (.slice (some ⟨g,0,none⟩) L c):=q1;have qf2:(wr.drewN nq).frozen? ⟨q,1,none⟩=false:=frz hq2 1;have HQ2:=lh hq2;have HOWN2:=lh hown2;have HG2:=lh hg2;have hqlt:q < (wr.drewN nq).heap.size:=(Array.getElem?_eq_some_iff.1 hq2).1;have hgs:w.heap.size≤(wr.drewN nq).heap.size:=hg2.size;clear hq2 hown2 hg2 cz q1 hcg c0w hl2w hfd;generalize wr.drewN nq=w1 at *;obtain ⟨z,hz⟩ : ∃ z,z=anc (setPar par root parent) root (2 ^ (i+1)):=⟨_,rfl⟩;rw [← hz] at cz2;have HZ:=lh hz;clear hz;obtain ⟨i0,hi,hz0,hz1,hz2⟩:=info_parts info26;have HI0:=lh hi;have HZ0:=lh hz0;have HZ1:=lh hz1;have HZ2:=lh hz2;clear hi hz0 hz1 hz2;have hLb:L≤41:=by have:=HL.out;omega
   go_region_law (refine step_append_lies _ rfl (.tmp 61) (.tmp 66) 34 rfl w.heap.size 27 i0 (.int .u64 0) 1 8 Tryz.underlying34 HI0.out HZ0.out HZ1.out HZ2.out rfl (by decide) (.slice (some ⟨g,0,none⟩) L c) L (jrow (setPar par root parent) root L) (by simp [Act.eval]) (by exact (HOWN2.out.alloc _)) ⟨w1.heap.size,0,none⟩ 1 1 [.int .u64 z] (by simp [Act.eval]) rfl (World.news_of_block (MapKept.heap_alloc _ _).1) (by simp [Value.oneCell']) (by decide) (by unfold maxLen;omega) (by omega) (by simp;omega) _ rfl ?_;intro g3 c3 w3 hown3 hgrow3 hat3 hlt3;have hq3:=(hgrow3.block q (by simp;omega) (fun e=>hgq (by cases e;rfl))).trans (((World.grownBy_alloc w1 _ none).block q hqlt (by simp)).trans HQ2.out);have qf3:=frz hq3 1;have q13:w3.cell? ⟨q,1,none⟩=some (.slice (some ⟨g,0,none⟩) L c):=(by simp [World.cell?,hq3]);have HQ3:=lh hq3;have HOWN3:=lh hown3;have HGR3:=lh hgrow3;clear hq3 hown3 hgrow3)
   all_goals
    go_wp2;refine ⟨⟨i+1,by simp,HHI.out,addcur_next HL.out (congrArg (Value.int .u64) HZ.out) (by first | exact HG2.out.andThen (World.grownBy_alloc w1 _ none) (fun j e=>by cases e) | exact gdrew (HG2.out.andThen (World.grownBy_alloc w1 _ none) (fun j e=>by cases e))) HQ3.out HOWN3.out HGR3.out (HOWN2.out.lt g rfl).1 (by have:=HQE.out;omega) ?_⟩,by simp [intOf];omega⟩;rcases hat3 with h | h
    ·simp [Value.ownBlock] at h;omega
    ·simp at h;omega
  ·have g1:decide (blen m≤i)=true:=decide_eq_true (by omega);go_wp2;go_quiet (fail)
   go_wp2;have hq2:(wr.drewN nq).heap[q]? = some (.cells #[.int .i64 ((k:Int)+1),.slice (some ⟨g,0,none⟩) L c] 83 (0,0)):=by rw [HL.out];exact HQ1.out
   have hown2:(wr.drewN nq).ownsRow w.heap.size 27 1 (.slice (some ⟨g,0,none⟩) L c) L (jrow (setPar par root parent) root L):=by rw [HL.out];exact HOWN.out
   have hg2:w.grownBy (wr.drewN nq) none:=HG1.out.andThen (drewN_grown wr nq) (fun j e=>by cases e);have q02:(wr.drewN nq).cell? ⟨q,0,none⟩=some (.int .i64 ((k:Int)+1)):=cel hq2 0;have q12:(wr.drewN nq).cell? ⟨q,1,none⟩=some (.slice (some ⟨g,0,none⟩) L c):=q1;have HS2:=HH.out.kept hg2 (fun j e=>by cases e);have c02:=cell_p HS2;have HQ2:=lh hq2;have HOWN2:=lh hown2;have HG2:=lh hg2;have HSS:=lh HS2;clear hq2 hown2 hg2 q1 hcg c0w hl2w hfd HS2;generalize wr.drewN nq=w1 at *
   go_still_tail 6,(by kernel_rfl)
   obtain ⟨hs1,hs2,hs3,hs4,F,hF,hN⟩:=HSS.out;have hFx:F root=none:=by
    have:=hN root hr;unfold NodeAt at this;rw [HX.out] at this;exact this
   have HF:=lh hF;have HNN:=lh hN;have HS4:=lh hs4;have HFX:=lh hFx;clear hF hN hs4 hFx;change wpList _ _ _ _ _ w1.drew;refine wpList_store_raw (HF.out.kept (gdrew (gR w1 none)) (by simp)) rfl _ _ _ 84 (Or.inl rfl) Tryz.underlying27 Tryz.underlying84 (by unfold maxLen;omega) hr HFX.out _ rfl rfl rfl ?_;intro w4 hF4 hg4;have HF4:=lh hF4;have HG4:=lh hg4;clear hF4 hg4;go_wp2;go_ret;exact ⟨rfl,add_done hok HT.out HX.out HL.out HI.out (by rw [← HM.out];exact hlt) hs1 hs2 hs3 HS4.out HNN.out HF.out HG2.out HOWN2.out HF4.out ⟨HG4.out.os,HG4.out.tape,HG4.out.output,HG4.out.size,HG4.out.block⟩⟩
end Go.Proofs.YtndfpmboanohcaaGreatDoor
