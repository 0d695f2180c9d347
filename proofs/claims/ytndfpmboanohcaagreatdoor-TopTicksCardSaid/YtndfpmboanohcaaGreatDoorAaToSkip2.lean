/- Short names of two laws. -/
import Derived.Lib.Hide
import Derived.Test.YtndfpmboanohcaaGreatDoorProg
import Derived.Maps.OwnSet
import Derived.WalkKit
import Derived.Maps.Range
import Derived.BigQuiet
import Derived.Deep.QuietTactic
import Derived.Deep.LoopGhost
namespace Go.Proofs.YtndfpmboanohcaaGreatDoor
open Go
theorem lh {p:Prop} (h:p):RowKit.Hid p:=h
theorem gR (w:World) (q:Option Nat):w.grownBy w q:=World.grownBy.refl w q
end Go.Proofs.YtndfpmboanohcaaGreatDoor
namespace Go.Proofs.YtndfpmboanohcaaGreatDoor
set_option maxRecDepth 100000
open Go.RowKit Go.Maps
def rawE (v:Value):Option (DataW Value×List MemPlace):=some (.held v,[])
def kk (k:Int):Lit:=.int .u64 k
def inU (k:Int):Prop:=0≤k∧k≤18446744073709551615
theorem kk_wf {k:Int} (h:inU k):(Lit.int .u64 k).wf=true:=by
 obtain ⟨h0,h1⟩:=h;simp [Lit.wf,IntKind.min,IntKind.max,IntKind.signed,IntKind.bits];omega
theorem kk_ne {k j:Int} (h:j≠k):kk j≠kk k:=by
 unfold kk;intro e
 injection e with _ e
 exact h e
def HoldsAs (D:DataW Value) (F:Int→Option Value):Prop:=
 ∀ k,inU k→(F k=none→Maps.has D (kk k)=false)∧(∀ v,F k=some v→Maps.has D (kk k)=true∧∀ z,D.atKey (kk k) z=.held v)
def RawMap (P:Program) (kt:TypeId) (w:World) (b n:Nat) (F:Int→Option Value):Prop:=
 ∃ D:DataW Value,w.ownsMap P kt rawE b n D∧HoldsAs D F∧Maps.size D=n
def upd (F:Int→Option Value) (k:Int) (v:Value):Int→Option Value:=fun j=>if j=k then some v else F j
section
variable {P:Program} {kt et mt:TypeId} {w:World} {b n:Nat} {F:Int→Option Value}
theorem RawMap.lt (h:RawMap P kt w b n F):b < w.heap.size:=by
 obtain ⟨D,h,_⟩:=h;exact h.lt
theorem RawMap.made (P:Program) (kt:TypeId) (w:World):RawMap P kt (w.alloc (.map #[] 0)) w.heap.size 0 (fun _=>none):=
 ⟨.map [],World.ownsMap_made w P kt rawE,fun k _=>⟨fun _=>rfl,fun v h=>by cases h⟩,rfl⟩
theorem RawMap.kept {w':World} {row:Option Nat} (h:RawMap P kt w b n F) (hg:w.grownBy w' row) (hne:some b≠row):RawMap P kt w' b n F:=by
 obtain ⟨D,h,h2⟩:=h;exact ⟨D,h.kept hg hne,h2⟩
theorem RawMap.setCell (h:RawMap P kt w b n F) {a:Addr} (ha:b≠a.block) (u:Value):RawMap P kt (w.setCell a u) b n F:=by
 obtain ⟨D,h,h2⟩:=h;exact ⟨D,h.setCell ha u,h2⟩
theorem RawMap.look_ok (h:RawMap P kt w b n F) (hk:P.underlying kt=some (.int .u64)) (ht:P.underlying mt=some (.map kt et)) {z:Value} (hz:(zeroValue et).run P w=.ok z w) {k:Int} (hin:inU k) :
  (Instr.lookup mt (.map (some b)) (.int .u64 k) true).run P w=.ok (.tuple #[(F k).getD z,.bool (F k).isSome]) w:=by
 obtain ⟨D,h,hH,_⟩:=h;obtain ⟨v,ps,hrun,hv⟩:=h.look_ok (int_keyed hk) ht hz (zd:=.held z) (zp:=[]) rfl (keyOf_int_mk hk (kk_wf hin));rw [hrun];obtain ⟨hn,hs⟩:=hH k hin;cases hF:F k with
 | none=>
  have h1:=hn hF;have h2:=atKey_of_not_has h1 (.held z);have h3:(Lit.int .u64 k)=kk k:=rfl;rw [h3,h2] at hv;rw [h3,h1];simp [rawE] at hv;obtain ⟨rfl,_⟩:=hv;rfl
 | some u=>
  obtain ⟨h1,h2⟩:=hs u hF;have h3:(Lit.int .u64 k)=kk k:=rfl;rw [h3,h2] at hv;rw [h3,h1];simp [rawE] at hv;obtain ⟨rfl,_⟩:=hv;rfl
theorem RawMap.look (h:RawMap P kt w b n F) (hk:P.underlying kt=some (.int .u64)) (ht:P.underlying mt=some (.map kt et)) {z:Value} (hz:(zeroValue et).run P w=.ok z w) {k:Int} (hin:inU k) :
  (Instr.lookup mt (.map (some b)) (.int .u64 k) false).run P w=.ok ((F k).getD z) w:=by
 obtain ⟨D,h,hH,_⟩:=h;obtain ⟨v,ps,hrun,hv⟩:=h.lookup (int_keyed hk) ht hz (zd:=.held z) (zp:=[]) rfl (keyOf_int_mk hk (kk_wf hin));rw [hrun];obtain ⟨hn,hs⟩:=hH k hin;have h3:(Lit.int .u64 k)=kk k:=rfl;cases hF:F k with
 | none=>
  rw [h3,atKey_of_not_has (hn hF) (.held z)] at hv;simp [rawE] at hv;obtain ⟨rfl,_⟩:=hv;rfl
 | some u=>
  rw [h3,(hs u hF).2] at hv;simp [rawE] at hv;obtain ⟨rfl,_⟩:=hv;rfl
theorem RawMap.len (h:RawMap P kt w b n F) (ht:P.underlying mt=some (.map kt et)) (ty:TypeId):(Builtin.len_ #[mt] ty #[.map (some b)]).run P w=.ok (.int .i64 n) w:=by
 obtain ⟨D,h,_,hs⟩:=h;rw [← hs];exact h.len ht ty
theorem holdsAs_put {D:DataW Value} (hD:IsMap D) (h:HoldsAs D F) {k:Int} (hin:inU k) (v:Value):HoldsAs (D.put (kk k) (.held v)) (upd F k v):=by
 intro j hj;by_cases e:j=k
 ·subst e;refine ⟨fun h=>by simp [upd] at h,fun u hu=>?_⟩;simp [upd] at hu;subst hu;exact ⟨has_put_same hD (by exact trivial) _,fun z=>atKey_put_same hD (by exact trivial) _ _⟩
 ·have e2:=kk_ne e;obtain ⟨h1,h2⟩:=h j hj;refine ⟨fun h=>?_,fun u hu=>?_⟩
  ·simp [upd,e] at h;rw [has_put_other e2];exact h1 h
  ·simp [upd,e] at hu;obtain ⟨g1,g2⟩:=h2 u hu;exact ⟨by rw [has_put_other e2];exact g1,fun z=>by rw [atKey_put_other e2];exact g2 z⟩
theorem RawMap.store_new (h:RawMap P kt w b n F) (hk:P.underlying kt=some (.int .u64)) (ht:P.underlying mt=some (.map kt et)) (hn:n < maxLen) {k:Int} (hin:inU k) (hF:F k=none) (v:Value) :
  ∃ w',(Instr.mapUpdate mt (.map (some b)) (.int .u64 k) v).run P w=.ok () w'∧RawMap P kt w' b (n+1) (upd F k v)∧w.grownBy w' (some b):=by
 obtain ⟨D,h,hH,hs⟩:=h;obtain ⟨w',hrun,h',hg⟩:=h.update (int_keyed hk) ht hn (keyOf_int_mk hk (kk_wf hin)) (val:=v) (d:=.held v) (ps:=[]) rfl;refine ⟨w',hrun,⟨_,h',holdsAs_put h.isMap hH hin v,?_⟩,hg⟩;have:=size_put (k:=kk k) (h.tidy (int_keyed hk)) (.held v);rw [(hH k hin).1 hF] at this;show Maps.size (D.put (kk k) (.held v))=n+1;rw [this,hs];rfl
end
section
variable {P:Program} {w:World} {ops:Array Oper} {rest:List Oper} {o:Oper} {a:Act} {Q:Exit→Act→World→Prop} {kt et:TypeId} {b n:Nat} {F:Int→Option Value}
theorem wpList_store_raw (h:RawMap P kt w b n F) (hg:o.guard=none) (m x v:Operand) (t:TypeId) (hop:o.op=Op.mapUpdate t m x v∨o.op=Op.insert t m x v)
  (hk:P.underlying kt=some (.int .u64)) (ht:P.underlying t=some (.map kt et)) (hn:n < maxLen) {k:Int} (hin:inU k) (hF:F k=none) (val:Value)
  (hm:a.eval m=.map (some b)) (hx:a.eval x=.int .u64 k) (hv:a.eval v=val)
  (hK : ∀ w',RawMap P kt w' b (n+1) (upd F k val)→w.grownBy w' (some b)→wpList P ops Q rest (a.put o.dst undef) w') :
  wpList P ops Q (o :: rest) a w:=by
 refine wpList_plain hg fun K' hK'=>?_;obtain ⟨w',hrun,r1,r2⟩:=h.store_new hk ht hn hin hF val;unfold Oper.wp;rcases hop with hop | hop;all_goals
  simp [execOp,hop,hm,hx,hv,hrun,Result.andThen];exact hK' _ _ (hK w' r1 r2)
end
end Go.Proofs.YtndfpmboanohcaaGreatDoor
namespace Go.Proofs.YtndfpmboanohcaaGreatDoor.SkipPure
def anc (par:Int→Int) (r:Int):Nat→Int
 | 0=>r
 | d+1=>par (anc par r d)
theorem anc_add (par:Int→Int) (r:Int) (a:Nat) : ∀ b:Nat,anc par (anc par r a) b=anc par r (a+b)
 | 0=>rfl
 | b+1=>by rw [anc,anc_add par r a b,← Nat.add_assoc];rfl
def blen (h:Nat):Nat:=if h=0 then 0 else Nat.log2 h+1
theorem lt_blen {h i:Nat}:i < blen h↔2 ^ i≤h:=by
 unfold blen;by_cases e:h=0
 ·subst e;simp
 ·rw [if_neg e,Nat.lt_succ_iff,Nat.le_log2 e]
theorem blen_le {h i:Nat}:blen h≤i↔h < 2 ^ i:=by
 have:=@lt_blen h i;omega
theorem blen_pos {h:Nat} (h0:0 < h):0 < blen h:=lt_blen.2 (by simp;omega)
theorem lt_pow_blen (h:Nat):h < 2 ^ blen h:=blen_le.1 (Nat.le_refl _)
def js (par:Int→Int) (r:Int) (h:Nat):List Int:=(List.range (blen h)).map fun i=>anc par r (2 ^ i)
theorem js_length (par:Int→Int) (r:Int) (h:Nat):(js par r h).length=blen h:=by simp [js]
theorem js_getD (par:Int→Int) (r:Int) (h i:Nat) (hi:i < blen h):(js par r h).getD i 0=anc par r (2 ^ i):=by
 unfold js;rw [List.getD_eq_getElem?_getD,List.getElem?_map,List.getElem?_range hi];rfl
def pop (n:Nat):Nat:=if h:n=0 then 0 else n % 2+pop (n / 2)
theorem pop_zero:pop 0=0:=by rw [pop];rfl
theorem pop_step {n:Nat} (h:0 < n):pop n=n % 2+pop (n / 2):=by rw [pop,dif_neg (by omega)]
theorem pop_top : ∀ (k n:Nat),2 ^ k≤n→n < 2 ^ (k+1)→pop n=1+pop (n - 2 ^ k)
 | 0,n,h1,h2=>by
  have : n=1:=by simp at h1 h2;omega
  subst this;rw [pop_step (by omega)]
 | k+1,n,h1,h2=>by
  have e:2 ^ (k+1)=2 * 2 ^ k:=by rw [Nat.pow_succ];omega
  have e2:2 ^ (k+1+1)=2 * 2 ^ (k+1):=by rw [Nat.pow_succ];omega
  have ih:=pop_top k (n / 2) (by omega) (by omega);rw [pop_step (by have:=Nat.two_pow_pos (k+1);omega),ih];by_cases z:n - 2 ^ (k+1)=0
  ·rw [z,pop_zero,show n / 2 - 2 ^ k=0 by omega,pop_zero];omega
  ·rw [pop_step (n:=n - 2 ^ (k+1)) (by omega),show (n - 2 ^ (k+1)) % 2=n % 2 by omega,show (n - 2 ^ (k+1)) / 2=n / 2 - 2 ^ k by omega];omega
theorem pop_le (n : Nat) : ∀ k, n < 2 ^ k → pop n ≤ k := by
 intro k
 induction k generalizing n with
 | zero => intro h; have : n = 0 := by simpa using h
           subst this; rw [pop_zero]; omega
 | succ k ih =>
  intro h
  by_cases z : n = 0
  ·subst z; rw [pop_zero]; omega
  ·rw [pop_step (by omega)]
   have e : 2 ^ (k + 1) = 2 * 2 ^ k := by rw [Nat.pow_succ]; omega
   have := ih (n / 2) (by omega)
   omega
def Tree (hgt:Int→Option Nat) (par:Int→Int):Prop:=∀ r h,hgt r=some (h+1)→hgt (par r)=some h
theorem hgt_anc {hgt:Int→Option Nat} {par:Int→Int} (T:Tree hgt par) {r:Int} {h:Nat} (hr:hgt r=some h) : ∀ d,d≤h→hgt (anc par r d)=some (h - d)
 | 0,_=>hr
 | d+1,hd=>by
  have:=hgt_anc T hr d (by omega);rw [anc,T (anc par r d) (h - (d+1)) (by rw [this];congr 1;omega)]
def setPar (par:Int→Int) (r q:Int):Int→Int:=fun x=>if x=r then q else par x
def setHgt (hgt:Int→Option Nat) (r:Int) (h:Nat):Int→Option Nat:=fun x=>if x=r then some h else hgt x
theorem anc_set {hgt:Int→Option Nat} {par:Int→Int} (T:Tree hgt par) {x q:Int} (hx:hgt x=none) {r:Int} {h:Nat} (hr:hgt r=some h) : ∀ d,d≤h→anc (setPar par x q) r d=anc par r d
 | 0,_=>rfl
 | d+1,hd=>by
  rw [anc,anc_set T hx hr d (by omega),anc];unfold setPar;rw [if_neg];intro e;have:=hgt_anc T hr d (by omega);rw [e,hx] at this;cases this
theorem js_set {hgt:Int→Option Nat} {par:Int→Int} (T:Tree hgt par) {x q:Int} (hx:hgt x=none) {r:Int} {h:Nat} (hr:hgt r=some h):js (setPar par x q) r h=js par r h:=by
 unfold js;apply List.map_congr_left;intro i hi;have hi:i < blen h:=by simpa using hi
 exact anc_set T hx hr _ (lt_blen.1 hi)
theorem anc_new {hgt:Int→Option Nat} {par:Int→Int} (T:Tree hgt par) {x q:Int} (hx:hgt x=none) {h:Nat} (hq:hgt q=some h) : ∀ d,d≤h→anc (setPar par x q) x (d+1)=anc par q d
 | 0,_=>by show setPar par x q x=q;simp [setPar]
 | d+1,hd=>by
  rw [anc,anc_new T hx hq d (by omega),anc];unfold setPar;rw [if_neg];intro e;have:=hgt_anc T hq d (by omega);rw [e,hx] at this;cases this
theorem Tree.set {hgt:Int→Option Nat} {par:Int→Int} (T:Tree hgt par) {x q:Int} (hx:hgt x=none) {h:Nat} (hq:hgt q=some h):Tree (setHgt hgt x (h+1)) (setPar par x q):=by
 intro r k hr;have hne:q≠x:=fun e=>by rw [e,hx] at hq;cases hq
 by_cases e:r=x
 ·subst e;simp [setHgt] at hr;subst hr;simp [setHgt,setPar,hne,hq]
 ·have hr':hgt r=some (k+1):=by simpa [setHgt,e] using hr
  have h1:=T r k hr';have hne2:par r≠x:=fun e=>by rw [e,hx] at h1;cases h1
  simp [setHgt,setPar,e,hne2,h1]
end Go.Proofs.YtndfpmboanohcaaGreatDoor.SkipPure
namespace Go.Proofs.YtndfpmboanohcaaGreatDoor
set_option maxRecDepth 100000
open Go.RowKit Go.Maps SkipPure
def RowAt (w:World) (ok:Nat→Prop) (a:Option Addr) (c:Nat) (xs:List Int):Prop:=
 (xs=[]∧a=none∧c=0)∨∃ g,a=some ⟨g,0,none⟩∧0 < xs.length∧xs.length≤c∧ok g∧∀ i,i < xs.length→w.cell? ⟨g,i,none⟩=some (.int .u64 (xs.getD i 0))
def node (h:Nat) (a:Option Addr) (l c:Nat):Value:=.agg #[.int .i64 (h:Int),.slice a l c]
def NodeAt (w:World) (ok:Nat→Prop) (hgt:Int→Option Nat) (par:Int→Int) (r:Int) (f:Option Value):Prop:=
 match hgt r with
 | none=>f=none
 | some h=>∃ a c,f=some (node h a (blen h) c)∧RowAt w ok a c (js par r h)
def SkipAt (w:World) (ok:Nat→Prop) (p b n:Nat) (hgt:Int→Option Nat) (par:Int→Int):Prop:=
 ok p∧ok b∧p≠b∧w.heap[p]? = some (.cells #[.map (some b)] 86 (0,0))∧∃ F,RawMap Tryz.prog 27 w b n F∧∀ r,inU r→NodeAt w ok hgt par r (F r)
theorem zero52 (w:World):(zeroValue 83).run Tryz.prog w=.ok (.agg #[.int .i64 0,.slice none 0 0]) w:=by kernel_rfl
theorem cell_p {w:World} {ok:Nat→Prop} {p b n:Nat} {hgt:Int→Option Nat} {par:Int→Int} (h:SkipAt w ok p b n hgt par):w.cell? ⟨p,0,none⟩=some (.map (some b)):=by
 obtain ⟨_,_,_,h,_⟩:=h;simp [World.cell?,h]
theorem height_calls {w:World} {ok:Nat→Prop} {p b n:Nat} {hgt:Int→Option Nat} {par:Int→Int} (h:SkipAt w ok p b n hgt par) {r:Int} (hr:inU r) :
  Calls Tryz.prog 9 #[.pointer (some ⟨p,0,none⟩),.int .u64 r] w fun e w'=>e=.returned (.tuple #[.int .i64 ((hgt r).getD 0:Nat),.bool (hgt r).isSome])∧w.grownBy w' none:=by
 have c0:=cell_p h;obtain ⟨_,_,_,_,F,hF,hN⟩:=h;have hl:=hF.look_ok Tryz.underlying27 Tryz.underlying84 (zero52 w) hr;have hn:=hN r hr;clear hN hF;unfold NodeAt at hn;cases hh:hgt r with
 | none=>
  rw [hh] at hn;simp only at hn;rw [hn] at hl;clear hn hh;simp only [Option.getD_none,Option.isSome_none] at hl ⊢;go_enter Tryz.func9,Tryz.ntmps9
  go_wp2;go_ret2;exact ⟨rfl,World.grownBy_alloc _ _ _⟩
 | some k=>
  rw [hh] at hn;simp only at hn;obtain ⟨a,c,hs,_⟩:=hn;rw [hs] at hl;clear hs hh;simp only [node,Option.getD_some,Option.isSome_some] at hl ⊢;go_enter Tryz.func9,Tryz.ntmps9
  go_wp2;go_ret2;exact ⟨rfl,World.grownBy_alloc _ _ _⟩
def hgtOne (r:Int):Int→Option Nat:=fun x=>if x=r then some 0 else none
theorem of_calls (w:World) {r:Int} (hr:inU r) :
  Calls Tryz.prog 7 #[.int .u64 r] w fun e w'=>∃ p b,e=.returned (.pointer (some ⟨p,0,none⟩))∧SkipAt w' (fun k=>w.heap.size≤k∧k < w'.heap.size) p b 1 (hgtOne r) (fun x=>x)∧w.grownBy w' none:=by
 have hmm:=@run_makeMap Tryz.prog;go_enter Tryz.func7,Tryz.ntmps7
 go_wp2_with (refine wpList_store_raw (RawMap.made Tryz.prog 27 _) rfl _ _ _ 84 (Or.inr rfl) Tryz.underlying27 Tryz.underlying84 (by unfold maxLen;omega) hr rfl _ rfl rfl rfl ?_;intro w1 hF hg)
 have hlt:w.heap.size < w1.heap.size:=by have:=hg.size;simp at this;omega
 go_ret;refine ⟨w1.heap.size,w.heap.size,rfl,⟨⟨Nat.le_of_lt hlt,by simp⟩,⟨Nat.le_refl _,by simp;omega⟩,by omega,(MapKept.heap_alloc w1 _).1,_,hF.kept (World.grownBy_alloc w1 _ none) (by simp),fun x hx=>?_⟩,?_⟩
 ·unfold NodeAt hgtOne upd;by_cases e:x=r
  ·subst e;simp only [if_true];exact ⟨none,0,rfl,Or.inl ⟨rfl,rfl,rfl⟩⟩
  ·simp only [e,if_false]
 ·refine ((World.grownBy_alloc w _ none).andThen hg (fun j e=>Or.inl ?_)).andThen (World.grownBy_alloc w1 _ none) (fun j e=>by cases e);cases e;exact Nat.le_refl _
theorem RowAt.kept {w w':World} {ok:Nat→Prop} {a:Option Addr} {c:Nat} {xs:List Int} {row:Option Nat} (h:RowAt w ok a c xs) (hg:w.grownBy w' row) (hr : ∀ k,row=some k→¬ ok k):RowAt w' ok a c xs:=by
 rcases h with h | ⟨g,e,h0,hc,hok,hx⟩
 ·exact Or.inl h
 ·exact Or.inr ⟨g,e,h0,hc,hok,fun i hi=>hg.cell (hx i hi) (fun e=>hr g e.symm hok)⟩
theorem RowAt.keptBlock {w w':World} {ok:Nat→Prop} {a:Option Addr} {c:Nat} {xs:List Int} {b:Nat} (h:RowAt w ok a c xs) (hg:w.grownBy w' (some b)) (hb : ∃ es cl,w.heap[b]? = some (.map es cl)):RowAt w' ok a c xs:=by
 rcases h with h | ⟨g,e,h0,hc,hok,hx⟩
 ·exact Or.inl h
 ·refine Or.inr ⟨g,e,h0,hc,hok,fun i hi=>hg.cell (hx i hi) (fun e=>?_)⟩;cases e;obtain ⟨es,cl,hb⟩:=hb;have:=hx 0 h0;simp [World.cell?,hb] at this
theorem RowAt.imp {w:World} {ok ok':Nat→Prop} {a:Option Addr} {c:Nat} {xs:List Int} (h:RowAt w ok a c xs) (ho : ∀ k,ok k→ok' k):RowAt w ok' a c xs:=by
 rcases h with h | ⟨g,e,h0,hc,hok,hx⟩
 ·exact Or.inl h
 ·exact Or.inr ⟨g,e,h0,hc,ho g hok,hx⟩
theorem NodeAt.kept {w w':World} {ok:Nat→Prop} {hgt:Int→Option Nat} {par:Int→Int} {r:Int} {f:Option Value} {row:Option Nat} (h:NodeAt w ok hgt par r f) (hg:w.grownBy w' row) (hr : ∀ k,row=some k→¬ ok k):NodeAt w' ok hgt par r f:=by
 unfold NodeAt at *;split at h
 ·exact h
 ·obtain ⟨a,c,h1,h2⟩:=h;exact ⟨a,c,h1,h2.kept hg hr⟩
theorem SkipAt.kept {w w':World} {ok:Nat→Prop} {p b n:Nat} {hgt:Int→Option Nat} {par:Int→Int} {row:Option Nat} (h:SkipAt w ok p b n hgt par) (hg:w.grownBy w' row) (hr : ∀ k,row=some k→¬ ok k):SkipAt w' ok p b n hgt par:=by
 obtain ⟨h1,h2,h3,h4,F,h5,h6⟩:=h;have hlt:p < w.heap.size:=(Array.getElem?_eq_some_iff.1 h4).1;exact ⟨h1,h2,h3,(hg.block p hlt (fun e=>hr p e.symm h1)).trans h4,F,h5.kept hg (fun e=>hr b e.symm h2),fun r hx=>(h6 r hx).kept hg hr⟩
theorem SkipAt.imp {w:World} {ok ok':Nat→Prop} {p b n:Nat} {hgt:Int→Option Nat} {par:Int→Int} (h:SkipAt w ok p b n hgt par) (ho : ∀ k,ok k→ok' k):SkipAt w ok' p b n hgt par:=by
 obtain ⟨h1,h2,h3,h4,F,h5,h6⟩:=h;refine ⟨ho _ h1,ho _ h2,h3,h4,F,h5,fun r hx=>?_⟩;have:=h6 r hx;unfold NodeAt at *;split at this
 ·exact this
 ·obtain ⟨a,c,h1,h2⟩:=this;exact ⟨a,c,h1,h2.imp ho⟩
theorem SkipAt.node {w:World} {ok:Nat→Prop} {p b n:Nat} {hgt:Int→Option Nat} {par:Int→Int} (h:SkipAt w ok p b n hgt par) {r:Int} (hr:inU r) {k:Nat} (hk:hgt r=some k) :
  ∃ a c,RowAt w ok a c (js par r k)∧(Instr.lookup 84 (.map (some b)) (.int .u64 r) true).run Tryz.prog w=.ok (.tuple #[.agg #[.int .i64 (k:Int),.slice a (blen k) c],.bool true]) w ∧
   (Instr.lookup 84 (.map (some b)) (.int .u64 r) false).run Tryz.prog w=.ok (.agg #[.int .i64 (k:Int),.slice a (blen k) c]) w:=by
 obtain ⟨_,_,_,_,F,hF,hN⟩:=h;have hn:=hN r hr;unfold NodeAt at hn;rw [hk] at hn;obtain ⟨a,c,e,hR⟩:=hn;have h1:=hF.look_ok Tryz.underlying27 Tryz.underlying84 (zero52 w) hr;have h2:=hF.look Tryz.underlying27 Tryz.underlying84 (zero52 w) hr;rw [e] at h1 h2;exact ⟨a,c,hR,h1,h2⟩
theorem SkipAt.noNode {w:World} {ok:Nat→Prop} {p b n:Nat} {hgt:Int→Option Nat} {par:Int→Int} (h:SkipAt w ok p b n hgt par) {r:Int} (hr:inU r) (hk:hgt r=none) :
  (Instr.lookup 84 (.map (some b)) (.int .u64 r) true).run Tryz.prog w=.ok (.tuple #[.agg #[.int .i64 0,.slice none 0 0],.bool false]) w:=by
 obtain ⟨_,_,_,_,F,hF,hN⟩:=h;have hn:=hN r hr;unfold NodeAt at hn;rw [hk] at hn;have h1:=hF.look_ok Tryz.underlying27 Tryz.underlying84 (zero52 w) hr;have hn:F r=none:=hn;rw [hn] at h1;exact h1
theorem drewN_grown (w:World) (n:Nat):w.grownBy (w.drewN n) none:=⟨rfl,rfl,rfl,Nat.le_refl _,fun _ _ _=>rfl⟩
theorem SkipAt.nodeN {w:World} {ok:Nat→Prop} {p b n:Nat} {hgt:Int→Option Nat} {par:Int→Int} (h:SkipAt w ok p b n hgt par) {r:Int} (hr:inU r) {k:Nat} (hk:hgt r=some k) :
  ∃ a c,RowAt w ok a c (js par r k)∧∀ nq,(Instr.lookup 84 (.map (some b)) (.int .u64 r) false).run Tryz.prog (w.drewN nq)=.ok (.agg #[.int .i64 (k:Int),.slice a (blen k) c]) (w.drewN nq):=by
 obtain ⟨_,_,_,_,F,hF,hN⟩:=h;have hn:=hN r hr;unfold NodeAt at hn;rw [hk] at hn;obtain ⟨a,c,e,hR⟩:=hn;refine ⟨a,c,hR,fun nq=>?_⟩;have h2:=(hF.kept (drewN_grown w nq) (by simp)).look Tryz.underlying27 Tryz.underlying84 (zero52 (w.drewN nq)) hr;rw [e] at h2;exact h2
theorem wrap_pow (j:Nat) (h:j≤60):wrap64 (2 ^ j)=((2 ^ j:Nat):Int):=by
 have h1:(2:Nat) ^ j≤2 ^ 60:=Nat.pow_le_pow_right (by omega) h;have e:((2:Int) ^ j)=((2 ^ j:Nat):Int):=by norm_cast
 rw [e];have h2:(2:Nat) ^ 60=1152921504606846976:=by decide
 rw [h2] at h1;clear e h2;generalize (2:Nat) ^ j=x at *;unfold wrap64;omega
theorem sub_lt_cast {m a x:Nat} (h:m - a < x) (ha:a≤m):(m:Int) - (a:Int) < (x:Int):=by omega
theorem sub_ge_cast {m a x:Nat} (h:x≤m - a) (ha:a≤m):¬ (m:Int) - (a:Int) < (x:Int):=by omega
def Keys (hgt:Int→Option Nat):Prop:=∀ r h,hgt r=some h→inU r∧h < 1099511627776
theorem at_none {w:World} {ok:Nat→Prop} {p b n:Nat} {hgt:Int→Option Nat} {par:Int→Int} (h:SkipAt w ok p b n hgt par) {r at_:Int} (hr:inU r) (hn:hgt r=none) :
  Calls Tryz.prog 10 #[.pointer (some ⟨p,0,none⟩),.int .u64 r,.int .i64 at_] w fun e w'=>e=.returned (.tuple #[.int .u64 0,.int .i64 0,.bool false])∧w.grownBy w' none:=by
 have c0:=cell_p h;have hl:=h.noNode hr hn;clear h hn;go_enter Tryz.func10,Tryz.ntmps10
 go_wp2;go_ret3;exact ⟨rfl,World.grownBy_alloc _ _ _⟩
theorem at_out {w:World} {ok:Nat→Prop} {p b n:Nat} {hgt:Int→Option Nat} {par:Int→Int} (h:SkipAt w ok p b n hgt par) {r at_:Int} (hr:inU r) {k:Nat} (hn:hgt r=some k) (ho:at_ < 0∨(k:Int) < at_) :
  Calls Tryz.prog 10 #[.pointer (some ⟨p,0,none⟩),.int .u64 r,.int .i64 at_] w fun e w'=>e=.returned (.tuple #[.int .u64 0,.int .i64 0,.bool false])∧w.grownBy w' none:=by
 have c0:=cell_p h;obtain ⟨a,c,_,hl,_⟩:=h.node hr hn;clear h hn;by_cases h0:at_ < 0
 ·clear ho;have g0:decide (at_ < 0)=true:=decide_eq_true h0;go_enter Tryz.func10,Tryz.ntmps10
  go_wp2;go_ret3;exact ⟨rfl,World.grownBy_alloc _ _ _⟩
 ·have g0:decide (at_ < 0)=false:=decide_eq_false h0;have h1:(k:Int) < at_:=by omega
  have g1:decide ((k:Int) < at_)=true:=decide_eq_true h1;clear ho;go_enter Tryz.func10,Tryz.ntmps10
  go_wp2;go_ret3;exact ⟨rfl,World.grownBy_alloc _ _ _⟩
def Cur (w0:World) (q:Nat) (ok:Nat→Prop) (par:Int→Int) (r:Int) (h d:Nat) (w:World):Prop:=
 ∃ a c,w.heap[q]? = some (.cells #[.int .i64 ((h - d:Nat):Int),.slice a (blen (h - d)) c] 83 (0,0))∧RowAt w ok a c (js par (anc par r d) (h - d))∧w0.grownBy w none
theorem pair_store {w0 w1:World} {q:Nat} {x y x' y':Value} {T:TypeId} (hq:w0.heap.size≤q) (hb:w1.heap[q]? = some (.cells #[x,y] T (0,0))) (hg:w0.grownBy w1 none) :
  ((w1.setCell ⟨q,0,none⟩ x').setCell ⟨q,1,none⟩ y').heap[q]? = some (.cells #[x',y'] T (0,0))∧w1.grownBy ((w1.setCell ⟨q,0,none⟩ x').setCell ⟨q,1,none⟩ y') (some q)∧w0.grownBy ((w1.setCell ⟨q,0,none⟩ x').setCell ⟨q,1,none⟩ y') none:=by
 have h1:=heap_setCell_same w1 q 0 _ T x' hb;have h2:=heap_setCell_same (w1.setCell ⟨q,0,none⟩ x') q 1 _ T y' h1;have h3:w1.grownBy ((w1.setCell ⟨q,0,none⟩ x').setCell ⟨q,1,none⟩ y') (some q):=
  ⟨rfl,rfl,rfl,by simp,fun i _ hne=>by
   have : i≠q:=fun e=>hne (by rw [e]);rw [heap_setCell_other _ _ _ _ this,heap_setCell_other _ _ _ _ this]⟩
 exact ⟨h2,h3,hg.andThen h3 (fun j e=>Or.inl (by cases e;exact hq))⟩
theorem pop_round {P p1 p2:Nat} (h1:p1≤P) (h2:p1=1+p2) (hP:P≤64):wrap64 ((↑(P - p1):Int)+1)=((P - p2:Nat):Int):=by
 unfold wrap64;omega
set_option maxRecDepth 100000 in
set_option maxHeartbeats 1000000 in
theorem at_in {w:World} {ok:Nat→Prop} {p b n:Nat} {hgt:Int→Option Nat} {par:Int→Int} (h:SkipAt w ok p b n hgt par) (hok : ∀ j,ok j→j < w.heap.size) (T:Tree hgt par) (K:Keys hgt) {r:Int} {at_:Nat} {k:Nat} (hn:hgt r=some k) (ho:at_≤k) :
  Calls Tryz.prog 10 #[.pointer (some ⟨p,0,none⟩),.int .u64 r,.int .i64 at_] w fun e w'=>e=.returned (.tuple #[.int .u64 (anc par r (k - at_)),.int .i64 (pop (k - at_):Nat),.bool true])∧w.grownBy w' none:=by
 have hr:=(K r k hn).1;have hkb:=(K r k hn).2;have c0:=cell_p h;obtain ⟨a,c,hR,hl,_⟩:=h.node hr hn;have HH:=lh h;clear h;have g0:decide ((at_:Int) < 0)=false:=decide_eq_false (by omega);have g1:decide (k < at_)=false:=decide_eq_false (by omega);go_enter Tryz.func10,Tryz.ntmps10
 go_wp2;obtain ⟨q,hq⟩ : ∃ q,q=w.heap.size:=⟨_,rfl⟩
 go_loopw [1,11] (fun v1 v11 wr=>∃ d:Nat,d≤k - at_∧v1=.int .u64 (anc par r d)∧v11=.int .i64 ((pop (k - at_) - pop (k - at_ - d):Nat):Int)∧pop (k - at_ - d)≤pop (k - at_)∧Cur w q ok par r k d wr)
  (fun _ v11 _=>pop (k - at_) - (intOf v11).toNat)
 case atStart=>exact ⟨0,by omega,rfl,by simp,by simp,a,c,by rw [hq];exact (MapKept.heap_alloc w _).1,hR.kept (World.grownBy_alloc w _ none) (fun j e=>by cases e),World.grownBy_alloc w _ none⟩
 case round=>
  obtain ⟨d,hd,rfl,rfl,hpl,a1,c1,hq1,hR1,hg1⟩:=hrel;obtain ⟨wo,rfl⟩ : ∃ wo:World,wo=wr:=⟨_,rfl⟩;clear hR hl;have HS:=lh (HH.out.kept hg1 (fun j e=>by cases e));have c0':=cell_p HS.out;have q0:wo.cell? ⟨q,0,none⟩=some (.int .i64 ((k - d:Nat):Int)):=by simp [World.cell?,hq1]
  have q1:wo.cell? ⟨q,1,none⟩=some (.slice a1 (blen (k - d)) c1):=by simp [World.cell?,hq1]
  have HQ:=lh hq;have HQ1:=lh hq1;have HG1:=lh hg1;have HR1:=lh hR1;have HT:=lh T;have HK:=lh K;have HN:=lh hn;have HD:=lh hd;have HPL:=lh hpl;by_cases hlt:at_ < k - d
  ·clear hq hq1 hg1 hR1 T K hn hd hpl;obtain ⟨m,hm⟩ : ∃ m,m=k - d:=⟨_,rfl⟩;rw [← hm] at q0 q1 hlt;have hmb:m < 1099511627776:=by omega
   have HM:=lh hm;clear hm;have hb1:1≤blen m:=blen_pos (by omega);have hb2:blen m≤40:=blen_le.2 (by simpa using hmb);have g2:decide ((at_:Int) < (m:Int))=true:=decide_eq_true (by omega);have g3:decide (at_ < m)=true:=decide_eq_true (by omega);rw [← HQ.out];go_wp2
   go_loopw [12] (fun v12 wi=>∃ j:Nat,v12=.int .i64 (j:Int)∧j < blen m∧m - at_ < 2 ^ (j+1)∧Cur w q ok par r k d wi) (fun v12 _=>(intOf v12).toNat)
   case atStart=>
    exact ⟨blen m - 1,by congr 1;omega,by omega,by rw [show blen m - 1+1=blen m from by omega];exact Nat.lt_of_le_of_lt (Nat.sub_le _ _) (lt_pow_blen m),a1,c1,HQ1.out,HR1.out,HG1.out⟩
   case round=>
    obtain ⟨j,rfl,hj,hjr,a2,c2,hq2,hR2,hg2⟩:=hrel;have q0':wr.cell? ⟨q,0,none⟩=some (.int .i64 (m:Int)):=by simp [World.cell?,hq2,HM.out]
    have q1':wr.cell? ⟨q,1,none⟩=some (.slice a2 (blen m) c2):=by simp [World.cell?,hq2,HM.out]
    have hr1:1≤m - at_:=by omega
    by_cases hj2:m - at_ < 2 ^ j
    ·have h2:=wrap_pow j (by omega);have g4:decide ((m:Int) - (at_:Int) < wrap64 (2 ^ j))=true:=decide_eq_true (by rw [h2];exact sub_lt_cast hj2 (by omega));have hj0:1≤j:=by
      rcases Nat.eq_zero_or_pos j with e | e
      ·rw [e] at hj2;simp at hj2;omega
      ·exact e
     clear h2;go_wp2;go_quiet (fail)
     go_wp2;exact ⟨⟨j - 1,by congr 1;omega,by omega,by rw [show j - 1+1=j by omega];exact hj2,a2,c2,hq2,hR2.kept (drewN_grown wr nq) (fun j e=>by cases e),hg2.andThen (drewN_grown wr nq) (fun j e=>by cases e)⟩,by simp [intOf];omega⟩
    ·have h2:=wrap_pow j (by omega);have g4:decide ((m:Int) - (at_:Int) < wrap64 (2 ^ j))=false:=decide_eq_false (by rw [h2];exact sub_ge_cast (Nat.le_of_not_lt hj2) (by omega));clear h2;have hjm:2 ^ j≤m:=by omega
     have hlen:(js par (anc par r d) m).length=blen m:=js_length _ _ _;rw [← HM.out] at hR2;rcases hR2 with ⟨he,_⟩ | ⟨g,rfl,hp0,hpc,hgk,hcell⟩
     ·rw [he] at hlen;simp at hlen;omega
     rw [hlen] at hp0 hpc hcell;have cj:=hcell j hj;rw [js_getD _ _ _ _ hj,anc_add] at cj;have hnext:hgt (anc par r (d+2 ^ j))=some (k - (d+2 ^ j)):=hgt_anc HT.out HN.out _ (by have:=HM.out;have:=HD.out;omega);have hUn:=(HK.out _ _ hnext).1;obtain ⟨a3,c3,hR3,hl3⟩:=(HH.out.kept hg2 (fun j e=>by cases e)).nodeN hUn hnext;have hf0:wr.frozen? ⟨q,0,none⟩=false:=by simp [World.frozen?,hq2]
     have hf1:wr.frozen? ⟨q,1,none⟩=false:=by simp [World.frozen?,hq2]
     have c0'':=cell_p (HH.out.kept hg2 (fun j e=>by cases e));have HL:=lh hlen;have HNX:=lh hnext;clear hlen hcell hnext;go_wp2;go_quiet (fail)
     go_wp2;have hd1:d+2 ^ j≤k - at_:=by have:=HD.out;have:=HM.out;omega
     have hp1:pop (k - at_ - d)=1+pop (k - at_ - (d+2 ^ j)):=by
      rw [show k - at_ - (d+2 ^ j)=k - at_ - d - 2 ^ j by omega];have e:k - at_ - d=m - at_:=by have:=HM.out;omega
      rw [e];exact pop_top j _ (Nat.le_of_not_lt hj2) hjr
     have hP:pop (k - at_)≤64:=Nat.le_trans (pop_le (k - at_) 40 (by simp;omega)) (by omega);have hqs:w.heap.size≤q:=Nat.le_of_eq HQ.out.symm;have hps:=pair_store (x':=.int .i64 ((k - (d+2 ^ j):Nat):Int)) (y':=.slice a3 (blen (k - (d+2 ^ j))) c3) hqs hq2 hg2;have hps:=pair_store (w1:=wr.drewN nq) (x':=.int .i64 ((k - (d+2 ^ j):Nat):Int)) (y':=.slice a3 (blen (k - (d+2 ^ j))) c3) hqs hq2 (hg2.andThen (drewN_grown wr nq) (fun j e=>by cases e));refine ⟨⟨d+2 ^ j,hd1,rfl,congrArg (Value.int .i64) (pop_round HPL.out hp1 hP),by have:=HPL.out;omega,a3,c3,hps.1,?_,hps.2.2⟩,?_⟩
     ·refine (hR3.kept (drewN_grown wr nq) (fun j e=>by cases e)).kept hps.2.1 (fun j e ho=>?_);cases e;have:=hok _ ho;omega
     ·rw [pop_round HPL.out hp1 hP];have:=HPL.out;simp [intOf];omega
  ·have hdk:d=k - at_:=by omega
   have g2:decide ((at_:Int) < ((k - d:Nat):Int))=false:=decide_eq_false (by omega);have g3:decide (at_ < k - d)=false:=decide_eq_false (by omega);clear hq hq1 hR1 T K hn hd hpl;have HDK:=lh hdk;clear hdk;rw [← HQ.out];go_wp2;go_ret3;refine ⟨?_,HG1.out⟩;have:=HDK.out;subst this;simp [pop_zero]
end Go.Proofs.YtndfpmboanohcaaGreatDoor
