/- Contracts of (*skip.List).At in one word, of Below, of the law's own ones and awake. -/
import Derived.Test.YtndfpmboanohcaaGreatDoorSkip3
import Derived.Deep.OwnRows
import Derived.Deep.RegionHeld3
namespace Go.Proofs.YtndfpmboanohcaaGreatDoor
set_option maxRecDepth 100000
open Go.RowKit Go.Maps SkipPure
def atF (hgt:Int→Option Nat) (par:Int→Int) (r at_:Int):Int×Nat×Bool:=
 match hgt r with
 | none=>(0,0,false)
 | some k=>if 0≤at_∧at_≤k then (anc par r (k - at_.toNat),pop (k - at_.toNat),true) else (0,0,false)
theorem at_any {w:World} {ok:Nat→Prop} {p b n:Nat} {hgt:Int→Option Nat} {par:Int→Int} (h:SkipAt w ok p b n hgt par) (hok : ∀ j,ok j→j < w.heap.size) (T:Tree hgt par) (K:Keys hgt) {r:Int} (hr:inU r) (at_:Int) :
  Calls Tryz.prog 10 #[.pointer (some ⟨p,0,none⟩),.int .u64 r,.int .i64 at_] w fun e w'=>e=.returned (.tuple #[.int .u64 (atF hgt par r at_).1,.int .i64 ((atF hgt par r at_).2.1:Nat),.bool (atF hgt par r at_).2.2])∧w.grownBy w' none:=by
 unfold atF;cases hh:hgt r with
 | none=>exact at_none h hr hh
 | some k=>
  by_cases hc:0≤at_∧at_≤k
  ·obtain ⟨m,rfl⟩:=Int.eq_ofNat_of_zero_le hc.1;simp only [hc,and_self,if_true,Int.toNat_natCast];exact at_in h hok T K hh (by omega)
  ·simp only [hc,if_false];exact at_out h hr hh (by omega)
def belowF (hgt:Int→Option Nat) (par:Int→Int) (r on:Int):Bool:=
 match hgt on with
 | none=>false
 | some h=>(atF hgt par r (h:Int)).2.2 && ((atF hgt par r (h:Int)).1 == on)
theorem below_calls {w:World} {ok:Nat→Prop} {p b n:Nat} {hgt:Int→Option Nat} {par:Int→Int} (h:SkipAt w ok p b n hgt par) (hok : ∀ j,ok j→j < w.heap.size) (T:Tree hgt par) (K:Keys hgt) {r on:Int} (hr:inU r) (ho:inU on) :
  Calls Tryz.prog 11 #[.pointer (some ⟨p,0,none⟩),.int .u64 r,.int .u64 on] w fun e w'=>e=.returned (.bool (belowF hgt par r on))∧w.grownBy w' none:=by
 have HH:=lh h;have HT:=lh T;have HK:=lh K;have HOK:=lh hok;clear h T K hok;unfold belowF;cases hh:hgt on with
 | none=>
  have H1:=lh hh;clear hh;go_enter Tryz.func11,Tryz.ntmps11
  go_wp2_with fail
  refine (height_calls HH.out ho).mono ?_;rintro e w1 ⟨rfl,hg1⟩;rw [H1.out];simp only [Option.getD_none,Option.isSome_none];go_wp2_with fail
  refine (at_any (HH.out.kept hg1 (fun j e=>by cases e)) (fun j h=>Nat.lt_of_lt_of_le (HOK.out j h) hg1.size) HT.out HK.out hr _).mono ?_;rintro e w2 ⟨rfl,hg2⟩;generalize atF hgt par r _=x;go_wp2;go_ret;exact ⟨by simp,hg1.andThen hg2 (fun j e=>by cases e)⟩
 | some m=>
  have H1:=lh hh;clear hh;go_enter Tryz.func11,Tryz.ntmps11
  go_wp2_with fail
  refine (height_calls HH.out ho).mono ?_;rintro e w1 ⟨rfl,hg1⟩;rw [H1.out];simp only [Option.getD_some,Option.isSome_some];go_wp2_with fail
  refine (at_any (HH.out.kept hg1 (fun j e=>by cases e)) (fun j h=>Nat.lt_of_lt_of_le (HOK.out j h) hg1.size) HT.out HK.out hr _).mono ?_;rintro e w2 ⟨rfl,hg2⟩;simp only;obtain ⟨v,hv⟩ : ∃ v,v=(atF hgt par r (m:Int)).1:=⟨_,rfl⟩;obtain ⟨s,hs⟩ : ∃ s,s=(atF hgt par r (m:Int)).2.2:=⟨_,rfl⟩;rw [← hv,← hs];have HV:=lh hv;have HS:=lh hs;clear hv hs;generalize (atF hgt par r (m:Int)).2.1=jj;cases s with
  | false=>
   go_wp2;go_ret;exact ⟨by rw [← HV.out,← HS.out];simp,hg1.andThen hg2 (fun j e=>by cases e)⟩
  | true=>
   go_wp2;go_ret;exact ⟨by rw [← HV.out,← HS.out];simp,hg1.andThen hg2 (fun j e=>by cases e)⟩
def Holds (w0 w:World) (p b n:Nat) (hgt:Int→Option Nat) (par:Int→Int):Prop:=
 ∃ ok,SkipAt w ok p b n hgt par∧(∀ j,ok j→w0.heap.size≤j∧j < w.heap.size)∧Tree hgt par∧Keys hgt∧w0.grownBy w none
section
variable {w0 w:World} {p b n:Nat} {hgt:Int→Option Nat} {par:Int→Int}
theorem Holds.kept {w':World} (h:Holds w0 w p b n hgt par) (hg:w.grownBy w' none):Holds w0 w' p b n hgt par:=by
 obtain ⟨ok,h1,h2,h3,h4,h5⟩:=h;exact ⟨ok,h1.kept hg (fun j e=>by cases e),fun j hj=>⟨(h2 j hj).1,Nat.lt_of_lt_of_le (h2 j hj).2 hg.size⟩,h3,h4,h5.andThen hg (fun j e=>by cases e)⟩
end
def Line (hgt:Int→Option Nat) (par:Int→Int) (a k:Int):Prop:=
 (∀ x,hgt x=if a≤x∧x < k then some (x - a).toNat else none)∧∀ x,a < x→x < k→par x=x - 1
theorem Line.next {hgt:Int→Option Nat} {par:Int→Int} {a k:Int} (h:Line hgt par a k) (hk:a < k):Line (setHgt hgt k ((k - 1 - a).toNat+1)) (setPar par k (k - 1)) a (k+1):=by
 refine ⟨fun x=>?_,fun x h1 h2=>?_⟩
 ·unfold setHgt;by_cases e:x=k
  ·rw [if_pos e,if_pos (by omega)];congr 1;omega
  ·rw [if_neg e,h.1 x];by_cases c:a≤x∧x < k
   ·rw [if_pos c,if_pos (by omega)]
   ·rw [if_neg c,if_neg (by omega)]
 ·unfold setPar;by_cases e:x=k
  ·rw [if_pos e,e]
  ·rw [if_neg e,h.2 x h1 (by omega)]
theorem Line.anc {hgt:Int→Option Nat} {par:Int→Int} {a k:Int} (h:Line hgt par a k) {x:Int} (hx:x < k) : ∀ d:Nat,a≤x - d→SkipPure.anc par x d=x - d
 | 0,_=>by simp [SkipPure.anc]
 | d+1,hd=>by
  rw [SkipPure.anc,h.anc hx d (by omega),h.2 (x - d) (by omega) (by omega)];omega
theorem max2' (k k':IntKind) (x y:Int):Builtin.max2 (.int k x) (.int k' y)=pure (.int k (max x y)):=by
 simp only [Builtin.max2,gt_iff_lt]
 congr 2
 by_cases c:x < y
 ·rw [if_pos c];omega
 ·rw [if_neg c];omega
theorem min2' (k k':IntKind) (x y:Int):Builtin.min2 (.int k x) (.int k' y)=pure (.int k (min x y)):=by
 simp only [Builtin.min2]
 congr 2
 by_cases c:y < x
 ·rw [if_pos c];omega
 ·rw [if_neg c];omega
theorem max_two' (ats:Array TypeId) (ty:TypeId) (a b:Value):Builtin.max_ ats ty #[a,b]=(Builtin.max2 a b >>= fun s=>pure s):=by simp only [Builtin.max_,List.foldlM_cons,List.foldlM_nil]
theorem min_two' (ats:Array TypeId) (ty:TypeId) (a b:Value):Builtin.min_ ats ty #[a,b]=(Builtin.min2 a b >>= fun s=>pure s):=by simp only [Builtin.min_,List.foldlM_cons,List.foldlM_nil]
attribute [local go_sem] max2' min2' max_two' min_two'
def Ints (k:IntKind) (w:World) (a:Option Addr) (xs:List Int):Prop:=∀ i,i < xs.length→∃ ad,a=some ad∧w.cell? (ad.add i)=some (.int k (xs.getD i 0))
theorem Ints.kept {k:IntKind} {w w':World} {a:Option Addr} {xs:List Int} (h:Ints k w a xs) (hg:w.grownBy w' none):Ints k w' a xs:=fun i hi=>by
 obtain ⟨ad,h1,h2⟩:=h i hi;exact ⟨ad,h1,hg.cell h2 (by simp)⟩
def cfgV (a:Option Addr) (l c:Nat) (S B:Int):Value:=.agg #[.slice a l c,.int .i64 S,.int .i64 B]
structure MayBe (bs:List Int) (S B:Int):Prop where
 l1:1≤bs.length
 l2:bs.length≤4096
 s1:1≤S
 s2:S≤64
 b1:0≤B
 b2:B≤100
 bal : ∀ i,i < bs.length→0≤bs.getD i 0∧bs.getD i 0≤4294967296
def sumF (bs:List Int):List Int→Int
 | []=>0
 | k :: r=>(if 0≤k∧k < bs.length then bs.getD k.toNat 0 else 0)+sumF bs r
theorem sumF_append (bs:List Int) : ∀ xs ys,sumF bs (xs++ys)=sumF bs xs+sumF bs ys
 | [],ys=>by simp [sumF]
 | x :: xs,ys=>by simp only [List.cons_append,sumF,sumF_append bs xs ys];omega
theorem sumF_bound {bs:List Int} (hb : ∀ i,i < bs.length→0≤bs.getD i 0∧bs.getD i 0≤4294967296) : ∀ xs,0≤sumF bs xs∧sumF bs xs≤4294967296 * xs.length
 | []=>by simp [sumF]
 | x :: xs=>by
  have h:=sumF_bound hb xs;simp only [sumF,List.length_cons];split
  ·rename_i hc
   have:=hb x.toNat (by omega);omega
  ·omega
theorem sumF_take {bs:List Int} (xs:List Int) (i:Nat) (h:i < xs.length):sumF bs (xs.take (i+1))=sumF bs (xs.take i)+(if 0≤xs.getD i 0∧xs.getD i 0 < bs.length then bs.getD (xs.getD i 0).toNat 0 else 0):=by
 rw [List.take_add_one,sumF_append]
 congr 1
 simp [sumF,List.getElem?_eq_getElem h,List.getD_eq_getElem?_getD]
theorem sum_calls {w:World} {a wa:Option Addr} {l c l2 c2:Nat} {S B:Int} {bs ks:List Int} (hb:Ints .u64 w a bs) (hl:l=bs.length) (hw:Ints .i64 w wa ks) (hl2:l2=ks.length)
  (hbb : ∀ i,i < bs.length→0≤bs.getD i 0∧bs.getD i 0≤4294967296) (hk:ks.length≤1000000) (hkk : ∀ i,i < ks.length→(Lit.int .i64 (ks.getD i 0)).wf=true) :
  Calls Tryz.prog 74 #[cfgV a l c S B,.slice wa l2 c2] w fun e w'=>e=.returned (.int .u64 (sumF bs ks))∧w.grownBy w' none:=by
 subst hl hl2;unfold cfgV;have HB:=lh hb;have HW:=lh hw;have HBB:=lh hbb;have HKK:=lh hkk;clear hb hw hbb hkk;go_enter Tryz.func74,Tryz.ntmps74
 go_wp2;have c0:(w.alloc (Obj.cells #[Value.slice a bs.length c,Value.int IntKind.i64 S,Value.int IntKind.i64 B] 36)).cell? ⟨w.heap.size,0,none⟩=some (.slice a bs.length c):=by simp
 have hgb:=World.grownBy_alloc w (Obj.cells #[Value.slice a bs.length c,Value.int IntKind.i64 S,Value.int IntKind.i64 B] 36) none;generalize w.alloc (Obj.cells #[Value.slice a bs.length c,Value.int IntKind.i64 S,Value.int IntKind.i64 B] 36)=wb at c0 hgb ⊢;have HGB:=lh hgb;clear hgb
 go_loop [10,5] (fun v10 v5=>∃ j:Nat,v10=.int .i64 (j:Int)∧v5=.int .u64 (sumF bs (ks.take j))∧j≤ks.length) (fun v10 _=>ks.length - (intOf v10).toNat)
 case atStart=>exact ⟨0,rfl,by simp [sumF],by omega⟩
 case round=>
  obtain ⟨j,rfl,rfl,hj⟩:=hrel;by_cases hlt:j < ks.length
  ·obtain ⟨ad,rfl,hc⟩:=(HW.out.kept HGB.out) j hlt;have hs:=sumF_take (bs:=bs) ks j hlt;have hb1:=sumF_bound HBB.out (ks.take j);have hlen:(ks.take j).length≤1000000:=by simp;omega
   have hsb1:0≤sumF bs (ks.take j):=hb1.1;have hsb2:sumF bs (ks.take j)≤4294967296000000:=by omega
   have hwf:=HKK.out j hlt;obtain ⟨s,hse⟩ : ∃ s,s=sumF bs (ks.take j):=⟨_,rfl⟩;obtain ⟨k,hke⟩ : ∃ k,k=ks.getD j 0:=⟨_,rfl⟩;rw [← hse,← hke] at hs;rw [← hse] at hsb1 hsb2 ⊢;rw [← hke] at hc hwf;have HS:=lh hs;have HSE:=lh hse;have HKE:=lh hke;clear hs hse hke hb1 hlen;have hk0 : -9223372036854775808≤k∧k≤9223372036854775807:=by simpa [Lit.wf,IntKind.min,IntKind.max,IntKind.signed,IntKind.bits] using hwf
   clear hwf;by_cases h0:0≤k
   ·by_cases h1:k < bs.length
    ·obtain ⟨bd,rfl,hd⟩:=(HB.out.kept HGB.out) k.toNat (by omega);have hbk:=HBB.out k.toNat (by omega);obtain ⟨b,hbe⟩ : ∃ b,b=bs.getD k.toNat 0:=⟨_,rfl⟩;rw [← hbe] at hd hbk;have HBE:=lh hbe;clear hbe;obtain ⟨hbk0,hbk1⟩:=hbk;go_wp2
     go_round
     case rel=>exact ⟨j+1,by simp,by rw [HS.out,if_pos ⟨h0,h1⟩,← HBE.out],by omega⟩
     case measure=>simp [intOf];omega
    ·go_wp2
     go_round
     case rel=>exact ⟨j+1,by simp,by rw [HS.out,if_neg (fun h=>h1 h.2),Int.add_zero],by omega⟩
     case measure=>simp [intOf];omega
   ·go_wp2
    go_round
    case rel=>exact ⟨j+1,by simp,by rw [HS.out,if_neg (fun h=>h0 h.1),Int.add_zero],by omega⟩
    case measure=>simp [intOf];omega
  ·have hje:j=ks.length:=by omega
   subst hje;rw [List.take_length];go_wp2;go_ret;exact ⟨rfl,HGB.out⟩
theorem set_grown {w0 w1:World} {q i:Nat} (v:Value) (hq:w0.heap.size≤q) (hg:w0.grownBy w1 none):w0.grownBy (w1.setCell ⟨q,i,none⟩ v) none:=by
 have h3:w1.grownBy (w1.setCell ⟨q,i,none⟩ v) (some q):=
  ⟨rfl,rfl,rfl,by simp,fun j _ hne=>by
   have : j≠q:=fun e=>hne (by rw [e]);rw [heap_setCell_other _ _ _ _ this]⟩
 exact hg.andThen h3 (fun j e=>Or.inl (by cases e;exact hq))
theorem info_int:(Tryz.prog.info? 3).map (fun i=>(i.zero,i.size,i.bytes))=some (some (.int .i64 0),1,8):=by kernel_rfl
def upTo (j i:Nat):Value:=.int .i64 (if i < j then (i:Int) else 0)
theorem all_calls (n:Nat) (w:World) (hn:n≤1000000) :
  Calls Tryz.prog 82 #[.int .i64 (n:Int)] w fun e w'=>e=.returned (.slice (some ⟨w.heap.size,0,none⟩) n n)∧w'.rowIs w.heap.size 3 n (upTo n)∧w.grownBy w' none:=by
 have hmk:=run_make_row' (P:=Tryz.prog) 62 3 (.int .i64 0) 8 Tryz.underlying62 info_int rfl .i64 .i64 n (by omega) (by omega);go_enter Tryz.func82,Tryz.ntmps82
 go_wp2;have h0:=World.rowIs_made w (.int .i64 0) n 3;have hg:=World.grownBy_alloc w (Obj.cells (madeCells #[Value.int IntKind.i64 0] n) 3) none;clear hmk;generalize w.alloc (Obj.cells (madeCells #[Value.int IntKind.i64 0] n) 3)=wb at h0 hg ⊢;have H0:=lh h0;have HG:=lh hg;clear h0 hg
 go_loopw [9] (fun v9 wr=>∃ j:Nat,v9=.int .i64 (j:Int)∧j≤n∧wr.rowIs w.heap.size 3 n (upTo j)∧w.grownBy wr none) (fun v9 _=>n - (intOf v9).toNat)
 case atStart=>exact ⟨0,rfl,by omega,H0.out.congr (fun i _=>by simp [upTo]),HG.out⟩
 case round=>
  obtain ⟨j,rfl,hj,hr,hg⟩:=hrel;by_cases hlt:j < n
  ·have hc:=hr.cell hlt;have hf:=hr.frozen j;have HR:=lh hr;have HG2:=lh hg;clear hr hg;have hs:upTo j j=.int .i64 0:=by simp [upTo]
   rw [hs] at hc;clear hs;go_wp2;exact ⟨⟨j+1,by simp,by omega,(HR.out.set j _).congr (fun i hi=>by
    unfold upTo;by_cases e:i=j
    ·subst e;simp
    ·rw [if_neg e];have : (i < j)=(i < j+1):=by apply propext;omega
     simp only [this]),set_grown _ (Nat.le_refl _) HG2.out⟩,by simp [intOf];omega⟩
  ·have hje:j=n:=by omega
   subst hje;have HR:=lh hr;have HG2:=lh hg;clear hr hg;go_wp2;go_ret;exact ⟨rfl,HR.out,HG2.out⟩
def iota (n:Nat):List Int:=(List.range n).map fun i:Nat=>(i:Int)
theorem iota_length (n:Nat):(iota n).length=n:=by simp [iota]
theorem iota_getD (n i:Nat) (h:i < n):(iota n).getD i 0=(i:Int):=by simp [iota,List.getD_eq_getElem?_getD,h]
theorem ints_iota {w:World} {b n:Nat} (h:w.rowIs b 3 n (upTo n)):Ints .i64 w (some ⟨b,0,none⟩) (iota n):=fun i hi=>by
 rw [iota_length] at hi;refine ⟨_,rfl,?_⟩;rw [iota_getD n i hi];have:=h.cell hi;unfold upTo at this;rw [if_pos hi] at this;rw [← this];by_cases e:i=0
 ·subst e;rfl
 ·simp [Addr.add,e]
def totF (bs:List Int):Int:=sumF bs (iota bs.length)
theorem totF_bound {bs:List Int} (hb : ∀ i,i < bs.length→0≤bs.getD i 0∧bs.getD i 0≤4294967296):0≤totF bs∧totF bs≤4294967296 * bs.length:=by
 have:=sumF_bound hb (iota bs.length)
 rwa [iota_length] at this
def CfgBox (w:World) (q:Nat) (a:Option Addr) (l c:Nat) (S B:Int):Prop:=w.heap[q]? = some (.cells #[.slice a l c,.int .i64 S,.int .i64 B] 36 (0,0))
theorem CfgBox.kept {w w':World} {q:Nat} {a:Option Addr} {l c:Nat} {S B:Int} (h:CfgBox w q a l c S B) (hg:w.grownBy w' none):CfgBox w' q a l c S B:=by
 unfold CfgBox at *;rw [hg.block q (Array.getElem?_eq_some_iff.1 h).1 (by simp)];exact h
theorem CfgBox.c0 {w:World} {q:Nat} {a:Option Addr} {l c:Nat} {S B:Int} (h:CfgBox w q a l c S B):w.cell? ⟨q,0,none⟩=some (.slice a l c):=cel h 0
theorem CfgBox.c1 {w:World} {q:Nat} {a:Option Addr} {l c:Nat} {S B:Int} (h:CfgBox w q a l c S B):w.cell? ⟨q,1,none⟩=some (.int .i64 S):=cel h 1
theorem CfgBox.c2 {w:World} {q:Nat} {a:Option Addr} {l c:Nat} {S B:Int} (h:CfgBox w q a l c S B):w.cell? ⟨q,2,none⟩=some (.int .i64 B):=cel h 2
theorem g2 {w0 w w':World} (h:w0.grownBy w none) (hg:w.grownBy w' none):w0.grownBy w' none:=h.andThen hg (fun j e=>by cases e)
theorem CfgBox.alloc (w:World) (a:Option Addr) (l c:Nat) (S B:Int):CfgBox (w.alloc (.cells #[.slice a l c,.int .i64 S,.int .i64 B] 36)) w.heap.size a l c S B:=by
 unfold CfgBox
 simpa using (MapKept.heap_alloc w (.cells #[.slice a l c,.int .i64 S,.int .i64 B] 36)).1
theorem total_calls {w:World} {a:Option Addr} {l c:Nat} {S B:Int} {bs:List Int} (hb:Ints .u64 w a bs) (hl:l=bs.length)
  (hbb : ∀ i,i < bs.length→0≤bs.getD i 0∧bs.getD i 0≤4294967296) (hbl:bs.length≤1000000) :
  Calls Tryz.prog 72 #[cfgV a l c S B] w fun e w'=>e=.returned (.int .u64 (totF bs))∧w.grownBy w' none:=by
 subst hl;unfold cfgV;have HB:=lh hb;have HBB:=lh hbb;clear hb hbb;go_enter Tryz.func72,Tryz.ntmps72
 go_wp2;have hx:=CfgBox.alloc w a bs.length c S B;have hgb:=World.grownBy_alloc w (Obj.cells #[Value.slice a bs.length c,Value.int IntKind.i64 S,Value.int IntKind.i64 B] 36) none;obtain ⟨q,hq⟩ : ∃ q,q=w.heap.size:=⟨_,rfl⟩;rw [← hq] at hx ⊢;clear hq;generalize w.alloc (Obj.cells #[Value.slice a bs.length c,Value.int IntKind.i64 S,Value.int IntKind.i64 B] 36)=wb at hx hgb ⊢;have c0:=hx.c0;have c1:=hx.c1;have c2:=hx.c2;have hgd:wb.grownBy wb.drew none:=gdrew (gR wb none);have HXD:=lh (hx.kept hgd);have HGD:=lh (g2 hgb hgd);clear hx hgb hgd
 go_region_held3 (fun w'=>w'.cell? ⟨q,0,none⟩=some (.slice a bs.length c)∧w'.cell? ⟨q,1,none⟩=some (.int .i64 S)∧w'.cell? ⟨q,2,none⟩=some (.int .i64 B))
  (go_keep)
  (first
    | (go_at_call 82;refine (all_calls _ _ hbl).mono ?_;rintro e wg ⟨rfl,hr,hgg⟩;have HXE:=lh (HXD.out.kept hgg);have d0:=HXE.out.c0;have d1:=HXE.out.c1;have d2:=HXE.out.c2;have HGE:=lh (g2 HGD.out hgg);have HI:=lh (ints_iota hr);clear hr hgg)
    | (go_at_call 74;refine (sum_calls (HB.out.kept HGE.out) rfl HI.out (iota_length _).symm HBB.out (by rw [iota_length];omega) (fun i hi=>by rw [iota_length] at hi;rw [iota_getD _ _ hi];simp [Lit.wf,IntKind.min,IntKind.max,IntKind.signed,IntKind.bits];omega)).mono ?_;rintro e wh ⟨rfl,hgg⟩;have HXF:=lh (HXE.out.kept hgg);have e0:=HXF.out.c0;have e1:=HXF.out.c1;have e2:=HXF.out.c2;have HGF:=lh (g2 HGE.out hgg);clear hgg))
 go_wp2;go_ret;exact ⟨rfl,HGF.out⟩
def boostF (bs:List Int) (S B:Int):Int:=totF bs / S * B / 100
theorem boost_calls {w:World} {a:Option Addr} {l c:Nat} {S B:Int} {bs:List Int} (hb:Ints .u64 w a bs) (hl:l=bs.length) (hm:MayBe bs S B) :
  Calls Tryz.prog 155 #[cfgV a l c S B] w fun e w'=>e=.returned (.int .u64 (boostF bs S B))∧w.grownBy w' none:=by
 subst hl;unfold cfgV;have HB:=lh hb;have HBB:=lh hm.bal;have hbl:=hm.l2;have hS1:=hm.s1;have hS2:=hm.s2;have hB1:=hm.b1;have hB2:=hm.b2;have hT:=totF_bound hm.bal;have hT1:=hT.1;have hT2:totF bs≤17592186044416:=by omega
 clear hb hm hT;have hq0:0≤totF bs / S:=Int.ediv_nonneg hT1 (by omega);have hq1:totF bs / S≤totF bs:=Int.ediv_le_self _ hT1;go_enter Tryz.func155,Tryz.ntmps155
 go_wp2;have hx:=CfgBox.alloc w a bs.length c S B;have hgb:=World.grownBy_alloc w (Obj.cells #[Value.slice a bs.length c,Value.int IntKind.i64 S,Value.int IntKind.i64 B] 36) none;obtain ⟨q,hq⟩ : ∃ q,q=w.heap.size:=⟨_,rfl⟩;rw [← hq] at hx ⊢;clear hq;generalize w.alloc (Obj.cells #[Value.slice a bs.length c,Value.int IntKind.i64 S,Value.int IntKind.i64 B] 36)=wb at hx hgb ⊢;have c0:=hx.c0;have c1:=hx.c1;have c2:=hx.c2;have hgd:wb.grownBy wb.drew none:=gdrew (gR wb none);have HXD:=lh (hx.kept hgd);have HGD:=lh (g2 hgb hgd);clear hx hgb hgd;have hmx1:max 1 S=S:=by omega
 have hmx2:max 0 B=B:=by omega
 have hsn:(S=0)=False:=eq_false (by omega);have hwS:IntKind.u64.wrap S=S:=by simp [IntKind.wrap,IntKind.signed,IntKind.bits];omega
 have hwB:IntKind.u64.wrap B=B:=by simp [IntKind.wrap,IntKind.signed,IntKind.bits];omega
 have htd:IntKind.u64.wrap ((totF bs).tdiv S)=totF bs / S:=by rw [Int.tdiv_eq_ediv_of_nonneg hT1];simp [IntKind.wrap,IntKind.signed,IntKind.bits];omega
 have hp1:0≤totF bs / S * B:=Int.mul_nonneg hq0 hB1;have hp2:totF bs / S * B≤17592186044416 * 100:=Int.mul_le_mul (by omega) hB2 hB1 (by omega);have hth:IntKind.u64.wrap ((totF bs / S * B).tdiv 100)=totF bs / S * B / 100:=by rw [Int.tdiv_eq_ediv_of_nonneg hp1];simp [IntKind.wrap,IntKind.signed,IntKind.bits];omega
 have htm:IntKind.u64.wrap (totF bs / S * B)=totF bs / S * B:=by simp [IntKind.wrap,IntKind.signed,IntKind.bits];omega
 go_region_held3 (fun w'=>w'.cell? ⟨q,0,none⟩=some (.slice a bs.length c)∧w'.cell? ⟨q,1,none⟩=some (.int .i64 S)∧w'.cell? ⟨q,2,none⟩=some (.int .i64 B))
  (go_keep)
  (first
    | (go_at_call 72;refine (total_calls (S:=S) (B:=B) (c:=c) (HB.out.kept HGD.out) rfl HBB.out (by omega)).mono ?_;rintro e wg ⟨rfl,hgg⟩;have HXE:=lh (HXD.out.kept hgg);have d0:=HXE.out.c0;have d1:=HXE.out.c1;have d2:=HXE.out.c2;have HGE:=lh (g2 HGD.out hgg);clear hgg))
 all_goals first | (go_ret;exact ⟨rfl,HGE.out⟩) | (go_wp2;go_ret;exact ⟨rfl,HGE.out⟩)
theorem may_calls {w:World} {a:Option Addr} {l c:Nat} {S B:Int} {bs:List Int} (hb:Ints .u64 w a bs) (hl:l=bs.length) (hm:MayBe bs S B) :
  Calls Tryz.prog 27 #[cfgV a l c S B] w fun e w'=>e=.returned (.bool true)∧w.grownBy w' none:=by
 subst hl;unfold cfgV;have HB:=lh hb;have HBB:=lh hm.bal;have hbl:=hm.l2;have hbl1:=hm.l1;have hS1:=hm.s1;have hS2:=hm.s2;have hB1:=hm.b1;have hB2:=hm.b2;clear hb hm;have t1:decide ((bs.length:Int) < 1)=false:=decide_eq_false (by omega);have t2:decide (4096 < (bs.length:Int))=false:=decide_eq_false (by omega);have t3:decide (S < 1)=false:=decide_eq_false (by omega);have t4:decide (64 < S)=false:=decide_eq_false (by omega);have t5:decide (B < 0)=false:=decide_eq_false (by omega);have t6:decide (100 < B)=false:=decide_eq_false (by omega);go_enter Tryz.func27,Tryz.ntmps27
 go_wp2;have hgb:=World.grownBy_alloc w (Obj.cells #[Value.slice a bs.length c,Value.int IntKind.i64 S,Value.int IntKind.i64 B] 36) none;obtain ⟨q,hq⟩ : ∃ q,q=w.heap.size:=⟨_,rfl⟩;rw [← hq];clear hq;generalize w.alloc (Obj.cells #[Value.slice a bs.length c,Value.int IntKind.i64 S,Value.int IntKind.i64 B] 36)=wb at hgb ⊢;have HGB:=lh hgb;clear hgb
 go_loop [38] (fun v38=>∃ j:Nat,v38=.int .i64 (j:Int)∧j≤bs.length) (fun v38=>bs.length - (intOf v38).toNat)
 case atStart=>exact ⟨0,rfl,by omega⟩
 case round=>
  obtain ⟨j,rfl,hj⟩:=hrel;by_cases hlt:j < bs.length
  ·obtain ⟨ad,rfl,hc⟩:=(HB.out.kept HGB.out) j hlt;have hb2:=(HBB.out j hlt).2;obtain ⟨x,hx⟩ : ∃ x,x=bs.getD j 0:=⟨_,rfl⟩;rw [← hx] at hc hb2;clear hx;go_wp2
   go_round
   case rel=>exact ⟨j+1,by simp,by omega⟩
   case measure=>simp [intOf];omega
  ·go_wp2;go_ret;exact ⟨rfl,HGB.out⟩
end Go.Proofs.YtndfpmboanohcaaGreatDoor
