/- Contracts of packages epoch, octet, canon's flag, api.Number at no error, the last law's Same. -/
import Derived.Test.YtndfpmboanohcaaGreatDoorSkip4ToConf
namespace Go.Proofs.YtndfpmboanohcaaGreatDoor
set_option maxRecDepth 100000
open Go.RowKit Go.Maps SkipPure
attribute [local go_sem] max2' min2' max_two' min_two'
def eOf (s S:Int):Int:=max 0 s / max 1 S
theorem eOf_nonneg (s S:Int):0≤eOf s S:=Int.ediv_nonneg (by omega) (by omega)
theorem eOf_le (s S:Int):eOf s S≤max 0 s:=Int.ediv_le_self _ (by omega)
theorem eof_calls (s S:Int) (w:World) (hs:s≤9223372036854775807) (hS:S≤1000000) :
  Calls Tryz.prog 47 #[.int .i64 s,.int .i64 S] w fun e w'=>e=.returned (.int .i64 (eOf s S))∧w=w':=by
 have h1:=eOf_nonneg s S;have h2:=eOf_le s S;have hz:(max 1 S=0)=False:=eq_false (by omega);have ht:IntKind.i64.wrap ((max 0 s).tdiv (max 1 S))=eOf s S:=by
  rw [Int.tdiv_eq_ediv_of_nonneg (by omega)];unfold eOf at *;generalize max 0 s / max 1 S=x at *;simp [IntKind.wrap,IntKind.signed,IntKind.bits];omega
 go_enter Tryz.func47,Tryz.ntmps47
 go_wp2;go_ret;exact ⟨rfl,rfl⟩
def eStart (e S:Int):Int:=max 0 e * max 1 S
theorem estart_calls (e S:Int) (w:World) (h:eStart e S≤9223372036854775807) :
  Calls Tryz.prog 49 #[.int .i64 e,.int .i64 S] w fun z w'=>z=.returned (.int .i64 (eStart e S))∧w=w':=by
 have h1:0≤eStart e S:=Int.mul_nonneg (by omega) (by omega);have ht:IntKind.i64.wrap (max 0 e * max 1 S)=eStart e S:=by
  change IntKind.i64.wrap (eStart e S)=eStart e S;simp [IntKind.wrap,IntKind.signed,IntKind.bits];omega
 go_enter Tryz.func49,Tryz.ntmps49
 go_wp2;go_ret;exact ⟨rfl,rfl⟩
theorem flag_calls (b:Bool) (w:World):Calls Tryz.prog 42 #[.bool b] w fun z w'=>z=.returned (.int .u64 (if b then 1 else 0))∧w=w':=by
 cases b
 ·go_enter Tryz.func42,Tryz.ntmps42
  go_wp2;go_ret;exact ⟨rfl,rfl⟩
 ·go_enter Tryz.func42,Tryz.ntmps42
  go_wp2;go_ret;exact ⟨rfl,rfl⟩
theorem as_nil (t:Value) (w:World):Calls Tryz.prog 26 #[.nilIface,t] w fun e w'=>e=.returned (.bool false)∧w=w':=by
 go_enter Tryz.func26,Tryz.ntmps26
 go_wp2;go_ret;exact ⟨rfl,rfl⟩
theorem number_nil (w:World):Calls Tryz.prog 16 #[.nilIface] w fun e w'=>e=.returned (.int .i64 0)∧w.grownBy w' none:=by
 go_enter Tryz.func16,Tryz.ntmps16
 go_wp2_with fail
 refine (as_nil _ _).mono ?_;rintro e w' ⟨rfl,rfl⟩;go_wp2;go_ret;exact ⟨rfl,World.grownBy_alloc _ _ none⟩
theorem info_u8:(Tryz.prog.info? 5).map (fun i=>(i.zero,i.size,i.bytes))=some (some (.int .u8 0),1,1):=by kernel_rfl
def byteF (x:Int) (i:Nat):Value:=.int .u8 (x / 2 ^ (56 - 8 * i) % 256)
def bytesF (x:Int):List Value:=(List.range 8).map (byteF x)
def putF:List Int→List Value
 | []=>[]
 | x :: r=>bytesF x++putF r
theorem bytesF_length (x:Int):(bytesF x).length=8:=by simp [bytesF]
theorem putF_append (xs ys:List Int):putF (xs++ys)=putF xs++putF ys:=by
 induction xs with
 | nil=>rfl
 | cons x r ih=>simp [putF,ih]
theorem putF_take (xs:List Int) (i:Nat) (h:i < xs.length):putF (xs.take (i+1))=putF (xs.take i)++bytesF (xs.getD i 0):=by
 rw [List.take_add_one,putF_append]
 congr 1
 simp [putF,List.getElem?_eq_getElem h,List.getD_eq_getElem?_getD]
theorem bytesF_take (x:Int) (i:Nat) (h:i < 8):(bytesF x).take (i+1)=(bytesF x).take i++[byteF x i]:=by
 rw [List.take_add_one]
 congr 1
 simp [bytesF,h]
theorem _root_.Go.World.ownsRow.two {w:World} {base:Nat} {e:TypeId} {size:Nat} {v:Value} {n:Nat} {xs:List Value} (h:w.ownsRow base e size v n xs):v=.slice none 0 0∨∃ g cap,v=.slice (some ⟨g,0,none⟩) n cap:=by
 rcases h.2 with h | ⟨g,cap,_,h,_⟩
 ·exact .inl h.1
 ·exact .inr ⟨g,cap,h⟩
set_option maxHeartbeats 1000000 in
theorem put_calls {w:World} {B n:Nat} {v:Value} {xs:List Value} (hv:w.ownsRow B 5 1 v n xs) {na:Option Addr} {nl nc:Nat} {ns:List Int} (hn:Ints .u64 w na ns) (hl:nl=ns.length)
  (hns : ∀ i,i < ns.length→inU (ns.getD i 0)) (hsz:n+8 * ns.length≤1099511627776) (hv0:v=.slice none 0 0∨0 < n) (hx1 : ∀ u∈xs,u.oneCell'=true) :
  Calls Tryz.prog 39 #[v,.slice na nl nc] w fun e w'=>∃ v',e=.returned v'∧w'.ownsRow w.heap.size 5 1 v' (n+8 * ns.length) (xs++putF ns)∧w.grownBy w' none:=by
 subst hl;have HV:=lh hv;have HN:=lh hn;have HNS:=lh hns;clear hv hn hns;obtain ⟨i0,hi,hz0,hz1,hz2⟩:=info_parts info_u8;have HI0:=lh hi;have HZ0:=lh hz0;have HZ1:=lh hz1;have HZ2:=lh hz2;clear hi hz0 hz1 hz2;go_enter Tryz.func39,Tryz.ntmps39
 rcases hv0 with hv0 | hv0
 ·have hn0:n=0:=by
   rcases HV.out.2 with h | ⟨_,_,_,h,_⟩
   ·exact h.2
   ·rw [hv0] at h;cases h
  subst hv0;have hxs:xs=[]:=List.eq_nil_of_length_eq_zero (by have:=HV.out.1;omega);have h5:w.ownsRow w.heap.size 5 1 (.slice none 0 0) n xs:=by rw [hn0,hxs];exact World.ownsRow_nil _ _ _ _
  clear hn0 hxs;go_wp2_with (at_builtin;refine wpList_append_own_none rfl _ _ 23 rfl w.heap.size 5 i0 1 Tryz.underlying23 HI0.out (.slice none 0 0) 0 [] rfl (World.ownsRow_nil _ _ _ _) rfl ?_)
  have hg5:=gR w none;have H5:=lh h5;have HG5:=lh hg5;clear h5 hg5
  go_loopw [13,5] (fun v13 v5 wr=>∃ j:Nat,v13=.int .i64 (j:Int)∧j≤ns.length∧wr.ownsRow w.heap.size 5 1 v5 (n+8 * j) (xs++putF (ns.take j))∧w.grownBy wr none) (fun v13 _ _=>ns.length - (intOf v13).toNat)
  case atStart=>exact ⟨0,rfl,by omega,by simpa [putF] using H5.out,HG5.out⟩
  case round=>
   obtain ⟨j,rfl,hj,ho,hg⟩:=hrel;have HO:=lh ho;have HG:=lh hg;clear ho hg;by_cases hlt:j < ns.length
   ·obtain ⟨ad,rfl,hc⟩:=(HN.out.kept HG.out) j hlt;have hx:=HNS.out j hlt;have ht:=putF_take ns j hlt;obtain ⟨x,hxe⟩ : ∃ x,x=ns.getD j 0:=⟨_,rfl⟩;rw [← hxe] at hc hx ht;have HX:=lh hx;have HT:=lh ht;clear hx hxe ht;go_wp2;obtain ⟨wo,rfl⟩ : ∃ wo:World,wo=wr:=⟨_,rfl⟩
    go_loopw [8,5] (fun v8 v5 wr=>∃ (i:Nat) (s:Int),v8=.int .i64 s∧s=56 - 8 * i∧i≤8∧wr.ownsRow w.heap.size 5 1 v5 (n+8 * j+i) (xs++putF (ns.take j)++(bytesF x).take i)∧w.grownBy wr none) (fun v8 _ _=>(intOf v8+8).toNat)
    case atStart=>exact ⟨0,56,rfl,rfl,by omega,by simpa using HO.out,HG.out⟩
    case round=>
     obtain ⟨i,s,rfl,hs,hi,ho2,hg2⟩:=hrel;have HO2:=lh ho2;have HG2:=lh hg2;clear ho2 hg2;by_cases h8:i < 8
     ·obtain ⟨m,rfl⟩ : ∃ m:Nat,s=(m:Int):=⟨s.toNat,by omega⟩;have hsi:m=56 - 8 * i:=by omega
      clear hs;have HSI:=lh hsi;have hm56:m≤56:=by omega
      clear hsi;rcases HO2.out.two with hv5 | ⟨g5',cap5',hv5⟩
      ·subst hv5;go_wp2_with (at_builtin;refine wpList_append_lies _ rfl _ _ 23 rfl w.heap.size 5 i0 (.int .u8 0) 1 1 Tryz.underlying23 HI0.out HZ0.out HZ1.out HZ2.out rfl (by decide) _ (n+8 * j+i) (xs++putF (ns.take j)++(bytesF x).take i) rfl (HO2.out.alloc _) ⟨wr.heap.size,0,none⟩ 1 1 [.int .u8 (x / 2 ^ m % 256)] rfl rfl (World.news_of_block (MapKept.heap_alloc _ _).1) (by simp [Value.oneCell']) (by decide) (by unfold maxLen;omega) (by omega) (by have:=HG2.out.size;simp;omega) _ rfl ?_;intro g6 c6 w6 h6 hg6 hat6 hlt6;have H6:=lh h6;have HG6:=lh hg6;clear h6 hg6 hat6)
       refine ⟨⟨i+1,(m:Int) - 8,rfl,by have:=HSI.out;omega,by omega,?_,(g2 HG2.out (World.grownBy_alloc wr _ none)).andThen HG6.out (fun k e=>Or.inl (HO2.out.lt k e).1)⟩,by simp [intOf];omega⟩;have h6:=H6.out;rw [bytesF_take x i h8,← List.append_assoc];have hb:byteF x i=.int .u8 (x / 2 ^ m % 256):=by unfold byteF;rw [HSI.out]
       rw [hb];exact h6
      ·subst hv5;go_wp2_with (at_builtin;refine wpList_append_lies _ rfl _ _ 23 rfl w.heap.size 5 i0 (.int .u8 0) 1 1 Tryz.underlying23 HI0.out HZ0.out HZ1.out HZ2.out rfl (by decide) _ (n+8 * j+i) (xs++putF (ns.take j)++(bytesF x).take i) rfl (HO2.out.alloc _) ⟨wr.heap.size,0,none⟩ 1 1 [.int .u8 (x / 2 ^ m % 256)] rfl rfl (World.news_of_block (MapKept.heap_alloc _ _).1) (by simp [Value.oneCell']) (by decide) (by unfold maxLen;omega) (by omega) (by have:=HG2.out.size;simp;omega) _ rfl ?_;intro g6 c6 w6 h6 hg6 hat6 hlt6;have H6:=lh h6;have HG6:=lh hg6;clear h6 hg6 hat6)
       refine ⟨⟨i+1,(m:Int) - 8,rfl,by have:=HSI.out;omega,by omega,?_,(g2 HG2.out (World.grownBy_alloc wr _ none)).andThen HG6.out (fun k e=>Or.inl (HO2.out.lt k e).1)⟩,by simp [intOf];omega⟩;have h6:=H6.out;rw [bytesF_take x i h8,← List.append_assoc];have hb:byteF x i=.int .u8 (x / 2 ^ m % 256):=by unfold byteF;rw [HSI.out]
       rw [hb];exact h6
     ·have hi8:i=8:=by omega
      subst hi8;have hs8:s = -8:=by omega
      subst hs8;clear hs;have h7:=HO2.out;rw [show (bytesF x).take 8=bytesF x from List.take_of_length_le (by rw [bytesF_length];omega),List.append_assoc,← HT.out] at h7;have H7:=lh h7;clear h7;go_wp2;exact ⟨⟨j+1,by simp,by omega,by have:=H7.out;rwa [show n+8 * (j+1)=n+8 * j+8 by omega],HG2.out⟩,by simp [intOf];omega⟩
   ·have hje:j=ns.length:=by omega
    subst hje;rw [List.take_length] at HO;go_wp2;go_ret;exact ⟨_,rfl,HO.out,HG.out⟩
 ·obtain ⟨g,cap,rfl,hgg⟩:=HV.out.form hv0;go_wp2_with (at_builtin;refine wpList_append_lies _ rfl _ _ 23 rfl w.heap.size 5 i0 (.int .u8 0) 1 1 Tryz.underlying23 HI0.out HZ0.out HZ1.out HZ2.out rfl (by decide) (.slice none 0 0) 0 [] rfl (World.ownsRow_nil _ _ _ _) ⟨g,0,none⟩ n cap xs rfl (by have:=HV.out.1;omega) (HV.out.cells rfl) hx1 hv0 (by unfold maxLen;omega) (by omega) (Nat.le_refl _) _ rfl ?_;intro g5 c5 w5 h5 hg5 hat5 hlt5;rw [Nat.zero_add,List.nil_append] at h5)
  have H5:=lh h5;have HG5:=lh hg5;clear h5 hg5
  go_loopw [13,5] (fun v13 v5 wr=>∃ j:Nat,v13=.int .i64 (j:Int)∧j≤ns.length∧wr.ownsRow w.heap.size 5 1 v5 (n+8 * j) (xs++putF (ns.take j))∧w.grownBy wr none) (fun v13 _ _=>ns.length - (intOf v13).toNat)
  case atStart=>exact ⟨0,rfl,by omega,by simpa [putF] using H5.out,HG5.out⟩
  case round=>
   obtain ⟨j,rfl,hj,ho,hg⟩:=hrel;have HO:=lh ho;have HG:=lh hg;clear ho hg;by_cases hlt:j < ns.length
   ·obtain ⟨ad,rfl,hc⟩:=(HN.out.kept HG.out) j hlt;have hx:=HNS.out j hlt;have ht:=putF_take ns j hlt;obtain ⟨x,hxe⟩ : ∃ x,x=ns.getD j 0:=⟨_,rfl⟩;rw [← hxe] at hc hx ht;have HX:=lh hx;have HT:=lh ht;clear hx hxe ht;go_wp2;obtain ⟨wo,rfl⟩ : ∃ wo:World,wo=wr:=⟨_,rfl⟩
    go_loopw [8,5] (fun v8 v5 wr=>∃ (i:Nat) (s:Int),v8=.int .i64 s∧s=56 - 8 * i∧i≤8∧wr.ownsRow w.heap.size 5 1 v5 (n+8 * j+i) (xs++putF (ns.take j)++(bytesF x).take i)∧w.grownBy wr none) (fun v8 _ _=>(intOf v8+8).toNat)
    case atStart=>exact ⟨0,56,rfl,rfl,by omega,by simpa using HO.out,HG.out⟩
    case round=>
     obtain ⟨i,s,rfl,hs,hi,ho2,hg2⟩:=hrel;have HO2:=lh ho2;have HG2:=lh hg2;clear ho2 hg2;by_cases h8:i < 8
     ·obtain ⟨m,rfl⟩ : ∃ m:Nat,s=(m:Int):=⟨s.toNat,by omega⟩;have hsi:m=56 - 8 * i:=by omega
      clear hs;have HSI:=lh hsi;have hm56:m≤56:=by omega
      clear hsi;rcases HO2.out.two with hv5 | ⟨g5',cap5',hv5⟩
      ·subst hv5;go_wp2_with (at_builtin;refine wpList_append_lies _ rfl _ _ 23 rfl w.heap.size 5 i0 (.int .u8 0) 1 1 Tryz.underlying23 HI0.out HZ0.out HZ1.out HZ2.out rfl (by decide) _ (n+8 * j+i) (xs++putF (ns.take j)++(bytesF x).take i) rfl (HO2.out.alloc _) ⟨wr.heap.size,0,none⟩ 1 1 [.int .u8 (x / 2 ^ m % 256)] rfl rfl (World.news_of_block (MapKept.heap_alloc _ _).1) (by simp [Value.oneCell']) (by decide) (by unfold maxLen;omega) (by omega) (by have:=HG2.out.size;simp;omega) _ rfl ?_;intro g6 c6 w6 h6 hg6 hat6 hlt6;have H6:=lh h6;have HG6:=lh hg6;clear h6 hg6 hat6)
       refine ⟨⟨i+1,(m:Int) - 8,rfl,by have:=HSI.out;omega,by omega,?_,(g2 HG2.out (World.grownBy_alloc wr _ none)).andThen HG6.out (fun k e=>Or.inl (HO2.out.lt k e).1)⟩,by simp [intOf];omega⟩;have h6:=H6.out;rw [bytesF_take x i h8,← List.append_assoc];have hb:byteF x i=.int .u8 (x / 2 ^ m % 256):=by unfold byteF;rw [HSI.out]
       rw [hb];exact h6
      ·subst hv5;go_wp2_with (at_builtin;refine wpList_append_lies _ rfl _ _ 23 rfl w.heap.size 5 i0 (.int .u8 0) 1 1 Tryz.underlying23 HI0.out HZ0.out HZ1.out HZ2.out rfl (by decide) _ (n+8 * j+i) (xs++putF (ns.take j)++(bytesF x).take i) rfl (HO2.out.alloc _) ⟨wr.heap.size,0,none⟩ 1 1 [.int .u8 (x / 2 ^ m % 256)] rfl rfl (World.news_of_block (MapKept.heap_alloc _ _).1) (by simp [Value.oneCell']) (by decide) (by unfold maxLen;omega) (by omega) (by have:=HG2.out.size;simp;omega) _ rfl ?_;intro g6 c6 w6 h6 hg6 hat6 hlt6;have H6:=lh h6;have HG6:=lh hg6;clear h6 hg6 hat6)
       refine ⟨⟨i+1,(m:Int) - 8,rfl,by have:=HSI.out;omega,by omega,?_,(g2 HG2.out (World.grownBy_alloc wr _ none)).andThen HG6.out (fun k e=>Or.inl (HO2.out.lt k e).1)⟩,by simp [intOf];omega⟩;have h6:=H6.out;rw [bytesF_take x i h8,← List.append_assoc];have hb:byteF x i=.int .u8 (x / 2 ^ m % 256):=by unfold byteF;rw [HSI.out]
       rw [hb];exact h6
     ·have hi8:i=8:=by omega
      subst hi8;have hs8:s = -8:=by omega
      subst hs8;clear hs;have h7:=HO2.out;rw [show (bytesF x).take 8=bytesF x from List.take_of_length_le (by rw [bytesF_length];omega),List.append_assoc,← HT.out] at h7;have H7:=lh h7;clear h7;go_wp2;exact ⟨⟨j+1,by simp,by omega,by have:=H7.out;rwa [show n+8 * (j+1)=n+8 * j+8 by omega],HG2.out⟩,by simp [intOf];omega⟩
   ·have hje:j=ns.length:=by omega
    subst hje;rw [List.take_length] at HO;go_wp2;go_ret;exact ⟨_,rfl,HO.out,HG.out⟩
def tnode (x:Int×Int×Int):Value:=.agg #[.int .u64 x.1,.int .i64 x.2.1,.int .i64 x.2.2]
def tfun (F:Int→Option (Int×Int×Int)):Int→Option Value:=fun r=>(F r).map tnode
def tset (F:Int→Option (Int×Int×Int)) (k:Int) (x:Int×Int×Int):Int→Option (Int×Int×Int):=fun r=>if r=k then some x else F r
theorem tfun_set (F:Int→Option (Int×Int×Int)) (k:Int) (x:Int×Int×Int):upd (tfun F) k (tnode x)=tfun (tset F k x):=by
 funext r;unfold upd tfun tset;by_cases e:r=k
 ·simp [e]
 ·simp [e]
def TreeAt (w:World) (p b n:Nat) (f:Int) (F:Int→Option (Int×Int×Int)):Prop:=
 p≠b∧w.heap[p]? = some (.cells #[.int .u64 f,.map (some b)] 171 (0,0))∧RawMap Tryz.prog 27 w b n (tfun F)
theorem zero62 (w:World):(zeroValue 168).run Tryz.prog w=.ok (.agg #[.int .u64 0,.int .i64 0,.int .i64 0]) w:=by kernel_rfl
theorem TreeAt.kept {w w':World} {p b n:Nat} {f:Int} {F:Int→Option (Int×Int×Int)} {row:Option Nat} (h:TreeAt w p b n f F) (hg:w.grownBy w' row) (hr:row≠some p∧row≠some b):TreeAt w' p b n f F:=by
 obtain ⟨h1,h2,h3⟩:=h;have hlt:p < w.heap.size:=(Array.getElem?_eq_some_iff.1 h2).1;exact ⟨h1,(hg.block p hlt (fun e=>hr.1 e.symm)).trans h2,h3.kept hg (fun e=>hr.2 e.symm)⟩
theorem tof_calls (w:World) {r s:Int} (hr:inU r) :
  Calls Tryz.prog 28 #[.int .u64 r,.int .i64 s] w fun e w'=>∃ p b,e=.returned (.pointer (some ⟨p,0,none⟩))∧TreeAt w' p b 1 r (fun x=>if x=r then some (r,s,0) else none)∧w.heap.size≤p∧w.heap.size≤b∧w.grownBy w' none:=by
 have hmm:=@run_makeMap Tryz.prog;go_enter Tryz.func28,Tryz.ntmps28
 go_wp2_with (refine wpList_store_raw (RawMap.made Tryz.prog 27 _) rfl _ _ _ 169 (Or.inr rfl) Tryz.underlying27 Tryz.underlying169 (by unfold maxLen;omega) hr rfl _ rfl rfl rfl ?_;intro w1 hF hg)
 have hlt:w.heap.size < w1.heap.size:=by have:=hg.size;simp at this;omega
 go_ret;have e:upd (fun _=>none) r (Value.agg #[.int .u64 r,.int .i64 s,.int .i64 0])=tfun (fun x=>if x=r then some (r,s,0) else none):=by
  funext x;unfold upd tfun;by_cases e:x=r <;> simp [e,tnode]
 refine ⟨w1.heap.size,w.heap.size,rfl,⟨by omega,(MapKept.heap_alloc w1 _).1,?_⟩,by omega,Nat.le_refl _,?_⟩
 ·rw [← e];exact hF.kept (World.grownBy_alloc w1 _ none) (by simp)
 ·refine ((World.grownBy_alloc w _ none).andThen hg (fun j e=>Or.inl ?_)).andThen (World.grownBy_alloc w1 _ none) (fun j e=>by cases e);cases e;exact Nat.le_refl _
theorem thas_calls {w:World} {p b n:Nat} {f:Int} {F:Int→Option (Int×Int×Int)} (h:TreeAt w p b n f F) {r:Int} (hr:inU r) :
  Calls Tryz.prog 66 #[.pointer (some ⟨p,0,none⟩),.int .u64 r] w fun e w'=>e=.returned (.bool (F r).isSome)∧w.grownBy w' none:=by
 obtain ⟨h1,h2,h3⟩:=h;have c1:w.cell? ⟨p,1,none⟩=some (.map (some b)):=by simp [World.cell?,h2]
 have hl:=h3.look_ok Tryz.underlying27 Tryz.underlying169 (zero62 w) hr;clear h3 h2;unfold tfun at hl;cases hF:F r with
 | none=>
  rw [hF] at hl;simp only [Option.map_none,Option.getD_none,Option.isSome_none] at hl ⊢;clear hF;go_enter Tryz.func66,Tryz.ntmps66
  go_wp2;go_ret;exact ⟨rfl,World.grownBy_alloc _ _ _⟩
 | some x=>
  rw [hF] at hl;simp only [Option.map_some,Option.getD_some,Option.isSome_some,tnode] at hl ⊢;clear hF;go_enter Tryz.func66,Tryz.ntmps66
  go_wp2;go_ret;exact ⟨rfl,World.grownBy_alloc _ _ _⟩
set_option maxRecDepth 100000 in
set_option maxHeartbeats 1000000 in
theorem tadd_calls {w:World} {p b n:Nat} {f:Int} {F:Int→Option (Int×Int×Int)} (h:TreeAt w p b n f F) {r q s qq qs qh:Int} (hr:inU r) (hq:inU q) (hF:F q=some (qq,qs,qh)) (hn:F r=none) (hs:qs < s) (hsz:n < 1024) (hh:0≤qh∧qh≤1000000) :
  Calls Tryz.prog 50 #[.pointer (some ⟨p,0,none⟩),.int .u64 r,.int .u64 q,.int .i64 s] w fun e w'=>e=.returned .nilIface∧TreeAt w' p b (n+1) f (tset F r (q,s,qh+1))∧w.grownBy w' (some b):=by
 have HH:=lh h;obtain ⟨h1,h2,h3⟩:=h;obtain ⟨hh0,hh1⟩:=hh;have c1:w.cell? ⟨p,1,none⟩=some (.map (some b)):=by simp [World.cell?,h2]
 have hl:=h3.look_ok Tryz.underlying27 Tryz.underlying169 (zero62 w) hq;unfold tfun at hl;rw [hF] at hl;simp only [Option.map_some,Option.getD_some,Option.isSome_some,tnode] at hl;clear h2 h3 hF;have HN:=lh hn;clear hn;have hlen1:decide ((1024:Int)≤(n:Int))=false:=decide_eq_false (by omega);go_enter Tryz.func50,Tryz.ntmps50
 go_wp2_with fail
 have h':=HH.out.kept (World.grownBy_alloc w (Obj.cells #[.int .u64 qq,.int .i64 qs,.int .i64 qh] 168) none) (by simp);have hblk:=(MapKept.heap_alloc w (Obj.cells #[.int .u64 qq,.int .i64 qs,.int .i64 qh] 168)).1;have HBLK:=lh hblk;have HH':=lh h';clear h' hblk;refine (thas_calls HH'.out hr).mono ?_;rintro e w1 ⟨rfl,hg⟩;rw [HN.out];simp only [Option.isSome_none];have hb1:=(hg.block w.heap.size (by simp) (by simp)).trans HBLK.out;have q1:w1.cell? ⟨w.heap.size,1,none⟩=some (.int .i64 qs):=by simp [World.cell?,hb1]
 have q2:w1.cell? ⟨w.heap.size,2,none⟩=some (.int .i64 qh):=by simp [World.cell?,hb1]
 have h1':=HH'.out.kept hg (by simp);have c1':w1.cell? ⟨p,1,none⟩=some (.map (some b)):=by simp [World.cell?,h1'.2.1]
 have hlen:=h1'.2.2.len Tryz.underlying169 3;have HT:=lh h1';have HG:=lh hg;clear h1' hg hb1;go_wp2;have hwr:IntKind.i64.wrap (qh+1)=qh+1:=IntWalk.i64_in _ (by omega)
 go_still_tail 11,(by kernel_rfl)
 change wpList _ _ _ _ _ w1.drew;refine wpList_store_raw (HT.out.2.2.kept (gdrew (gR w1 none)) (by simp)) rfl _ _ _ 169 (Or.inl rfl) Tryz.underlying27 Tryz.underlying169 (by unfold maxLen;omega) hr (by unfold tfun;rw [HN.out];rfl) (Value.agg #[.int .u64 q,.int .i64 s,.int .i64 (qh+1)]) rfl rfl rfl ?_;intro w4 hF4 hg4;have HF4:=lh hF4;have HG4:=lh hg4;clear hF4 hg4;go_wp2;go_ret;have hg5:w1.grownBy w4 (some b):=⟨HG4.out.os,HG4.out.tape,HG4.out.output,HG4.out.size,HG4.out.block⟩;refine ⟨rfl,⟨HT.out.1,?_,?_⟩,?_⟩
 ·exact (hg5.block p (Array.getElem?_eq_some_iff.1 HT.out.2.1).1 (fun e=>HT.out.1 (Option.some.inj e))).trans HT.out.2.1
 ·have:=HF4.out;rw [show (Value.agg #[.int .u64 q,.int .i64 s,.int .i64 (qh+1)])=tnode (q,s,qh+1) from rfl,tfun_set] at this;exact this
 ·have hg6:=(World.grownBy_alloc w (Obj.cells #[.int .u64 qq,.int .i64 qs,.int .i64 qh] 168) none).andThen HG.out (fun j e=>by cases e);exact ⟨hg5.os.trans hg6.os,hg5.tape.trans hg6.tape,hg5.output.trans hg6.output,Nat.le_trans hg6.size hg5.size,fun j hj hne=>(hg5.block j (Nat.lt_of_lt_of_le hj hg6.size) hne).trans (hg6.block j hj (by simp))⟩
end Go.Proofs.YtndfpmboanohcaaGreatDoor
