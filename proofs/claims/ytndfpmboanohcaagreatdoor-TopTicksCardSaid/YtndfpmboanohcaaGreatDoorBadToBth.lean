/- Contracts of vote.Same, slash.Double, slash.Around, slash.Bad. -/
import Derived.Test.YtndfpmboanohcaaGreatDoorLed1ToRgt
import Derived.Laws.StructEq
import Derived.Shelf.Slices.Turned
import Derived.Shelf.Sort.Plain
import Derived.Shelf.Slices.In.SortNone
namespace Go.Proofs.YtndfpmboanohcaaGreatDoor
set_option maxRecDepth 100000
open Go.RowKit Go.Maps SkipPure
theorem eq_point (a b c d:Int) (w:World):(binOp .eql 61 (.agg #[.int .i64 a,.int .u64 b]) (.agg #[.int .i64 c,.int .u64 d])).run Tryz.prog w=.ok (.bool (a == c && b == d)) w:=by
 have u3:=Tryz.underlying3;have u27:=Tryz.underlying27;have a3:=Tryz.isAgg3;have a27:=Tryz.isAgg27;have z3:=Tryz.sizeOf3;have z27:=Tryz.sizeOf27;have hS:Tryz.prog.underlying 61=some (.struct (Tryz.prog.fieldsOf 61)):=by kernel_rfl
 have hp:Tryz.prog.stoodInHeld 61=false:=by kernel_rfl
 rw [run_eql_struct,show (10000:Nat)=9999+1 from rfl,run_equalIn_agg w 9999 61 _ _ hS hp];simp only [Program.fieldsOf,Tryz.underlying61];go_simp;by_cases h1:a=c <;> by_cases h2:b=d <;> simp [h1,h2]
def sameF (a b:Vt):Bool:=a.sl == b.sl && (a.hd == b.hd && ((a.se == b.se && a.sr == b.sr) && (a.te == b.te && a.tr == b.tr)))
def doubleF (a b:Vt):Bool:=a.te == b.te && !sameF a b
def aroundF (a b:Vt):Bool:=decide (a.se < b.se) && decide (b.te < a.te)
def badF (a b:Vt):Bool:=doubleF a b || aroundF a b || aroundF b a
section
variable {w:World} {a b:Vt} {aw bw:Option Addr} {ac bc:Nat}
set_option maxHeartbeats 2000000 in
theorem vsame_calls:Calls Tryz.prog 90 #[vtV a aw ac,vtV b bw bc] w fun e w'=>e=.returned (.bool (sameF a b))∧w.grownBy w' none:=by
 obtain ⟨x0,x1,x2,x3,x4,x5,xs⟩:=a;obtain ⟨y0,y1,y2,y3,y4,y5,ys⟩:=b;unfold vtV sameF;simp only;obtain ⟨R,hR⟩ : ∃ R,R=(x0 == y0 && (x1 == y1 && ((x2 == y2 && x3 == y3) && (x4 == y4 && x5 == y5)))):=⟨_,rfl⟩;rw [← hR];have HR:=lh hR;clear hR;have hep:=eq_point;go_enter Tryz.func90,Tryz.ntmps90
 go_upto_region 1 with (fail)
 refine nmC2 ?_;intro W b0 b1 hz hg;obtain ⟨q,hq_q⟩ : ∃ q,q=w.heap.size:=⟨_,rfl⟩;rw [← hq_q] at b0 b1 hz ⊢;have HQ_q:=lh hq_q;clear hq_q;have HB0:=lh b0;have HB1:=lh b1;have HG:=lh hg;clear b0 b1 hg;have d0:=HB0.out.at 0;have d1:=HB0.out.at 1;have d2:=HB0.out.at 2;have d3:=HB0.out.at 3;have d4:=HB0.out.at 4;have d5:=HB0.out.at 5;have e0:=HB1.out.at 0;have e1:=HB1.out.at 1;have e2:=HB1.out.at 2;have e3:=HB1.out.at 3;have e4:=HB1.out.at 4;have e5:=HB1.out.at 5;clear hz;cases g0:(x0 == y0)
 ·go_wp2_with fail
  go_ret;exact ⟨by rw [HR.out,g0];rfl,HG.out⟩
 cases g1:(x1 == y1)
 ·go_wp2_with fail
  go_ret;exact ⟨by rw [HR.out,g0,g1];rfl,HG.out⟩
 cases g2:(x2 == y2 && x3 == y3)
 ·go_wp2_with fail
  go_ret;exact ⟨by rw [HR.out,g0,g1,g2];rfl,HG.out⟩
 go_wp2_with fail
 go_ret;exact ⟨by rw [HR.out,g0,g1,g2];rfl,HG.out⟩
set_option maxHeartbeats 2000000 in
theorem double_calls:Calls Tryz.prog 83 #[vtV a aw ac,vtV b bw bc] w fun e w'=>e=.returned (.bool (doubleF a b))∧w.grownBy w' none:=by
 obtain ⟨R,hR⟩ : ∃ R,R=doubleF a b:=⟨_,rfl⟩;rw [← hR];obtain ⟨x0,x1,x2,x3,x4,x5,xs⟩:=a;obtain ⟨y0,y1,y2,y3,y4,y5,ys⟩:=b;have HR:=lh hR;clear hR;unfold vtV;simp only;go_enter Tryz.func83,Tryz.ntmps83
 go_upto_region 1 with (fail)
 refine nmC2 ?_;intro W b0 b1 hz hg;obtain ⟨q,hq_q⟩ : ∃ q,q=w.heap.size:=⟨_,rfl⟩;rw [← hq_q] at b0 b1 hz ⊢;have HQ_q:=lh hq_q;clear hq_q;have HB0:=lh b0;have HB1:=lh b1;have HG:=lh hg;clear b0 b1 hg;have d0:=HB0.out.at 0;have d1:=HB0.out.at 1;have d2:=HB0.out.at 2;have d3:=HB0.out.at 3;have d4:=HB0.out.at 4;have d5:=HB0.out.at 5;have d6:=HB0.out.at 6;have e0:=HB1.out.at 0;have e1:=HB1.out.at 1;have e2:=HB1.out.at 2;have e3:=HB1.out.at 3;have e4:=HB1.out.at 4;have e5:=HB1.out.at 5;have e6:=HB1.out.at 6;clear hz;cases g0:(x4 == y4)
 ·go_wp2_with fail
  go_ret;exact ⟨by rw [HR.out];unfold doubleF;simp only [g0];rfl,HG.out⟩
 ·go_wp2_with (go_at_call 90;refine (vsame_calls (a:=⟨x0,x1,x2,x3,x4,x5,xs⟩) (b:=⟨y0,y1,y2,y3,y4,y5,ys⟩)).mono ?_;rintro e w2 ⟨rfl,hg2⟩;have HG2:=lh (g2 HG.out hg2);clear hg2)
  go_ret;exact ⟨by rw [HR.out];unfold doubleF;simp only [g0];rfl,HG2.out⟩
set_option maxHeartbeats 2000000 in
theorem around_calls:Calls Tryz.prog 84 #[vtV a aw ac,vtV b bw bc] w fun e w'=>e=.returned (.bool (aroundF a b))∧w.grownBy w' none:=by
 obtain ⟨R,hR⟩ : ∃ R,R=aroundF a b:=⟨_,rfl⟩;rw [← hR];obtain ⟨x0,x1,x2,x3,x4,x5,xs⟩:=a;obtain ⟨y0,y1,y2,y3,y4,y5,ys⟩:=b;have HR:=lh hR;clear hR;unfold vtV;simp only;go_enter Tryz.func84,Tryz.ntmps84
 go_upto_region 1 with (fail)
 refine nmC2 ?_;intro W b0 b1 hz hg;obtain ⟨q,hq_q⟩ : ∃ q,q=w.heap.size:=⟨_,rfl⟩;rw [← hq_q] at b0 b1 hz ⊢;have HQ_q:=lh hq_q;clear hq_q;have HB0:=lh b0;have HB1:=lh b1;have HG:=lh hg;clear b0 b1 hg;have d2:=HB0.out.at 2;have d4:=HB0.out.at 4;have e2:=HB1.out.at 2;have e4:=HB1.out.at 4;clear hz;cases g0:decide (x2 < y2)
 ·go_wp2_with fail
  go_ret;exact ⟨by rw [HR.out];unfold aroundF;simp only [g0];rfl,HG.out⟩
 ·go_wp2_with fail
  go_ret;exact ⟨by rw [HR.out];unfold aroundF;simp only [g0];rfl,HG.out⟩
set_option maxHeartbeats 4000000 in
theorem bad_calls:Calls Tryz.prog 77 #[vtV a aw ac,vtV b bw bc] w fun e w'=>e=.returned (.bool (badF a b))∧w.grownBy w' none:=by
 obtain ⟨x0,x1,x2,x3,x4,x5,xs⟩:=a;obtain ⟨y0,y1,y2,y3,y4,y5,ys⟩:=b;obtain ⟨R,hR⟩ : ∃ R,R=badF ⟨x0,x1,x2,x3,x4,x5,xs⟩ ⟨y0,y1,y2,y3,y4,y5,ys⟩:=⟨_,rfl⟩;rw [← hR];unfold badF at hR;have HD:=lh fun w=>@double_calls w ⟨x0,x1,x2,x3,x4,x5,xs⟩ ⟨y0,y1,y2,y3,y4,y5,ys⟩ aw bw ac bc;have HA:=lh fun w=>@around_calls w ⟨x0,x1,x2,x3,x4,x5,xs⟩ ⟨y0,y1,y2,y3,y4,y5,ys⟩ aw bw ac bc;have HA2:=lh fun w=>@around_calls w ⟨y0,y1,y2,y3,y4,y5,ys⟩ ⟨x0,x1,x2,x3,x4,x5,xs⟩ bw aw bc ac;obtain ⟨D,hD⟩ : ∃ D,D=doubleF ⟨x0,x1,x2,x3,x4,x5,xs⟩ ⟨y0,y1,y2,y3,y4,y5,ys⟩:=⟨_,rfl⟩;obtain ⟨A1,hA1⟩ : ∃ A1,A1=aroundF ⟨x0,x1,x2,x3,x4,x5,xs⟩ ⟨y0,y1,y2,y3,y4,y5,ys⟩:=⟨_,rfl⟩;obtain ⟨A2,hA2⟩ : ∃ A2,A2=aroundF ⟨y0,y1,y2,y3,y4,y5,ys⟩ ⟨x0,x1,x2,x3,x4,x5,xs⟩:=⟨_,rfl⟩;rw [← hD] at HD hR;rw [← hA1] at HA hR;rw [← hA2] at HA2 hR;have HR:=lh hR;clear hR hD hA1 hA2;unfold vtV at HD HA HA2 ⊢;simp only at HD HA HA2 ⊢;go_enter Tryz.func77,Tryz.ntmps77
 go_upto_region 1 with (fail)
 refine nmC2 ?_;intro W b0 b1 hz hg;obtain ⟨q,hq_q⟩ : ∃ q,q=w.heap.size:=⟨_,rfl⟩;rw [← hq_q] at b0 b1 hz ⊢;have HQ_q:=lh hq_q;clear hq_q;have HB0:=lh b0;have HB1:=lh b1;have HG:=lh hg;clear b0 b1 hg;clear hz;have d0:=HB0.out.at 0;have d1:=HB0.out.at 1;have d2:=HB0.out.at 2;have d3:=HB0.out.at 3;have d4:=HB0.out.at 4;have d5:=HB0.out.at 5;have d6:=HB0.out.at 6;have e0:=HB1.out.at 0;have e1:=HB1.out.at 1;have e2:=HB1.out.at 2;have e3:=HB1.out.at 3;have e4:=HB1.out.at 4;have e5:=HB1.out.at 5;have e6:=HB1.out.at 6;go_wp2_with fail
 refine (HD.out _).mono ?_;rintro e w2 ⟨rfl,hg2⟩;clear d0 d1 d2 d3 d4 d5 d6 e0 e1 e2 e3 e4 e5 e6;replace HB0:=lh (HB0.out.g hg2);replace HB1:=lh (HB1.out.g hg2);replace HG:=lh (g2 HG.out hg2);clear hg2;cases D
 ·have d0:=HB0.out.at 0;have d1:=HB0.out.at 1;have d2:=HB0.out.at 2;have d3:=HB0.out.at 3;have d4:=HB0.out.at 4;have d5:=HB0.out.at 5;have d6:=HB0.out.at 6;have e0:=HB1.out.at 0;have e1:=HB1.out.at 1;have e2:=HB1.out.at 2;have e3:=HB1.out.at 3;have e4:=HB1.out.at 4;have e5:=HB1.out.at 5;have e6:=HB1.out.at 6;go_wp2_with fail
  refine (HA.out _).mono ?_;rintro e w3 ⟨rfl,hg2⟩;clear d0 d1 d2 d3 d4 d5 d6 e0 e1 e2 e3 e4 e5 e6;replace HB0:=lh (HB0.out.g hg2);replace HB1:=lh (HB1.out.g hg2);replace HG:=lh (g2 HG.out hg2);clear hg2;cases A1
  ·have d0:=HB0.out.at 0;have d1:=HB0.out.at 1;have d2:=HB0.out.at 2;have d3:=HB0.out.at 3;have d4:=HB0.out.at 4;have d5:=HB0.out.at 5;have d6:=HB0.out.at 6;have e0:=HB1.out.at 0;have e1:=HB1.out.at 1;have e2:=HB1.out.at 2;have e3:=HB1.out.at 3;have e4:=HB1.out.at 4;have e5:=HB1.out.at 5;have e6:=HB1.out.at 6;go_wp2_with fail
   refine (HA2.out _).mono ?_;rintro e w4 ⟨rfl,hg2⟩;clear d0 d1 d2 d3 d4 d5 d6 e0 e1 e2 e3 e4 e5 e6;replace HB0:=lh (HB0.out.g hg2);replace HB1:=lh (HB1.out.g hg2);replace HG:=lh (g2 HG.out hg2);clear hg2;go_wp2_with fail
   go_ret;exact ⟨by rw [HR.out];rfl,HG.out⟩
  ·go_wp2_with fail
   go_ret;exact ⟨by rw [HR.out];rfl,HG.out⟩
 ·go_wp2_with fail
  go_ret;exact ⟨by rw [HR.out];rfl,HG.out⟩
end
theorem add0 (g j:Nat):(⟨g,0,none⟩:Addr).add j=⟨g,j,none⟩:=by simp [Addr.add];omega
theorem news_box (w:World) (cs:List Value) (T:TypeId) : ∀ j u,cs[j]? = some u→(w.alloc (.cells cs.toArray T)).cell? ((⟨w.heap.size,0,none⟩:Addr).add j)=some u:=by
 intro j u hj;have h:=Blk.alloc w cs.toArray T;have h2:=h.at j;rw [add0,h2]
 simpa using hj
def Elem (P:Program) (e:TypeId) (i:TypeInfo) (z:Value) (size bytes:Nat):Prop:=P.info? e=some i∧i.zero=some z∧i.size=size∧i.bytes=bytes
section
variable {P:Program} {ops:Array Oper} {rest:List Oper} {o:Oper} {a:Act} {Q:Exit→Act→World→Prop}
theorem wpList_push {W:World} {cs:List Value} {T:TypeId} (hgd:o.guard=none) (s x:Operand) (t:TypeId) (ho:o.op=.call { callee:=.builtin .append,args:=#[s,x],argTypes:=#[t,t] })
  (base:Nat) (e:TypeId) (i:TypeInfo) (z:Value) (size bytes:Nat) (ht:P.underlying t=some (.slice e)) (hI:Elem P e i z size bytes) (hzs:z.cells.size=size) (hsz:0 < size)
  (v:Value) (n:Nat) (xs:List Value) (hs:a.eval s=v) (hown:W.ownsRow base e size v n xs) (hx:a.eval x=.slice (some ⟨W.heap.size,0,none⟩) 1 1) (hl:cs.length=size) (h1 : ∀ u∈cs,u.oneCell'=true)
  (h63:n+1≤maxLen) (hbytes:(n+1) * bytes≤140737488355328) (hbase:base≤W.heap.size)
  (h : ∀ v' w',w'.ownsRow base e size v' (n+1) (xs++cs)→W.grownBy w' v.ownBlock→wpList P ops Q rest (a.put o.dst v') w') :
  wpList P ops Q (o :: rest) a (W.alloc (.cells cs.toArray T)):=by
 refine wpList_append_own_at (w:=W.alloc (.cells cs.toArray T)) hgd s x t ho base e i z size bytes ht hI.1 hI.2.1 hI.2.2.1 hI.2.2.2 hzs hsz v n xs hs (hown.alloc _) ⟨W.heap.size,0,none⟩ 1 1 cs hx (by simpa using hl) (news_box W cs T) h1 h63 hbytes (by simp;omega) ?_;intro v' w' r1 r2 _ _;exact h v' w' r1 ((gweak (World.grownBy_alloc W _ none)).andThen r2 (fun j e=>Or.inr e))
end
theorem own_grown {w0 W w':World} {base:Nat} {e:TypeId} {size:Nat} {v:Value} {n:Nat} {xs:List Value} (hg0:w0.grownBy W none) (hown:W.ownsRow base e size v n xs) (hb:w0.heap.size≤base) (hg:W.grownBy w' v.ownBlock):w0.grownBy w' none:=
 hg0.andThen hg (fun j ej=>Or.inl (Nat.le_trans hb (hown.lt j ej).1))
def BRow (w:World) (g n:Nat) (xs:List Bool):Prop:=xs.length=n∧∀ i,i < n→w.cell? ⟨g,i,none⟩=some (.bool (xs.getD i false))
theorem BRow.g {w w':World} {g n:Nat} {xs:List Bool} (h:BRow w g n xs) (hg:w.grownBy w' none):BRow w' g n xs:=⟨h.1,fun i hi=>cell_g (h.2 i hi) hg⟩
theorem BRow.chg {S:Nat→Prop} {w w':World} {g n:Nat} {xs:List Bool} (h:BRow w g n xs) (hg:Chg S w w') (hn:¬ S g):BRow w' g n xs:=⟨h.1,fun i hi=>hg.cell (h.2 i hi) hn⟩
theorem BRow.lt {w:World} {g n:Nat} {xs:List Bool} (h:BRow w g n xs) (hn:0 < n):g < w.heap.size:=World.block_lt_of_cell? w ⟨g,0,none⟩ (h.2 0 hn)
def whoF (xs:List Bool):Nat→List Int
 | 0=>[]
 | k+1=>whoF xs k++(if xs.getD k false then [(k:Int)] else [])
theorem whoF_len (xs:List Bool) : ∀ k,(whoF xs k).length≤k
 | 0=>by simp [whoF]
 | k+1=>by have:=whoF_len xs k;unfold whoF;split <;> simp <;> omega
theorem whoF_mem (xs:List Bool) : ∀ k,∀ x∈whoF xs k,0≤x∧x < k
 | 0=>by simp [whoF]
 | k+1=>by
  intro x hx;unfold whoF at hx;rcases List.mem_append.1 hx with h | h
  ·have:=whoF_mem xs k x h;omega
  ·split at h
   ·simp at h;omega
   ·simp at h
abbrev encI:Int→Value:=Value.int .i64
theorem info_i64:(Tryz.prog.info? 3).map (fun i=>(i.zero,i.size,i.bytes))=some (some (.int .i64 0),1,8):=by kernel_rfl
theorem elem_i64 : ∃ i,Elem Tryz.prog 3 i (.int .i64 0) 1 8:=info_parts info_i64
theorem elem_u64 : ∃ i,Elem Tryz.prog 27 i (.int .u64 0) 1 8:=info_parts info_u64
theorem info_bool:(Tryz.prog.info? 4).map (fun i=>(i.zero,i.size,i.bytes))=some (some (.bool false),1,1):=by kernel_rfl
theorem elem_bool : ∃ i,Elem Tryz.prog 4 i (.bool false) 1 1:=info_parts info_bool
theorem ints_own {w:World} {base n:Nat} {v:Value} {ks:List Int} (h:w.ownsRow base 3 1 v n (ks.map encI)) : ∃ wa c,v=.slice wa n c∧Ints .i64 w wa ks∧n=ks.length:=by
 have hl:ks.length=n:=by have:=h.1;simpa using this
 rcases h.two with hv | ⟨g,cap,hv⟩
 ·subst hv;have hn:n=0:=by
   rcases h.2 with h | ⟨_,_,_,h,_⟩
   ·exact h.2
   ·cases h
  exact ⟨none,0,by rw [hn],fun i hi=>by omega,hl.symm⟩
 ·subst hv;refine ⟨_,_,rfl,fun i hi=>⟨_,rfl,?_⟩,hl.symm⟩;have hc:=h.cellAt i (by omega);rw [add0,hc];simp [List.getD_eq_getElem?_getD,hi]
theorem who_calls {w:World} {g n c:Nat} {xs:List Bool} (hb:BRow w g n xs) (hn:n≤1000000) :
  Calls Tryz.prog 75 #[.slice (some ⟨g,0,none⟩) n c] w fun e w'=>∃ v,e=.returned v∧w'.ownsRow w.heap.size 3 1 v (whoF xs n).length ((whoF xs n).map encI)∧w.grownBy w' none:=by
 have HB:=lh hb;clear hb;obtain ⟨i0,hi⟩:=elem_i64;have HI:=lh hi;clear hi;go_enter Tryz.func75,Tryz.ntmps75
 go_wp2
 go_loopw [8,3] (fun v8 v3 wr=>∃ j:Nat,v8=.int .i64 (j:Int)∧j≤n∧wr.ownsRow w.heap.size 3 1 v3 (whoF xs j).length ((whoF xs j).map encI)∧w.grownBy wr none) (fun v8 _ _=>n - (intOf v8).toNat)
 case atStart=>exact ⟨0,rfl,by omega,World.ownsRow_nil _ _ _ _,gR _ _⟩
 case round=>
  obtain ⟨j,rfl,hj,ho,hg⟩:=hrel;have HO:=lh ho;have HG:=lh hg;clear ho;by_cases hlt:j < n
  ·have hc:=(HB.out.g hg).2 j hlt;clear hg;have hw:whoF xs (j+1)=whoF xs j++(if xs.getD j false then [(j:Int)] else []):=rfl;obtain ⟨b,hbb⟩ : ∃ b,b=xs.getD j false:=⟨_,rfl⟩;rw [← hbb] at hc hw;have HW:=lh hw;have hwl:=whoF_len xs j;clear hw hbb;cases b with
   | false=>
    go_wp2;exact ⟨⟨j+1,by simp,by omega,by rw [HW.out];simpa using HO.out,HG.out⟩,by simp [intOf];omega⟩
   | true=>
    go_wp2_with (at_builtin;refine wpList_push rfl _ _ 62 rfl w.heap.size 3 i0 (.int .i64 0) 1 8 Tryz.underlying62 HI.out rfl (by decide) _ (whoF xs j).length ((whoF xs j).map encI) rfl HO.out rfl rfl (by simp [Value.oneCell']) (by unfold maxLen;omega) (by omega) HG.out.size ?_;intro v6 w6 h6 hg6;have H6:=lh h6;have HG6:=lh (own_grown HG.out HO.out (Nat.le_refl _) hg6);clear h6 hg6)
    exact ⟨⟨j+1,by simp,by omega,by rw [HW.out];simpa using H6.out,HG6.out⟩,by simp [intOf];omega⟩
  ·have hje:j=n:=by omega
   subst hje;clear hg;go_wp2;go_ret;exact ⟨_,rfl,HO.out,HG.out⟩
end Go.Proofs.YtndfpmboanohcaaGreatDoor
namespace Go.Proofs
open Go.Shelf
set_option maxRecDepth 100000
def Tryz.hasInt_ren:Go.Shelf.Ren:=⟨fun | 107=>85 | 108=>91 | n=>n,fun | 28=>62 | n=>n,fun n=>n⟩
theorem Tryz.hasInt:Lays.n107 Tryz.prog Tryz.hasInt_ren where
 mixed:=by kernel_rfl
 f107:=Tryz.func85.trans (congrArg some (by kernel_rfl))
 f108:=Tryz.func91.trans (congrArg some (by kernel_rfl))
 t0:=Tryz.underlying0
 a0:=Tryz.isAgg0
 z0:=Tryz.sizeOf0
 v0:=Tryz.zeroValue0
 t3:=Tryz.underlying3
 a3:=Tryz.isAgg3
 z3:=Tryz.sizeOf3
 v3:=Tryz.zeroValue3
 t4:=Tryz.underlying4
 a4:=Tryz.isAgg4
 z4:=Tryz.sizeOf4
 v4:=Tryz.zeroValue4
 t28:=Tryz.underlying62
 a28:=Tryz.isAgg62
 z28:=Tryz.sizeOf62
 v28:=Tryz.zeroValue62
def Tryz.sortInt_ren:Go.Shelf.Ren:=⟨fun | 125=>89 | 128=>102 | 129=>103 | 189=>86 | 215=>122 | 216=>110 | 257=>92 | 294=>104 | 295=>105 | 296=>106 | 297=>107 | 298=>108 | 299=>109 | 300=>111 | 301=>112 | 328=>119 | 329=>114 | 330=>115 | 331=>120 | 332=>121 | 343=>124 | n=>n,fun | 28=>62 | 46=>229 | 51=>240 | 53=>27 | 131=>29 | 182=>233 | 183=>234 | 218=>248 | 222=>251 | 228=>255 | 229=>256 | n=>n,fun n=>n⟩
theorem Tryz.sortInt:Lays.n189 Tryz.prog Tryz.sortInt_ren where
 mixed:=by kernel_rfl
 f125:=Tryz.func89.trans (congrArg some (by kernel_rfl))
 f128:=Tryz.func102.trans (congrArg some (by kernel_rfl))
 f129:=Tryz.func103.trans (congrArg some (by kernel_rfl))
 f189:=Tryz.func86.trans (congrArg some (by kernel_rfl))
 f215:=Tryz.func122.trans (congrArg some (by kernel_rfl))
 f216:=Tryz.func110.trans (congrArg some (by kernel_rfl))
 f257:=Tryz.func92.trans (congrArg some (by kernel_rfl))
 f294:=Tryz.func104.trans (congrArg some (by kernel_rfl))
 f295:=Tryz.func105.trans (congrArg some (by kernel_rfl))
 f296:=Tryz.func106.trans (congrArg some (by kernel_rfl))
 f297:=Tryz.func107.trans (congrArg some (by kernel_rfl))
 f298:=Tryz.func108.trans (congrArg some (by kernel_rfl))
 f299:=Tryz.func109.trans (congrArg some (by kernel_rfl))
 f300:=Tryz.func111.trans (congrArg some (by kernel_rfl))
 f301:=Tryz.func112.trans (congrArg some (by kernel_rfl))
 f328:=Tryz.func119.trans (congrArg some (by kernel_rfl))
 f329:=Tryz.func114.trans (congrArg some (by kernel_rfl))
 f330:=Tryz.func115.trans (congrArg some (by kernel_rfl))
 f331:=Tryz.func120.trans (congrArg some (by kernel_rfl))
 f332:=Tryz.func121.trans (congrArg some (by kernel_rfl))
 f343:=Tryz.func124.trans (congrArg some (by kernel_rfl))
 t0:=Tryz.underlying0
 a0:=Tryz.isAgg0
 z0:=Tryz.sizeOf0
 v0:=Tryz.zeroValue0
 t3:=Tryz.underlying3
 a3:=Tryz.isAgg3
 z3:=Tryz.sizeOf3
 v3:=Tryz.zeroValue3
 t4:=Tryz.underlying4
 a4:=Tryz.isAgg4
 z4:=Tryz.sizeOf4
 v4:=Tryz.zeroValue4
 t5:=Tryz.underlying5
 a5:=Tryz.isAgg5
 z5:=Tryz.sizeOf5
 v5:=Tryz.zeroValue5
 t9:=Tryz.underlying9
 a9:=Tryz.isAgg9
 z9:=Tryz.sizeOf9
 v9:=Tryz.zeroValue9
 t28:=Tryz.underlying62
 a28:=Tryz.isAgg62
 z28:=Tryz.sizeOf62
 v28:=Tryz.zeroValue62
 t46:=Tryz.underlying229
 a46:=Tryz.isAgg229
 z46:=Tryz.sizeOf229
 v46:=Tryz.zeroValue229
 t51:=Tryz.underlying240
 a51:=Tryz.isAgg240
 z51:=Tryz.sizeOf240
 v51:=Tryz.zeroValue240
 t53:=Tryz.underlying27
 a53:=Tryz.isAgg27
 z53:=Tryz.sizeOf27
 v53:=Tryz.zeroValue27
 t131:=Tryz.underlying29
 a131:=Tryz.isAgg29
 z131:=Tryz.sizeOf29
 v131:=Tryz.zeroValue29
 t182:=Tryz.underlying233
 a182:=Tryz.isAgg233
 z182:=Tryz.sizeOf233
 v182:=Tryz.zeroValue233
 t183:=Tryz.underlying234
 a183:=Tryz.isAgg234
 z183:=Tryz.sizeOf234
 v183:=Tryz.zeroValue234
 t218:=Tryz.underlying248
 a218:=Tryz.isAgg248
 z218:=Tryz.sizeOf248
 v218:=Tryz.zeroValue248
 t222:=Tryz.underlying251
 a222:=Tryz.isAgg251
 z222:=Tryz.sizeOf251
 v222:=Tryz.zeroValue251
 t228:=Tryz.underlying255
 a228:=Tryz.isAgg255
 z228:=Tryz.sizeOf255
 v228:=Tryz.zeroValue255
 t229:=Tryz.underlying256
 a229:=Tryz.isAgg256
 z229:=Tryz.sizeOf256
 v229:=Tryz.zeroValue256
end Go.Proofs
namespace Go.Proofs.YtndfpmboanohcaaGreatDoor
set_option maxRecDepth 100000
open Go.RowKit Go.Maps SkipPure
theorem has_calls {w:World} {a:Option Addr} {xs:List Int} (h:Ints .i64 w a xs) (ha : ∀ ad,a=some ad→ad.spot=none) (c:Nat) (x:Int) (hk:xs.length≤1000000) :
  Calls Tryz.prog 85 #[.slice a xs.length c,.int .i64 x] w fun e w'=>e=.returned (.bool (xs.contains x))∧w'=w:=by
 cases xs with
 | nil=>exact Any.slices_Contains_int_empty Tryz.hasInt a c x w
 | cons y ys=>
  obtain ⟨⟨b,off,sp⟩,rfl,_⟩:=h 0 (by simp);have hs:=ha _ rfl;simp only at hs;subst hs;have e:=Any.slices_Contains_int Tryz.hasInt b off (y :: ys).length c (y :: ys) x w (Nat.le_refl _) (by omega) (fun j hj=>by
   obtain ⟨ad2,he,hc⟩:=h j hj;cases he;rw [← hc];unfold Addr.add;by_cases h0:j=0
   ·subst h0;rfl
   ·rw [if_neg h0])
  rw [List.take_length] at e;exact e
theorem sortI_calls {w:World} {B g c:Nat} {xs:List Int} (hN:xs.length≤1000000) (hrow:w.ownsRow B 3 1 (.slice (some ⟨g,0,none⟩) xs.length c) xs.length (xs.map (Value.int .i64))) :
  Calls Tryz.prog 86 #[.slice (some ⟨g,0,none⟩) xs.length c] w fun e w'=>e=.returned (.tuple #[]) ∧
   w'.ownsRow B 3 1 (.slice (some ⟨g,0,none⟩) xs.length c) xs.length ((xs.mergeSort fun x y=>decide (x≤y)).map (Value.int .i64))∧w.grownBy w' (some g):=by
 obtain ⟨g',cap,hv,hB,hlt,hn,hm,_,hH⟩:=Lib.holds_of_ownsRow (enc:=Value.int .i64) hrow (by simp)
 injection hv with e1 _ e3
 injection e1 with e1
 injection e1 with e1
 subst e1;subst e3;refine (Any.slices_Sort_int Tryz.sortInt g 0 c xs w hH hlt (by omega)).mono ?_;rintro e w' ⟨rfl,n,os,rfl⟩;have hl:(xs.mergeSort fun x y=>decide (x≤y)).length=xs.length:=List.length_mergeSort ..;refine ⟨rfl,?_,grownBy_sorted _⟩;have h:=Lib.ownsRow_putRow (enc:=Value.int .i64) (q:=n) (ys:=xs.mergeSort fun x y=>decide (x≤y)) hrow hl (Nat.le_refl _);rw [List.take_of_length_le (by omega)] at h;exact Lib.ownsRow_grow h 0 os
theorem ints_of_own {w:World} {B g c n:Nat} {xs:List Int} (h:w.ownsRow B 3 1 (.slice (some ⟨g,0,none⟩) n c) n (xs.map (Value.int .i64))):Ints .i64 w (some ⟨g,0,none⟩) xs:=fun i hi=>by
 refine ⟨_,rfl,?_⟩;have hl:xs.length=n:=by simpa using h.1
 have:=h.cellAt i (by omega);have e:(⟨g,0,none⟩:Addr).add i=⟨g,i,none⟩:=by
  unfold Addr.add;by_cases h0:i=0
  ·rw [if_pos h0,h0]
  ·rw [if_neg h0,Nat.zero_add]
 rw [e]
 simpa [List.getD,List.getElem?_eq_getElem hi] using this
theorem has_own {w:World} {B:Nat} {v:Value} {xs:List Int} (h:w.ownsRow B 3 1 v xs.length (xs.map (Value.int .i64))) (x:Int) (hk:xs.length≤1000000) :
  Calls Tryz.prog 85 #[v,.int .i64 x] w fun e w'=>e=.returned (.bool (xs.contains x))∧w'=w:=by
 rcases h.2 with ⟨rfl,h0⟩ | ⟨g,cap,cur,rfl,_⟩
 ·have hx:xs=[]:=List.eq_nil_of_length_eq_zero h0;subst hx;exact Any.slices_Contains_int_empty Tryz.hasInt none 0 x w
 ·exact has_calls (ints_of_own h) (fun ad e=>by cases e;rfl) cap x hk
theorem sort_own {w:World} {B:Nat} {v:Value} {xs:List Int} (h:w.ownsRow B 3 1 v xs.length (xs.map (Value.int .i64))) (hk:xs.length≤1000000) :
  Calls Tryz.prog 86 #[v] w fun e w'=>e=.returned (.tuple #[])∧w'.ownsRow B 3 1 v xs.length ((xs.mergeSort fun x y=>decide (x≤y)).map (Value.int .i64))∧∃ g,B≤g∧w.grownBy w' (some g):=by
 rcases id h.2 with ⟨rfl,h0⟩ | ⟨g,cap,cur,rfl,hb,_⟩
 ·have hx:xs=[]:=List.eq_nil_of_length_eq_zero h0;subst hx;refine (Any.slices_Sort_int_none Tryz.sortInt none 0 w).mono ?_;rintro e w' ⟨rfl,rfl⟩;exact ⟨rfl,by simpa using h,B,Nat.le_refl _,gR _ _⟩
 ·refine (sortI_calls hk h).mono ?_;rintro e w' ⟨rfl,h1,h2⟩;exact ⟨rfl,h1,g,hb,h2⟩
def bothR (us vs:List Int):Nat→List Int
 | 0=>[]
 | j+1=>if vs.contains (us.getD j 0) && !(bothR us vs j).contains (us.getD j 0) then bothR us vs j++[us.getD j 0] else bothR us vs j
theorem bothR_len (us vs:List Int) (j:Nat):(bothR us vs j).length≤j:=by
 induction j with
 | zero=>simp [bothR]
 | succ j ih=>
  unfold bothR;split
  ·simp;exact ih
  ·omega
theorem own_base {w:World} {base base':Nat} {e:TypeId} {size n:Nat} {v:Value} {xs:List Value} (h:w.ownsRow base' e size v n xs) (hb:base≤base'):w.ownsRow base e size v n xs:=by
 obtain ⟨h1,h2⟩:=h;refine ⟨h1,?_⟩;rcases h2 with h2 | ⟨g,cap,cur,rfl,h3,h4⟩
 ·exact .inl h2
 ·exact .inr ⟨g,cap,cur,rfl,Nat.le_trans hb h3,h4⟩
def bothF (us vs:List Int):List Int:=(bothR us vs us.length).mergeSort fun x y=>decide (x≤y)
section
variable {w:World} {a b:Vt} {aw bw:Option Addr} {ac bc:Nat}
set_option maxHeartbeats 2000000 in
theorem both_calls (ha:Ints .i64 w aw a.who) (hb:Ints .i64 w bw b.who) (hbs : ∀ ad,bw=some ad→ad.spot=none) (hal:a.who.length≤1000000) (hbl:b.who.length≤1000000) :
  Calls Tryz.prog 78 #[vtV a aw ac,vtV b bw bc] w fun e w'=>∃ v,e=.returned v∧w'.ownsRow w.heap.size 3 1 v (bothF a.who b.who).length ((bothF a.who b.who).map (Value.int .i64))∧w.grownBy w' none:=by
 obtain ⟨x0,x1,x2,x3,x4,x5,xs⟩:=a;obtain ⟨y0,y1,y2,y3,y4,y5,ys⟩:=b;simp only at ha hb hal hbl;unfold vtV;simp only;obtain ⟨i0,hi⟩:=elem_i64;have HI:=lh hi;have HA:=lh ha;have HB:=lh hb;have HS:=lh hbs;clear hi ha hb hbs;go_enter Tryz.func78,Tryz.ntmps78
 go_upto_region 1 with (fail)
 refine nmC2 ?_;intro W b0 b1 hz hg;obtain ⟨q,hq_q⟩ : ∃ q,q=w.heap.size:=⟨_,rfl⟩;rw [← hq_q] at b0 b1 hz ⊢;have HQ_q:=lh hq_q;clear hq_q;have HB0:=lh b0;have HB1:=lh b1;have HG:=lh hg;clear b0 b1 hg;clear hz;replace HA:=lh (HA.out.kept HG.out);replace HB:=lh (HB.out.kept HG.out);have d6:=HB0.out.at 6;go_wp2_with fail
 clear d6
 go_loopw [11,5] (fun v11 v5 wr=>∃ j:Nat,v11=.int .i64 (j:Int)∧j≤xs.length∧wr.ownsRow W.heap.size 3 1 v5 (bothR xs ys j).length ((bothR xs ys j).map (Value.int .i64))∧W.grownBy wr none) (fun v11 _ _=>xs.length - (intOf v11).toNat)
 case atStart=>exact ⟨0,rfl,by omega,World.ownsRow_nil _ _ _ _,gR _ _⟩
 case round=>
  obtain ⟨j,rfl,hj,ho,hgr⟩:=hrel;have HO:=lh ho;have HGR:=lh hgr;clear ho hgr;by_cases hlt:j < xs.length
  ·obtain ⟨ad,rfl,hc⟩:=(HA.out.kept HGR.out) j hlt;obtain ⟨x,hx⟩ : ∃ x,x=xs.getD j 0:=⟨_,rfl⟩;rw [← hx] at hc;have HX:=lh hx;clear hx;have e6:=(HB1.out.g HGR.out).at 6;have hlr:=bothR_len xs ys j;have HCB:=lh (has_calls (HB.out.kept HGR.out) HS.out bc x hbl);obtain ⟨T,hT⟩ : ∃ T,T=bothR xs ys j:=⟨_,rfl⟩;rw [← hT] at HO hlr;have hn:bothR xs ys (j+1)=if ys.contains x && !T.contains x then T++[x] else T:=by rw [HX.out,hT];rfl
   have HN:=lh hn;have HCO:=lh (has_own HO.out x (by omega));clear hn hT;obtain ⟨C1,hC1⟩ : ∃ C1,C1=ys.contains x:=⟨_,rfl⟩;obtain ⟨C2,hC2⟩ : ∃ C2,C2=T.contains x:=⟨_,rfl⟩;rw [← hC1] at HCB HN;rw [← hC2] at HCO HN;clear hC1 hC2;go_wp2_with fail
   refine HCB.out.mono ?_;rintro e w2 ⟨rfl,rfl⟩;cases C1
   ·go_wp2_with fail
    exact ⟨⟨j+1,by simp,by omega,by rw [HN.out];exact HO.out,HGR.out⟩,by simp [intOf];omega⟩
   ·go_wp2_with fail
    refine HCO.out.mono ?_;rintro e w2 ⟨rfl,rfl⟩;cases C2
    ·go_wp2_with (at_builtin;refine wpList_push rfl _ _ 62 rfl W.heap.size 3 i0 (.int .i64 0) 1 8 Tryz.underlying62 HI.out rfl (by decide) _ T.length (T.map (Value.int .i64)) rfl HO.out rfl rfl (by simp [Value.oneCell']) (by unfold maxLen;omega) (by omega) HGR.out.size ?_;intro v6 w6 h6 hg6;have H6:=lh h6;have HG6:=lh (own_grown HGR.out HO.out (Nat.le_refl _) hg6);clear h6 hg6)
     exact ⟨⟨j+1,by simp,by omega,by rw [HN.out];simpa using H6.out,HG6.out⟩,by simp [intOf];omega⟩
    ·go_wp2_with fail
     exact ⟨⟨j+1,by simp,by omega,by rw [HN.out];exact HO.out,HGR.out⟩,by simp [intOf];omega⟩
  ·have hje:j=xs.length:=by omega
   subst hje;have hlr:=bothR_len xs ys xs.length;have HSO:=lh (sort_own HO.out (by omega));go_wp2_with fail
   refine HSO.out.mono ?_;rintro e w2 ⟨rfl,h1,g,hg1,hg2⟩;have HFI:=lh (And.intro h1 (gnew (g2 HG.out HGR.out) hg2 (Nat.le_trans HG.out.size hg1)));clear h1 hg2;go_wp2_with fail
   go_ret;refine ⟨_,rfl,?_,HFI.out.2⟩;have h1:=HFI.out.1;unfold bothF;rw [List.length_mergeSort];exact own_base h1 HG.out.size
end
end Go.Proofs.YtndfpmboanohcaaGreatDoor
