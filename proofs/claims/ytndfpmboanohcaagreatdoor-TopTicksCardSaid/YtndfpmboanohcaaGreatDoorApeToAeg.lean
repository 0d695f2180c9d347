/- Rows that come to the same: what each change leaves of that. -/
import Derived.Test.YtndfpmboanohcaaGreatDoorShdToApq
import Derived.Test.YtndfpmboanohcaaGreatDoorLkpToLkr
namespace Go.Proofs.YtndfpmboanohcaaGreatDoor
set_option maxRecDepth 100000
open Go.RowKit Go.Maps SkipPure
theorem fnd_congr {X Y:Nat→Nd} {r:Int} : ∀ n,(∀ i,i < n→(X i).r=(Y i).r)→fnd X r n=fnd Y r n
 | 0,_=>rfl
 | n+1,h=>by
  unfold fnd;rw [fnd_congr n (fun i hi=>h i (by omega)),h n (by omega)]
def dlt (k:Nat):(Nat→Int)×(Nat→Int):=(fun i=>if i=k then 1 else 0,fun _=>0)
def chiF (X:Nat→Nd) (n:Nat) (r:Int) (i:Nat):Int:=if 0≤fnd X r n then (lpass (pof X) n (dlt (fnd X r n).toNat)).2 i else 0
theorem chiF_congr {X Y:Nat→Nd} (hp : ∀ i,(X i).p=(Y i).p) (hr : ∀ i,(X i).r=(Y i).r) (n:Nat) (r:Int) (i:Nat):chiF X n r i=chiF Y n r i:=by
 unfold chiF;rw [fnd_congr n (fun i _=>hr i),show pof X=pof Y from funext hp]
section
variable {X:Nat→Nd} {n:Nat} {r v:Int}
theorem tw_put (hp:POk (pof X) n) {Y:Nat→Nd} (hY:pof Y=pof X) {c:Int} {k:Nat} (h1 : ∀ i,i < n→Mq ((lin Y).1 i) ((lin X).1 i+c * (dlt k).1 i)) (h2 : ∀ i,i < n→(lin Y).2 i=(lin X).2 i) {i:Nat} (hi:i < n) :
  Mq (tw Y n i) (tw X n i+c * (lpass (pof X) n (dlt k)).2 i):=by
 have h:=lpass_q hp (fun _ _=>rfl) n (lin Y) (ladd (lin X) (lmul c (dlt k))) (Nat.le_refl _) (fun i hi=>⟨h1 i hi,by
  rw [h2 i hi];exact Mq.of _ _ (by simp [ladd,lmul,dlt])⟩)
 have h3:=(h i hi).2;rw [lpass_add,lpass_mul] at h3;unfold tw;rw [hY];exact h3
theorem tw_give (hp:POk (pof X) n) {i:Nat} (hi:i < n):Mq (tw (giveF X n r v) n i) (tw X n i+v * chiF X n r i):=by
 unfold chiF;by_cases h0:0≤fnd X r n
 ·rw [if_pos h0];refine tw_put hp (funext fun j=>giveF_p _ _ _ _ j) (fun j hj=>?_) (fun j hj=>?_) hi
  ·unfold giveF;rw [if_pos h0,(lin_nset _ _ _ j).1];unfold dlt;simp only;by_cases h:j=(fnd X r n).toNat
   ·rw [if_pos h,if_pos h,h,Int.mul_one];refine ((mq_ua _ _).sub (Mq.refl _)).trans (Mq.of _ _ ?_);show (X (fnd X r n).toNat).u+v - (X (fnd X r n).toNat).d=(X (fnd X r n).toNat).u - (X (fnd X r n).toNat).d+v;omega
   ·rw [if_neg h,if_neg h,Int.mul_zero,Int.add_zero];exact Mq.refl _
  ·unfold giveF;rw [if_pos h0,(lin_nset _ _ _ j).2];by_cases h:j=(fnd X r n).toNat
   ·rw [if_pos h,h];rfl
   ·rw [if_neg h]
 ·rw [if_neg h0];unfold giveF;rw [if_neg h0,Int.mul_zero,Int.add_zero];exact Mq.refl _
theorem tw_take (hp:POk (pof X) n) {i:Nat} (hi:i < n):Mq (tw (takeF X n r v) n i) (tw X n i - v * chiF X n r i):=by
 unfold chiF;by_cases h0:0≤fnd X r n
 ·rw [if_pos h0];have h:=tw_put (X:=X) (Y:=takeF X n r v) (c:=-v) (k:=(fnd X r n).toNat) hp (funext fun j=>takeF_p _ _ _ _ j) (fun j hj=>?_) (fun j hj=>?_) hi
  ·rw [Int.neg_mul] at h;exact h.trans (Mq.of _ _ (by omega))
  ·unfold takeF;rw [if_pos h0,(lin_nset _ _ _ j).1];unfold dlt;simp only;by_cases h:j=(fnd X r n).toNat
   ·rw [if_pos h,if_pos h,h,Int.mul_one];refine ((Mq.refl _).sub (mq_ua _ _)).trans (Mq.of _ _ ?_);show (X (fnd X r n).toNat).u - ((X (fnd X r n).toNat).d+v)=(X (fnd X r n).toNat).u - (X (fnd X r n).toNat).d + -v;omega
   ·rw [if_neg h,if_neg h,Int.mul_zero,Int.add_zero];exact Mq.refl _
  ·unfold takeF;rw [if_pos h0,(lin_nset _ _ _ j).2];by_cases h:j=(fnd X r n).toNat
   ·rw [if_pos h,h];rfl
   ·rw [if_neg h]
 ·rw [if_neg h0];unfold takeF;rw [if_neg h0,Int.mul_zero,Int.sub_zero];exact Mq.refl _
end
def aw (bo:Int) (α:Arr) (i:Nat):Int:=tw α.X α.n i - bo * chiF α.X α.n α.b i
structure AEq (bo:Int) (α β:Arr):Prop where
 n:α.n=β.n
 r : ∀ i,(α.X i).r=(β.X i).r
 p : ∀ i,(α.X i).p=(β.X i).p
 w : ∀ i,i < α.n→Mq (aw bo α i) (aw bo β i)
section
variable {bo:Int} {α β γ:Arr}
theorem AEq.refl (bo:Int) (α:Arr):AEq bo α α:=⟨rfl,fun _=>rfl,fun _=>rfl,fun _ _=>Mq.refl _⟩
theorem AEq.symm (h:AEq bo α β):AEq bo β α:=⟨h.n.symm,fun i=>(h.r i).symm,fun i=>(h.p i).symm,fun i hi=>(h.w i (by rw [h.n];exact hi)).symm⟩
theorem AEq.trans (h:AEq bo α β) (k:AEq bo β γ):AEq bo α γ:=⟨h.n.trans k.n,fun i=>(h.r i).trans (k.r i),fun i=>(h.p i).trans (k.p i),fun i hi=>(h.w i hi).trans (k.w i (by rw [← h.n];exact hi))⟩
theorem AEq.chi (h:AEq bo α β) (r:Int) (i:Nat):chiF α.X α.n r i=chiF β.X β.n r i:=by rw [h.n];exact chiF_congr h.p h.r _ _ _
theorem passX_pr (α:Arr) (bo y:Int) (i:Nat):(passX α bo y i).p=(α.X i).p∧(passX α bo y i).r=(α.X i).r:=by
 unfold passX;split
 ·exact ⟨rfl,rfl⟩
 ·exact ⟨(giveF_p _ _ _ _ i).trans (takeF_p _ _ _ _ i),(giveF_r _ _ _ _ i).trans (takeF_r _ _ _ _ i)⟩
theorem tw_passX (hp:POk (pof α.X) α.n) (y:Int) {i:Nat} (hi:i < α.n):Mq (tw (passX α bo y) α.n i) (aw bo α i+bo * chiF α.X α.n y i):=by
 unfold passX;by_cases h:α.b=y
 ·rw [if_pos h];refine Mq.of _ _ ?_;unfold aw;rw [h];omega
 ·rw [if_neg h];have ht:pof (takeF α.X α.n α.b bo)=pof α.X:=funext fun j=>takeF_p _ _ _ _ j;have h1:=tw_give (X:=takeF α.X α.n α.b bo) (n:=α.n) (r:=y) (v:=bo) (by rw [ht];exact hp) hi;have h2:=tw_take (X:=α.X) (n:=α.n) (r:=α.b) (v:=bo) hp hi;rw [chiF_congr (Y:=α.X) (fun j=>takeF_p _ _ _ _ j) (fun j=>takeF_r _ _ _ _ j)] at h1;exact h1.trans (h2.add (Mq.refl _))
theorem passF_eq (hp:POk (pof α.X) α.n) (y:Int) {i:Nat} (hi:i < α.n):(passF α bo y).X i=⟨(α.X i).r,(α.X i).p,0,0,IntKind.u64.wrap (aw bo α i+bo * chiF α.X α.n y i)⟩:=by
 have e:pof (passX α bo y)=pof α.X:=funext fun j=>(passX_pr α bo y j).1;show passL α.n (passX α bo y) i=_;rw [passL_eq (by rw [e];exact hp) hi,(passX_pr α bo y i).1,(passX_pr α bo y i).2,mq_eq (tw_passX hp y hi)]
theorem AEq.pass (hp:POk (pof α.X) α.n) (y:Int):AEq bo α (passF α bo y):=by
 refine ⟨rfl,fun i=>(passF_r _ _ _ i).symm,fun i=>(passF_p _ _ _ i).symm,fun i hi=>?_⟩;have hpp:pof (passF α bo y).X=pof α.X:=funext fun j=>passF_p _ _ _ j;have h1:tw (passF α bo y).X α.n i=IntKind.u64.wrap (aw bo α i+bo * chiF α.X α.n y i):=by
  unfold tw;rw [lpass_rest (n:=α.n) (by rw [hpp];exact hp) (fun j hj=>by show ((passF α bo y).X j).u - ((passF α bo y).X j).d=0;rw [passF_eq hp y hj];rfl) α.n (Nat.le_refl _)];show ((passF α bo y).X i).w=_;rw [passF_eq hp y hi]
 show Mq (aw bo α i) (tw (passF α bo y).X α.n i - bo * chiF (passF α bo y).X α.n y i);rw [h1,chiF_congr (Y:=α.X) (fun j=>passF_p _ _ _ j) (fun j=>passF_r _ _ _ j)];exact (Mq.of _ _ (by omega:aw bo α i=aw bo α i+bo * chiF α.X α.n y i - bo * chiF α.X α.n y i)).trans ((mq_wrap _).sub (Mq.refl _)).symm
theorem AEq.passed (h:AEq bo α β) (hp:POk (pof α.X) α.n) (y:Int) {i:Nat} (hi:i < α.n):(passF α bo y).X i=(passF β bo y).X i:=by
 have hpb:POk (pof β.X) β.n:=by rw [← show pof α.X=pof β.X from funext h.p,← h.n];exact hp
 rw [passF_eq hp y hi,passF_eq hpb y (by rw [← h.n];exact hi),h.r,h.p,h.chi,mq_eq ((h.w i hi).add (Mq.refl _))]
theorem AEq.give (h:AEq bo α β) (hp:POk (pof α.X) α.n) (r v:Int):AEq bo { α with X:=giveF α.X α.n r v } { β with X:=giveF β.X β.n r v }:=by
 have hpb:POk (pof β.X) β.n:=by rw [← show pof α.X=pof β.X from funext h.p,← h.n];exact hp
 refine ⟨h.n,fun i=>(giveF_r _ _ _ _ i).trans ((h.r i).trans (giveF_r _ _ _ _ i).symm),fun i=>(giveF_p _ _ _ _ i).trans ((h.p i).trans (giveF_p _ _ _ _ i).symm),fun i hi=>?_⟩;have e : ∀ (δ:Arr),POk (pof δ.X) δ.n→i < δ.n→Mq (aw bo { δ with X:=giveF δ.X δ.n r v } i) (aw bo δ i+v * chiF δ.X δ.n r i):=fun δ hpd hid=>by
  show Mq (tw (giveF δ.X δ.n r v) δ.n i - bo * chiF (giveF δ.X δ.n r v) δ.n δ.b i) _;rw [chiF_congr (Y:=δ.X) (fun j=>giveF_p _ _ _ _ j) (fun j=>giveF_r _ _ _ _ j)];exact ((tw_give hpd hid).sub (Mq.refl _)).trans (Mq.of _ _ (by unfold aw;omega))
 refine (e α hp hi).trans (Mq.trans ?_ (e β hpb (by rw [← h.n];exact hi)).symm);rw [h.chi];exact (h.w i hi).add (Mq.refl _)
theorem AEq.take (h:AEq bo α β) (hp:POk (pof α.X) α.n) (r v:Int):AEq bo { α with X:=takeF α.X α.n r v } { β with X:=takeF β.X β.n r v }:=by
 have hpb:POk (pof β.X) β.n:=by rw [← show pof α.X=pof β.X from funext h.p,← h.n];exact hp
 refine ⟨h.n,fun i=>(takeF_r _ _ _ _ i).trans ((h.r i).trans (takeF_r _ _ _ _ i).symm),fun i=>(takeF_p _ _ _ _ i).trans ((h.p i).trans (takeF_p _ _ _ _ i).symm),fun i hi=>?_⟩;have e : ∀ (δ:Arr),POk (pof δ.X) δ.n→i < δ.n→Mq (aw bo { δ with X:=takeF δ.X δ.n r v } i) (aw bo δ i - v * chiF δ.X δ.n r i):=fun δ hpd hid=>by
  show Mq (tw (takeF δ.X δ.n r v) δ.n i - bo * chiF (takeF δ.X δ.n r v) δ.n δ.b i) _;rw [chiF_congr (Y:=δ.X) (fun j=>takeF_p _ _ _ _ j) (fun j=>takeF_r _ _ _ _ j)];exact ((tw_take hpd hid).sub (Mq.refl _)).trans (Mq.of _ _ (by unfold aw;omega))
 refine (e α hp hi).trans (Mq.trans ?_ (e β hpb (by rw [← h.n];exact hi)).symm);rw [h.chi];exact (h.w i hi).sub (Mq.refl _)
end
theorem lstep_zero {p:Nat→Int} {k:Nat} {s:(Nat→Int)×(Nat→Int)} (h0:s.1 k=0):lstep p s k=s:=by
 unfold lstep;refine Prod.ext (funext fun i=>?_) (funext fun i=>?_)
 ·simp only [fset];by_cases h1:i=k
  ·rw [if_pos h1,h1,h0]
  ·rw [if_neg h1];by_cases h2:0≤p k
   ·rw [if_pos h2];simp only [fset];by_cases h3:i=(p k).toNat
    ·rw [if_pos h3,h0,h3,Int.add_zero]
    ·rw [if_neg h3]
   ·rw [if_neg h2]
 ·simp only [fset];by_cases h1:i=k
  ·rw [if_pos h1,h1,h0,Int.add_zero]
  ·rw [if_neg h1]
theorem lpass_above (p:Nat→Int) : ∀ (k:Nat) (s:(Nat→Int)×(Nat→Int)) (i:Nat),k≤i→(lpass p k s).2 i=s.2 i
 | 0,_,_,_=>rfl
 | k+1,s,i,h=>by
  show (lpass p k (lstep p s k)).2 i=_;rw [lpass_above p k _ i (by omega)];unfold lstep;simp only [fset];rw [if_neg (by omega)]
section
variable {α:Arr} {r q:Int}
theorem addA_at (α:Arr) (r q:Int) {i:Nat} (h:i < α.n):(addA α r q).X i=α.X i:=by
 show nset α.X α.n _ i=_;unfold nset;rw [if_neg (by omega)]
theorem addA_new (α:Arr) (r q:Int):(addA α r q).X α.n=⟨r,fnd α.X q α.n,0,0,0⟩:=by
 show nset α.X α.n _ α.n=_;unfold nset;rw [if_pos rfl]
theorem addA_pok (hp:POk (pof α.X) α.n):POk (pof (addA α r q).X) (α.n+1):=fun i hi=>by
 show -1≤((addA α r q).X i).p∧((addA α r q).X i).p < i;rcases Nat.lt_or_ge i α.n with h | h
 ·rw [addA_at α r q h];exact hp i h
 ·obtain rfl:i=α.n:=by omega
  rw [addA_new];exact fnd_lt α.X q α.n
theorem lpass_more (hp:POk (pof α.X) α.n) {s t:(Nat→Int)×(Nat→Int)} (h0:s.1 α.n=0) (hs:Lq α.n s t) {i:Nat} (hi:i < α.n):Mq ((lpass (pof (addA α r q).X) (α.n+1) s).2 i) ((lpass (pof α.X) α.n t).2 i):=by
 show Mq ((lpass (pof (addA α r q).X) α.n (lstep (pof (addA α r q).X) s α.n)).2 i) _;rw [lstep_zero h0];have hpp:=addA_pok (r:=r) (q:=q) hp;exact (lpass_q (n:=α.n) (fun j hj=>hpp j (by omega)) (fun j hj=>by show ((addA α r q).X j).p=_;rw [addA_at α r q hj];rfl) α.n s t (Nat.le_refl _) hs i hi).2
theorem lpass_last {s:(Nat→Int)×(Nat→Int)} (h0:s.1 α.n=0):(lpass (pof (addA α r q).X) (α.n+1) s).2 α.n=s.2 α.n:=by
 show (lpass (pof (addA α r q).X) α.n (lstep (pof (addA α r q).X) s α.n)).2 α.n=_;rw [lstep_zero h0,lpass_above _ _ _ _ (Nat.le_refl _)]
theorem fnd_more {b:Int} (h:b≠r∨0≤fnd α.X b α.n):fnd (addA α r q).X b (α.n+1)=if 0≤fnd α.X b α.n then fnd α.X b α.n else -1:=by
 have e:fnd (addA α r q).X b α.n=fnd α.X b α.n:=fnd_congr α.n (fun i hi=>by rw [addA_at α r q hi]);show (if 0≤fnd (addA α r q).X b α.n then fnd (addA α r q).X b α.n else if ((addA α r q).X α.n).r=b then (α.n:Int) else -1)=_;rw [e,addA_new];by_cases h0:0≤fnd α.X b α.n
 ·rw [if_pos h0,if_pos h0]
 ·rw [if_neg h0,if_neg h0,if_neg (fun e=>(h.elim id (fun k=>absurd k h0)) e.symm)]
theorem chi_more (hp:POk (pof α.X) α.n) {b:Int} (h:b≠r∨0≤fnd α.X b α.n) {i:Nat} (hi:i < α.n):Mq (chiF (addA α r q).X (α.n+1) b i) (chiF α.X α.n b i):=by
 unfold chiF;rw [fnd_more h];have hl:=fnd_lt α.X b α.n;by_cases h0:0≤fnd α.X b α.n
 ·rw [if_pos h0,if_pos h0,if_pos h0];refine lpass_more hp ?_ (fun _ _=>⟨Mq.refl _,Mq.refl _⟩) hi;unfold dlt;simp only;rw [if_neg (by omega)]
 ·rw [if_neg h0,if_neg h0,if_neg (by omega)];exact Mq.refl _
theorem chi_last {b:Int} (h:b≠r∨0≤fnd α.X b α.n):chiF (addA α r q).X (α.n+1) b α.n=0:=by
 unfold chiF;rw [fnd_more h];have hl:=fnd_lt α.X b α.n;by_cases h0:0≤fnd α.X b α.n
 ·rw [if_pos h0,if_pos h0];have hz:(dlt (fnd α.X b α.n).toNat).1 α.n=0:=by
   unfold dlt;simp only;rw [if_neg (by omega)]
  rw [lpass_last hz];rfl
 ·rw [if_neg h0,if_neg (by omega)]
theorem Mq.mul {x y:Int} (c:Int) (h:Mq x y):Mq (c * x) (c * y):=by
 obtain ⟨k,h⟩:=h;exact ⟨c * k,by rw [h,Int.mul_add,Int.mul_assoc]⟩
theorem aw_add (bo:Int) (hp:POk (pof α.X) α.n) (h:α.b≠r∨0≤fnd α.X α.b α.n) (i:Nat) (hi:i < α.n+1):Mq (aw bo (addA α r q) i) (if i < α.n then aw bo α i else 0):=by
 have hz:(lin (addA α r q).X).1 α.n=0:=by show ((addA α r q).X α.n).u - ((addA α r q).X α.n).d=0;rw [addA_new];rfl
 show Mq (tw (addA α r q).X (α.n+1) i - bo * chiF (addA α r q).X (α.n+1) α.b i) _;by_cases hl:i < α.n
 ·rw [if_pos hl];unfold aw tw;refine (lpass_more hp hz (fun j hj=>?_) hl).sub ((chi_more hp h hl).mul bo);unfold lin;simp only;rw [addA_at α r q hj];exact ⟨Mq.refl _,Mq.refl _⟩
 ·rw [if_neg hl];obtain rfl:i=α.n:=by omega
  rw [chi_last h];unfold tw;rw [lpass_last hz];refine Mq.of _ _ ?_;show ((addA α r q).X α.n).w - bo * 0=0;rw [addA_new];simp
end
section
variable {bo:Int} {α β:Arr}
theorem AEq.add (h:AEq bo α β) (hp:POk (pof α.X) α.n) {r q:Int} (h1:α.b≠r∨0≤fnd α.X α.b α.n) (h2:β.b≠r∨0≤fnd β.X β.b β.n):AEq bo (addA α r q) (addA β r q):=by
 have hpb:POk (pof β.X) β.n:=by rw [← show pof α.X=pof β.X from funext h.p,← h.n];exact hp
 have hf:fnd α.X q α.n=fnd β.X q β.n:=by rw [h.n];exact fnd_congr _ (fun i _=>h.r i)
 refine ⟨by show α.n+1=β.n+1;rw [h.n],fun i=>?_,fun i=>?_,fun i hi=>?_⟩
 ·show (nset α.X α.n _ i).r=(nset β.X β.n _ i).r;unfold nset;rw [h.n];split
  ·rfl
  ·exact h.r i
 ·show (nset α.X α.n _ i).p=(nset β.X β.n _ i).p;unfold nset;rw [hf,h.n];split
  ·rfl
  ·exact h.p i
 ·have hi1:i < α.n+1:=hi;refine (aw_add bo hp h1 i hi1).trans (Mq.trans ?_ (aw_add bo hpb h2 i (by rw [← h.n];exact hi1)).symm);rw [← h.n];split
  ·exact h.w i (by assumption)
  ·exact Mq.refl _
theorem cutK_congr {X Y:Nat→Nd} {has:Int→Bool} : ∀ n,(∀ i,i < n→X i=Y i)→cutK X has n=cutK Y has n
 | 0,_=>rfl
 | n+1,h=>by
  unfold cutK;rw [cutK_congr n (fun i hi=>h i (by omega)),h n (by omega)]
theorem AEq.cut (h:AEq bo α β) (hp:POk (pof α.X) α.n) (y:Int) (has:Int→Bool):cutA (passF α bo y) has=cutA (passF β bo y) has:=by
 unfold cutA;have e:cutK (passF α bo y).X has (passF α bo y).n=cutK (passF β bo y).X has (passF β bo y).n:=by
  show cutK (passF α bo y).X has α.n=cutK (passF β bo y).X has β.n;rw [← h.n];exact cutK_congr _ (fun i hi=>h.passed hp y hi)
 rw [e];rfl
end
theorem bestS_congr {may:Int→Prop} {X Y:Nat→Nd} {n:Nat} (hXY : ∀ i,i < n→X i=Y i) (hp:ParOk X n) {B:Nat→Int} (hB:BestOk B n) {k:Nat} (hk:k < n):bestS may X B k=bestS may Y B k:=by
 have hpk:=hp k hk;have e1:=hXY k hk;have e2:0≤(X k).p→betterF X B k=betterF Y B k:=fun h0=>by
  unfold betterF;rw [← e1];have hb:=hB (X k).p.toNat (by omega);have hlt:(B (X k).p.toNat).toNat < n:=by omega
  unfold betterN;rw [← e1,hXY _ hlt]
 unfold bestS;rw [← e1];by_cases h0:0≤(X k).p
 ·rw [e2 h0]
 ·rw [if_neg (fun h=>h0 h.2.1),if_neg (fun h=>h0 h.2.1)]
theorem bestL_congr {may:Int→Prop} {X Y:Nat→Nd} {n:Nat} (hXY : ∀ i,i < n→X i=Y i) (hp:ParOk X n) : ∀ (m:Nat) (B:Nat→Int),m < n→BestOk B n→bestL may X m B=bestL may Y m B∧BestOk (bestL may X m B) n
 | 0,B,_,h=>⟨rfl,h⟩
 | m+1,B,hm,h=>by
  have e:=bestS_congr (may:=may) hXY hp h hm;have h2:=h.step (may:=may) hp hm;obtain ⟨h3,h4⟩:=bestL_congr (may:=may) hXY hp m _ (by omega) h2;refine ⟨?_,h4⟩;show bestL may X m (bestS may X B (m+1))=bestL may Y m (bestS may Y B (m+1));rw [h3,e]
theorem headF_congr {may:Int→Prop} {X Y:Nat→Nd} {n:Nat} {jr:Int} (hXY : ∀ i,i < n→X i=Y i) (hp:ParOk X n) (hn:1≤n):headF may X n jr=headF may Y n jr:=by
 have hf:fnd X jr n=fnd Y jr n:=fnd_congr n (fun i hi=>by rw [hXY i hi]);obtain ⟨hb,hbo⟩:=bestL_congr (may:=may) hXY hp (n - 1) (fun _=>-1) (by omega) (fun i _=>.inl rfl);have hl:=fnd_lt Y jr n;rw [hb] at hbo;have hw:=walkB_bd hbo n (fnd Y jr n) hl.1 hl.2;unfold headF;rw [hb,hf];split
 ·rfl
 ·rw [hXY _ (by omega)]
theorem headF_in2 {may:Int→Prop} {X:Nat→Nd} {n:Nat} {jr:Int} (hp:ParOk X n) (hr:RootOk X n) (hn:1≤n) (hj:inU jr):inU (headF may X n jr):=by
 obtain ⟨_,hb⟩:=bestL_congr (may:=may) (Y:=X) (fun _ _=>rfl) hp (n - 1) (fun _=>-1) (by omega) (fun i _=>.inl rfl);have hf:=fnd_lt X jr n;have hw:=walkB_bd hb n (fnd X jr n) hf.1 hf.2;unfold headF;split
 ·exact hj
 ·exact hr _ (by omega)
theorem fnd_of {X:Nat→Nd} {b:Int} : ∀ (n i:Nat),i < n→(X i).r=b→0≤fnd X b n
 | 0,_,h,_=>by omega
 | n+1,i,h,e=>by
  unfold fnd;split
  ·assumption
  ·rename_i h0
   rcases Nat.lt_or_ge i n with hl | hl
   ·exact absurd (fnd_of n i hl e) h0
   ·obtain rfl:i=n:=by omega
    rw [if_pos e];omega
def BIn (α:Arr):Prop:=α.b=0∨InA α α.b
theorem BIn.fit {α:Arr} (h:BIn α) {r:Int} (hr:r≠0):α.b≠r∨0≤fnd α.X α.b α.n:=by
 rcases h with h | ⟨i,h1,h2⟩
 ·left;rw [h];exact Ne.symm hr
 ·right;exact fnd_of _ i h1 h2
section
variable {σ:St} {α β:Arr}
theorem NoAdd.cases {c:Cg} (h:NoAdd c) (σ:St) (α:Arr):(∃ r v,astepC σ α c={ α with X:=giveF (takeF α.X α.n r v) α.n c.root v })∨(∃ v,astepC σ α c={ α with X:=giveF α.X α.n c.root v }) ∨
  (∃ v,astepC σ α c={ α with X:=takeF α.X α.n c.frm v })∨astepC σ α c=α∨astepC σ α c=cutA (passF α (boostF σ.bs σ.S σ.B) σ.boosted) fun r=>(σ.F r).isSome:=by
 have hk:=h.ne;unfold astepC;rw [if_neg hk];by_cases h1:c.kind=1
 ·rw [if_pos h1];by_cases hh:c.had=true
  ·rw [if_pos hh];exact .inl ⟨_,_,rfl⟩
  ·rw [if_neg hh];exact .inr (.inl ⟨_,rfl⟩)
 ·rw [if_neg h1];by_cases h2:c.kind=2
  ·rw [if_pos h2];by_cases hh:c.had=true
   ·rw [if_pos hh];exact .inr (.inr (.inl ⟨_,rfl⟩))
   ·rw [if_neg hh];exact .inr (.inr (.inr (.inl rfl)))
  ·rw [if_neg h2];exact .inr (.inr (.inr (.inr rfl)))
theorem astepC_eq {c:Cg} (hc:NoAdd c) (hp:POk (pof α.X) α.n) (h:AEq (boostF σ.bs σ.S σ.B) α β):AEq (boostF σ.bs σ.S σ.B) (astepC σ α c) (astepC σ β c)∧POk (pof (astepC σ α c).X) (astepC σ α c).n:=by
 have hk:=hc.ne;have hgp : ∀ (δ:Arr) (r v:Int),POk (pof δ.X) δ.n→POk (pof (giveF δ.X δ.n r v)) δ.n:=fun δ r v hd i hi=>by
  show -1≤(giveF δ.X δ.n r v i).p∧(giveF δ.X δ.n r v i).p < i;rw [giveF_p];exact hd i hi
 have htp : ∀ (δ:Arr) (r v:Int),POk (pof δ.X) δ.n→POk (pof (takeF δ.X δ.n r v)) δ.n:=fun δ r v hd i hi=>by
  show -1≤(takeF δ.X δ.n r v i).p∧(takeF δ.X δ.n r v i).p < i;rw [takeF_p];exact hd i hi
 unfold astepC;rw [if_neg hk,if_neg hk];by_cases h1:c.kind=1
 ·rw [if_pos h1,if_pos h1];by_cases hh:c.had=true
  ·rw [if_pos hh,if_pos hh];have t1:=h.take hp c.frm (sumF σ.bs [c.who]);have p1:=htp α c.frm (sumF σ.bs [c.who]) hp;exact ⟨t1.give p1 c.root (sumF σ.bs [c.who]),hgp { α with X:=takeF α.X α.n c.frm (sumF σ.bs [c.who]) } _ _ p1⟩
  ·rw [if_neg hh,if_neg hh];exact ⟨h.give hp _ _,hgp α _ _ hp⟩
 ·rw [if_neg h1,if_neg h1];by_cases h2:c.kind=2
  ·rw [if_pos h2,if_pos h2];by_cases hh:c.had=true
   ·rw [if_pos hh,if_pos hh];exact ⟨h.take hp _ _,htp α _ _ hp⟩
   ·rw [if_neg hh,if_neg hh];exact ⟨h,hp⟩
  ·rw [if_neg h2,if_neg h2];rw [h.cut hp];refine ⟨AEq.refl _ _,?_⟩;rw [← h.cut hp];exact cutK_par (fun i hi=>by rw [passF_p];exact hp i hi) α.n (Nat.le_refl _)
theorem nexts_eq : ∀ (ds:List Cg) (α β:Arr),(∀ c∈ds,NoAdd c)→POk (pof α.X) α.n→AEq (boostF σ.bs σ.S σ.B) α β→AEq (boostF σ.bs σ.S σ.B) (ds.foldl (astepC σ) α) (ds.foldl (astepC σ) β)
 | [],_,_,_,_,h=>h
 | c :: ds,α,β,hd,hp,h=>by
  obtain ⟨h1,h2⟩:=astepC_eq (σ:=σ) (hd c (by simp)) hp h;exact nexts_eq ds _ _ (fun x hx=>hd x (List.mem_cons_of_mem _ hx)) h2 h1
theorem nexts_b : ∀ (ds:List Cg) (α:Arr),(∀ c∈ds,NoAdd c)→(ds.foldl (astepC σ) α).b=σ.boosted∨((ds.foldl (astepC σ) α).b=α.b∧∀ r,InA α r→InA (ds.foldl (astepC σ) α) r)
 | [],_,_=>.inr ⟨rfl,fun _ h=>h⟩
 | c :: ds,α,hd=>by
  have ih:=nexts_b ds (astepC σ α c) (fun x hx=>hd x (List.mem_cons_of_mem _ hx));have hk:=(hd c (by simp)).ne;have hc:(astepC σ α c).b=σ.boosted∨((astepC σ α c).b=α.b∧∀ r,InA α r→InA (astepC σ α c) r):=by
   unfold astepC;rw [if_neg hk];by_cases h1:c.kind=1
   ·rw [if_pos h1];right;by_cases hh:c.had=true
    ·rw [if_pos hh];exact ⟨rfl,fun r ⟨i,a,b⟩=>⟨i,a,by show (giveF (takeF α.X α.n _ _) α.n _ _ i).r=r;rw [giveF_r,takeF_r];exact b⟩⟩
    ·rw [if_neg hh];exact ⟨rfl,fun r ⟨i,a,b⟩=>⟨i,a,by show (giveF α.X α.n _ _ i).r=r;rw [giveF_r];exact b⟩⟩
   ·rw [if_neg h1];by_cases h2:c.kind=2
    ·rw [if_pos h2];right;by_cases hh:c.had=true
     ·rw [if_pos hh];exact ⟨rfl,fun r ⟨i,a,b⟩=>⟨i,a,by show (takeF α.X α.n _ _ i).r=r;rw [takeF_r];exact b⟩⟩
     ·rw [if_neg hh];exact ⟨rfl,fun _ h=>h⟩
    ·rw [if_neg h2];left;rfl
  rw [List.foldl_cons];rcases ih with ih | ⟨i1,i2⟩
  ·exact .inl ih
  ·rcases hc with hc | ⟨c1,c2⟩
   ·left;rw [i1,hc]
   ·exact .inr ⟨i1.trans c1,fun r h=>i2 r (c2 r h)⟩
end
abbrev engA:EngD where
 ty:=105
 ff:=157
 fh:=158
 T:=Arr
 Own:=fun w q p O α=>∃ J:AIds,J.q=q∧ArrAt w J p α∧O=AOwn J
 Rel:=fun σ N α=>ACov α σ N∧BoOk σ∧BIn α
 next:=fun σ cs α=>cs.foldl (astepC σ) α
 HD:=fun σ ks α r=>r=headF (MayLead σ.F σ.f ks (srcG σ) σ.je σ.fr (eOf σ.slot σ.S)) (passF α (boostF σ.bs σ.S σ.B) σ.boosted).X α.n σ.jr
 Eqv:=fun σ α β=>AEq (boostF σ.bs σ.S σ.B) α β
 t0:=arr0
theorem BIn.cov {α:Arr} {σ:St} {M:Nat} (h:ACov α σ M) (hb:BoOk σ) (e:α.b=σ.boosted):BIn α:=by
 rcases hb with hb | hb
 ·left;rw [e];exact hb
 ·right;rw [e];exact h.cov _ hb
theorem engA_laws:EngL engA where
 chg h hc hs:=by
  obtain ⟨J,h1,h2,h3⟩:=h;exact ⟨J,h1,h2.chg hc (hs _ (by rw [h3];exact .inl rfl)) (hs _ (by rw [h3];exact .inr rfl)),h3⟩
 eqr _ _:=AEq.refl _ _
 eqt h h':=AEq.trans h h'
 eqs h:=AEq.symm h
 uniq {σ ks N t t' r r'} e h1 a b:=by
  have hp:POk (pof t.X) t.n:=h1.1.par;rw [show r=_ from a,show r'=_ from b,← AEq.n e];exact headF_congr (fun i hi=>AEq.passed e hp _ hi) (h1.1.par.same (fun i=>passF_p _ _ _ i)) h1.1.n1
 step {σ σ' N M t t' e E cs'} he h1 h2 hI hB h:=by
  obtain ⟨c1,c2,c3⟩:=h.cfb;have hp:POk (pof t.X) t.n:=h1.1.par;have he2:AEq (boostF σ'.bs σ'.S σ'.B) t t':=by rw [c1,c2,c3];exact he
  show AEq (boostF σ'.bs σ'.S σ'.B) (cs'.foldl (astepC σ') t) (cs'.foldl (astepC σ') t');rcases h.form hI.wf with hf | ⟨ds,rfl,hr,hf⟩
  ·exact nexts_eq cs' _ _ hf hp he2
  ·rw [List.foldl_cons,List.foldl_cons];have e1 : ∀ δ,astepC σ' δ ⟨0,e.r,e.q,0,0,false⟩=addA δ e.r e.q:=fun δ=>by unfold astepC;rw [if_pos rfl]
   rw [e1,e1];exact nexts_eq ds _ _ hf (addA_pok hp) (he2.add hp (h1.2.2.fit hr) (h2.2.2.fit hr))
 rest h:=⟨AEq.refl _ _,h⟩
 feed {w q I σ t N e cells} h hN hB he:=by
  obtain ⟨J,rfl,h2,h3⟩:=h.own;refine (feed_calls h.st h.inv hN h2 h3 h.rel.1 (by omega) hB (he.chg (S:=fun _=>False) (Chg.refl _ _) (fun _ _ h=>h) (fun i hi=>⟨hi.1,fun hm=>hi.2 (.inl hm)⟩))).mono ?_;rintro z w' ⟨E,c2,t2,g,c,σ',α',cs',rfl,hap,hst,har,hin,hcov,had,hc,hg,ht,rfl⟩;have hbo:=hap.bo h.rel.2.1;have hbi:BIn (cs'.foldl (astepC σ') t):=by
   have hgo : ∀ (ds:List Cg) (β:Arr),(∀ c∈ds,NoAdd c)→BIn β→cs'.foldl (astepC σ') t=ds.foldl (astepC σ') β→BIn (cs'.foldl (astepC σ') t):=fun ds β hds hb he=>by
       rcases nexts_b (σ:=σ') ds β hds with h1 | ⟨h1,h4⟩
       ·exact BIn.cov hcov hbo (by rw [he];exact h1)
       ·rw [he];rcases hb with hb | hb
        ·left;rw [h1];exact hb
        ·right;rw [h1];exact h4 _ hb
   rcases hap.form h.inv.wf with hf | ⟨ds,rfl,hr,hf⟩
   ·exact hgo cs' t hf h.rel.2.2 rfl
   ·refine hgo ds (addA t e.r e.q) hf ?_ ?_
    ·rcases h.rel.2.2 with hb | ⟨i,hi,hir⟩
     ·exact .inl hb
     ·exact .inr ⟨i,by show i < t.n+1;omega,by rw [addA_at t e.r e.q hi];exact hir⟩
    ·rw [List.foldl_cons];unfold astepC;rw [if_pos rfl]
  refine ⟨E,_,σ',cs',rfl,hap,⟨hst,⟨{ J with g:=g,c:=c },rfl,har,rfl⟩,hin,⟨hcov,hbo,hbi⟩,had.par h.par⟩,rfl,rfl,hc.mono (fun i hi=>hi.imp id (fun h=>by rw [h3];exact h)),fun i hi=>?_⟩;rcases hi with (hi | hi | hi | hi | hi | hi) | hi
  ·exact .inl (.inl (.inl hi))
  ·exact .inl (.inl (.inr (.inl hi)))
  ·rcases ht with h1 | h1
   ·exact .inl (.inl (.inr (.inr (.inl (hi.trans h1)))))
   ·have h4:i=t2:=hi;right;omega
  ·exact .inl (.inl (.inr (.inr (.inr (.inl hi)))))
  ·exact .inl (.inl (.inr (.inr (.inr (.inr (.inl hi))))))
  ·exact .inl (.inl (.inr (.inr (.inr (.inr (.inr hi))))))
  ·have h4:I.ex=AOwn J:=h3;rcases hi with hi | hi
   ·exact .inl (.inr (by rw [h4];exact .inl hi))
   ·rcases hg with h1 | h1
    ·exact .inl (.inr (by rw [h4];exact .inr (hi.trans h1)))
    ·have h5:i=g:=hi;right;omega
 head {w q I σ t N ks} h hN hk:=by
  obtain ⟨J,rfl,h2,h3⟩:=h.own;have hp:POk (pof t.X) t.n:=h.rel.1.par;refine (head_calls h.st h.inv.wf h2 (fun i hi=>by rw [h3];exact hi) h.rel.1.par h.rel.1.root h.rel.1.n1 hk (by have:=h.inv.klen hk;have:=h.inv.wf.n;omega) (sortUpTo_any _ (by have:=h.inv.wf.n;omega))).mono ?_;rintro z w' ⟨rfl,har,hc⟩;have hpp:ParOk (passF t (boostF σ.bs σ.S σ.B) σ.boosted).X t.n:=h.rel.1.par.same (fun i=>passF_p _ _ _ i);have hcv:ACov (passF t (boostF σ.bs σ.S σ.B) σ.boosted) σ N:=
   ⟨hpp,fun i hi=>by rw [passF_r];exact h.rel.1.root i hi,h.rel.1.n1,h.rel.1.n2,fun r hr=>by
       obtain ⟨i,a,b⟩:=h.rel.1.cov r hr;exact ⟨i,a,by rw [passF_r];exact b⟩⟩
  refine ⟨_,passF t (boostF σ.bs σ.S σ.B) σ.boosted,rfl,rfl,headF_in2 hpp hcv.root h.rel.1.n1 h.inv.wf.jr,AEq.pass hp _,⟨h.st.exch hc (fun i hi=>by rw [h3];exact hi),⟨J,rfl,har,h3⟩,h.inv,⟨hcv,h.rel.2.1,BIn.cov hcv h.rel.2.1 rfl⟩,h.par⟩,?_⟩;rw [h3];exact hc
end Go.Proofs.YtndfpmboanohcaaGreatDoor
