/- Contract of viable.leaf. -/
import Derived.Test.YtndfpmboanohcaaGreatDoorLed3
namespace Go.Proofs.YtndfpmboanohcaaGreatDoor
set_option maxRecDepth 100000
open Go.RowKit Go.Maps SkipPure
def viewV (je jr fe fr ep:Int) (m:Nat):Value:=.agg #[.int .i64 je,.int .u64 jr,.int .i64 fe,.int .u64 fr,.int .i64 ep,.map (some m)]
def srcs (G:Int→Option Int):Int→Option Value:=fun r=>(G r).map fun x=>.int .i64 x
def leafF (F:Int→Option (Int×Int×Int)) (f:Int) (G:Int→Option Int) (je fr ep root:Int):Bool:=
 (je == 0 || (G root).getD 0 == je || decide (ep≤(G root).getD 0+2)) && belowT F f root fr
theorem zeroI (w:World):(zeroValue 3).run Tryz.prog w=.ok (.int .i64 0) w:=by kernel_rfl
theorem leaf_calls {w:World} {p b n:Nat} {f:Int} {F:Int→Option (Int×Int×Int)} (h:TreeAt w p b n f F) (W:WellT f F) {m mn:Nat} {G:Int→Option Int} (hG:RawMap Tryz.prog 27 w m mn (srcs G))
  {je jr fe fr ep root:Int} (hr:inU root) (hf:inU fr) (hs:0≤(G root).getD 0∧(G root).getD 0≤1099511627776) :
  Calls Tryz.prog 154 #[.pointer (some ⟨p,0,none⟩),viewV je jr fe fr ep m,.int .u64 root] w fun e w'=>e=.returned (.bool (leafF F f G je fr ep root))∧w.grownBy w' none:=by
 have HH:=lh h;have HM:=lh hG;clear h hG;unfold viewV leafF;have hg:=World.grownBy_alloc w (Obj.cells #[.int .i64 je,.int .u64 jr,.int .i64 fe,.int .u64 fr,.int .i64 ep,.map (some m)] 278) none;have hlk:=(HM.out.kept hg (by simp)).look (mt:=276) Tryz.underlying27 Tryz.underlying276 (zeroI _) hr;obtain ⟨s,hse⟩ : ∃ s,s=(G root).getD 0:=⟨_,rfl⟩;have e1:(srcs G root).getD (.int .i64 0)=.int .i64 s:=by rw [hse];unfold srcs;cases G root <;> rfl
 rw [e1] at hlk;rw [← hse] at hs ⊢;have HG:=lh hg;obtain ⟨hs0,hs1⟩:=hs;clear e1 hse hg;obtain ⟨B,hB⟩ : ∃ B,B=belowT F f root fr:=⟨_,rfl⟩;rw [← hB];have hbel:=tbelow_calls (HH.out.kept HG.out (by simp)) W hr hf;rw [← hB] at hbel;have HBEL:=lh hbel;clear hbel hB;cases g0:je == 0 <;> cases g1:s == je <;> cases g3:decide (ep≤s+2)
 all_goals
  go_enter Tryz.func154,Tryz.ntmps154
  go_wp2_with (go_at_call 70;refine HBEL.out.mono ?_;rintro e w2 ⟨rfl,hg2⟩;have HG2:=lh (g2 HG.out hg2);clear hg2)
  go_ret;first
   | exact ⟨by simp,HG2.out⟩
   | exact ⟨by simp,HG.out⟩
theorem len_any {P:Program} {t e:TypeId} {w:World} {base size n:Nat} {v:Value} {xs:List Value} (h:w.ownsRow base e size v n xs) (ht:P.underlying t=some (.slice e)) (ty:TypeId) : ∀ W:World,(Builtin.len_ #[t] ty #[v]).run P W=.ok (.int .i64 (n:Int)) W:=by
 intro W;rcases h.2 with ⟨hv,hn⟩ | ⟨g,cap,cur,hv,_⟩
 ·subst hv hn;simp [Builtin.len_,run_underlying ht,goInt,Result.andThen]
 ·subst hv;simp [Builtin.len_,run_underlying ht,goInt,Result.andThen]
inductive Under (F:Int→Option (Int×Int×Int)) (f:Int):Int→Int→Prop
 | self (r:Int):Under F f r r
 | step {l r:Int} {x:Int×Int×Int}:F l=some x→l≠f→Under F f x.1 r→Under F f l r
section
open Classical
noncomputable def setF (P:Int→Prop):Int→Option Value:=fun r=>if P r then some (.bool true) else none
theorem setF_store (P:Int→Prop) (k:Int):upd (setF P) k (.bool true)=setF (fun r=>P r∨r=k):=by
 funext r;unfold upd setF;by_cases e:r=k
 ·simp [e]
 ·simp [e]
end
def BSet (w:World) (b:Nat) (P:Int→Prop):Prop:=∃ (n:Nat) (js:List Int),RawMap Tryz.prog 27 w b n (setF P)∧js.Nodup∧js.length=n∧∀ k∈js,P k
section
variable {w w':World} {b:Nat} {P:Int→Prop}
theorem BSet.lt (h:BSet w b P):b < w.heap.size:=by obtain ⟨_,_,h,_⟩:=h;exact h.lt
theorem BSet.kept {row:Option Nat} (h:BSet w b P) (hg:w.grownBy w' row) (hr:row≠some b):BSet w' b P:=by
 obtain ⟨n,js,h1,h2⟩:=h;exact ⟨n,js,h1.kept hg (fun e=>hr e.symm),h2⟩
theorem BSet.g (h:BSet w b P) (hg:w.grownBy w' none):BSet w' b P:=h.kept hg (by simp)
theorem BSet.chg {S:Nat→Prop} (h:BSet w b P) (hg:Chg S w w') (hr:¬ S b):BSet w' b P:=by
 obtain ⟨n,js,h1,h2⟩:=h;exact ⟨n,js,hg.raw h1 hr,h2⟩
theorem BSet.made (w:World):BSet (w.alloc (.map #[] 0)) w.heap.size (fun _=>False):=by
 refine ⟨0,[],?_,List.nodup_nil,rfl,by simp⟩;have h:=RawMap.made Tryz.prog 27 w;have e:setF (fun _=>False)=fun _=>none:=by funext r;simp [setF]
 rw [e];exact h
theorem BSet.imp {Q:Int→Prop} (h:BSet w b P) (he : ∀ r,P r↔Q r):BSet w b Q:=by
 have : P=Q:=funext fun r=>propext (he r)
 rwa [← this]
theorem nodup_sub : ∀ {js ks:List Int},js.Nodup→(∀ x∈js,x∈ks)→js.length≤ks.length
 | [],_,_,_=>by simp
 | j :: js,ks,h,hs=>by
  rw [List.nodup_cons] at h;have hj:=hs j (by simp);have:=nodup_sub (js:=js) (ks:=ks.erase j) h.2 (fun x hx=>by
   have hne:x≠j:=fun e=>h.1 (e ▸ hx);exact (List.mem_erase_of_ne hne).2 (hs x (List.mem_cons_of_mem _ hx)))
  have h2:=List.length_erase_of_mem hj;have h3:0 < ks.length:=List.length_pos_of_mem hj;simp;omega
theorem wpList_add {ops:Array Oper} {rest:List Oper} {o:Oper} {a:Act} {Q:Exit→Act→World→Prop} (h:BSet w b P) {ks:List Int} (hks : ∀ k,P k→k∈ks) (hl:ks.length≤1000000)
  (hg:o.guard=none) (m x v:Operand) (t:TypeId) (hop:o.op=Op.mapUpdate t m x v∨o.op=Op.insert t m x v) (et:TypeId) (ht:Tryz.prog.underlying t=some (.map 27 et)) {k:Int} (hin:inU k)
  (hm:a.eval m=.map (some b)) (hx:a.eval x=.int .u64 k) (hv:a.eval v=.bool true)
  (hK : ∀ w',BSet w' b (fun r=>P r∨r=k)→w.grownBy w' (some b)→wpList Tryz.prog ops Q rest (a.put o.dst undef) w'):wpList Tryz.prog ops Q (o :: rest) a w:=by
 obtain ⟨n,js,h1,h2,h3,h4⟩:=h;have hn:n≤ks.length:=by rw [← h3];exact nodup_sub h2 (fun x hx=>hks x (h4 x hx))
 refine wpList_store_any h1 hg m x v t hop Tryz.underlying27 ht (by unfold maxLen;omega) hin (.bool true) hm hx hv ?_;intro w' r1 r2;rw [setF_store] at r1;refine hK w' ?_ r2;by_cases c:P k
 ·have : (setF P k).isSome=true:=by simp [setF,c]
  rw [if_pos this] at r1;exact ⟨n,js,r1,h2,h3,fun y hy=>.inl (h4 y hy)⟩
 ·have : ¬ (setF P k).isSome=true:=by simp [setF,c]
  rw [if_neg this] at r1;refine ⟨n+1,js++[k],r1,List.nodup_append.2 ⟨h2,by simp,fun a ha b hb=>by simp at hb;subst hb;exact fun e=>c (e ▸ h4 a ha)⟩,by simp [h3],fun y hy=>?_⟩;rcases List.mem_append.1 hy with hy | hy
  ·exact .inl (h4 y hy)
  ·simp at hy;exact .inr hy
end
def Viab (F:Int→Option (Int×Int×Int)) (f:Int) (ks:List Int) (lf:Int→Bool) (r:Int):Prop:=∃ l,(F l).isSome=true∧kidsT F f l ks=[]∧lf l=true∧Under F f l r
section
variable {F:Int→Option (Int×Int×Int)} {f:Int} {ks:List Int} {lf:Int→Bool}
theorem mem_kids (hR:Rising F ks) {root k:Int}:k∈kidsT F f root ks↔inU k∧k≠f∧∃ x,F k=some x∧x.1=root:=by
 unfold kidsT;rw [List.mem_filter];constructor
 ·intro ⟨h1,h2⟩;have hin:=hR.2.1 k h1;obtain ⟨x,hx⟩:=Option.isSome_iff_exists.1 ((hR.2.2 k hin).1 h1);rw [hx] at h2;simp at h2;exact ⟨hin,h2.1,x,hx,h2.2⟩
 ·intro ⟨h1,h2,x,hx,h3⟩;refine ⟨(hR.2.2 k h1).2 (by rw [hx];rfl),?_⟩;rw [hx];simp [h2,h3]
theorem Under.trans {a b c:Int} (h:Under F f a b) (h2:Under F f b c):Under F f a c:=by
 induction h with
 | self r=>exact h2
 | step hl hne _ ih=>exact .step hl hne (ih h2)
theorem under_kids (hR:Rising F ks) (W:WellT f F) {y root:Int}:Under F f y root↔y=root∨∃ k∈kidsT F f root ks,Under F f y k:=by
 constructor
 ·intro h;induction h with
  | self r=>exact .inl rfl
  | step hl hne hu ih=>
   rename_i l r x
   right;rcases ih with ih | ⟨k,hk,hu2⟩
   ·exact ⟨l,(mem_kids hR).2 ⟨W.key _ _ hl,hne,_,hl,ih⟩,.self _⟩
   ·exact ⟨k,hk,.step hl hne hu2⟩
 ·rintro (rfl | ⟨k,hk,hu⟩)
  ·exact .self _
  ·obtain ⟨_,hne,x,hx,rfl⟩:=(mem_kids hR).1 hk;exact hu.trans (.step hx hne (.self _))
theorem viab_kids (hR:Rising F ks) (W:WellT f F) {root:Int} (hr:(F root).isSome=true):Viab F f ks lf root↔(kidsT F f root ks=[]∧lf root=true)∨∃ k∈kidsT F f root ks,Viab F f ks lf k:=by
 constructor
 ·rintro ⟨l,h1,h2,h3,h4⟩;rcases (under_kids hR W).1 h4 with rfl | ⟨k,hk,hu⟩
  ·exact .inl ⟨h2,h3⟩
  ·exact .inr ⟨k,hk,l,h1,h2,h3,hu⟩
 ·rintro (⟨h1,h2⟩ | ⟨k,hk,l,h1,h2,h3,h4⟩)
  ·exact ⟨root,hr,h1,h2,.self _⟩
  ·exact ⟨l,h1,h2,h3,(under_kids hR W).2 (.inr ⟨k,hk,h4⟩)⟩
def LaidBy (F:Int→Option (Int×Int×Int)) (f:Int) (ks:List Int) (lf:Int→Bool) (P:Int→Prop) (root y:Int):Prop:=P y∨(Under F f y root∧Viab F f ks lf y)
end
def intoV (q1 q2 q3 q4:Nat):Value:=.func (.func 153) #[] #[.pointer (some ⟨q1,0,none⟩),.pointer (some ⟨q2,0,none⟩),.pointer (some ⟨q3,0,none⟩),.pointer (some ⟨q4,0,none⟩)]
structure VCtx (w:World) (q1 q2 q3 q4 ob tp tb n:Nat) (f:Int) (F:Int→Option (Int×Int×Int)) (m mn:Nat) (G:Int→Option Int) (je jr fe fr ep:Int):Prop where
 b1:Blk w q1 #[.pointer (some ⟨tp,0,none⟩)] 71
 b2:Blk w q2 #[.int .i64 je,.int .u64 jr,.int .i64 fe,.int .u64 fr,.int .i64 ep,.map (some m)] 278
 b3:Blk w q3 #[intoV q1 q2 q3 q4] 212
 b4:Blk w q4 #[.map (some ob)] 75
 tree:TreeAt w tp tb n f F
 src:RawMap Tryz.prog 27 w m mn (srcs G)
 ne:q1≠ob∧q2≠ob∧q3≠ob∧q4≠ob∧tp≠ob∧tb≠ob∧m≠ob
section
variable {w w':World} {q1 q2 q3 q4 ob tp tb n:Nat} {f:Int} {F:Int→Option (Int×Int×Int)} {m mn:Nat} {G:Int→Option Int} {je jr fe fr ep:Int}
theorem VCtx.k (h:VCtx w q1 q2 q3 q4 ob tp tb n f F m mn G je jr fe fr ep) (hg:w.grownBy w' (some ob)):VCtx w' q1 q2 q3 q4 ob tp tb n f F m mn G je jr fe fr ep:=by
 obtain ⟨n1,n2,n3,n4,n5,n6,n7⟩:=h.ne;exact ⟨h.b1.kept hg (fun e=>n1 (Option.some.inj e).symm),h.b2.kept hg (fun e=>n2 (Option.some.inj e).symm),h.b3.kept hg (fun e=>n3 (Option.some.inj e).symm),h.b4.kept hg (fun e=>n4 (Option.some.inj e).symm),
  h.tree.kept hg ⟨fun e=>n5 (Option.some.inj e).symm,fun e=>n6 (Option.some.inj e).symm⟩,h.src.kept hg (fun e=>n7 (Option.some.inj e)),h.ne⟩
theorem VCtx.g (h:VCtx w q1 q2 q3 q4 ob tp tb n f F m mn G je jr fe fr ep) (hg:w.grownBy w' none):VCtx w' q1 q2 q3 q4 ob tp tb n f F m mn G je jr fe fr ep:=h.k (gweak hg)
theorem under_mem {ks:List Int} (hR:Rising F ks) (W:WellT f F) {y r:Int} (h:Under F f y r) (hr:(F r).isSome=true):y∈ks:=by
 have hy:(F y).isSome=true:=by
  cases h with
  | self=>exact hr
  | step hl _ _=>rw [hl];rfl
 obtain ⟨x,hx⟩:=Option.isSome_iff_exists.1 hy;exact (hR.2.2 y (W.key _ _ hx)).2 hy
theorem gtr {a b c:World} {row:Option Nat} (h:a.grownBy b none) (k:b.grownBy c row):a.grownBy c row:=(gweak h).andThen k (fun _ e=>.inr e)
open Classical in
set_option maxHeartbeats 4000000 in
theorem into_calls {ks:List Int} (hR:Rising F ks) (hkl:ks.length≤1000000) (W:WellT f F) (hn:n≤1000000) (hS:SortUpTo n) (hfr:inU fr) (hGb : ∀ r,0≤(G r).getD 0∧(G r).getD 0≤1099511627776) :
  ∀ (d:Nat) (root:Int) (x:Int×Int×Int) (P:Int→Prop) (w:World),F root=some x→(1099511627776 - x.2.1).toNat < d→(∀ k,P k→k∈ks)→VCtx w q1 q2 q3 q4 ob tp tb n f F m mn G je jr fe fr ep→BSet w ob P →
  Calls Tryz.prog 153 #[.int .u64 root,.pointer (some ⟨q1,0,none⟩),.pointer (some ⟨q2,0,none⟩),.pointer (some ⟨q3,0,none⟩),.pointer (some ⟨q4,0,none⟩)] w fun e w'=>
   e=.returned (.bool (decide (Viab F f ks (leafF F f G je fr ep) root)))∧BSet w' ob (LaidBy F f ks (leafF F f G je fr ep) P root)∧w.grownBy w' (some ob)
 | 0,_,_,_,_,_,h,_,_,_=>by omega
 | d+1,root,x,P,w,hx,hd,hP,hc,hb=>by
  have hin:=W.key _ _ hx;have IH:=lh (into_calls hR hkl W hn hS hfr hGb d);have HC:=lh hc;have HB:=lh hb;have HP:=lh hP;have HR:=lh hR;have HW:=lh W;have HX:=lh hx;have HS:=lh hS;have HGB:=lh hGb;have c1:=hc.b1.c1;have hob:=hb.lt;clear hc hb hP hR W hx hS hGb;go_enter Tryz.func153,Tryz.ntmps153
  go_wp2_with fail
  refine (kids_calls HC.out.tree HW.out hn HS.out root).mono ?_;rintro e w1 ⟨v,ks',rfl,hR',_,hrow,hg1⟩;obtain rfl:=hR'.eq HR.out;obtain ⟨K,hK⟩ : ∃ K,K=kidsT F f root ks':=⟨_,rfl⟩;rw [← hK] at hrow;have hKl:K.length≤1000000:=by rw [hK];exact Nat.le_trans (kidsT_length _ _ _ _) hkl
  have HK:=lh hK;have HC1:=lh (HC.out.g hg1);have HB1:=lh (HB.out.g hg1);have HG1:=lh hg1;have HROW:=lh hrow;clear hg1 hK hR' HC HB;have c1:=HC1.out.b1.c1;obtain ⟨e0,e1,e2,e3,e4,e5⟩:=HC1.out.b2.c6;by_cases hnil:K=[]
  ·have HN:=lh hnil;have hrow0:w1.ownsRow w.heap.size 27 1 v 0 []:=by have:=HROW.out;rw [hnil] at this;exact this
   have hlen:=len_any (P:=Tryz.prog) (t:=34) hrow0 Tryz.underlying34 3;clear hnil hrow hrow0;obtain ⟨B,hB⟩ : ∃ B,B=leafF F f G je fr ep root:=⟨_,rfl⟩;have hlf:=leaf_calls HC1.out.tree HW.out HC1.out.src (je:=je) (jr:=jr) (fe:=fe) (ep:=ep) hin hfr (HGB.out root);rw [← hB] at hlf;have HL:=lh hlf;have HBE:=lh hB;clear hB hlf;go_wp2_with fail
   refine HL.out.mono ?_;rintro e w2 ⟨rfl,hg2⟩;have HC2:=lh (HC1.out.g hg2);have HB2:=lh (HB1.out.g hg2);have HG2:=lh (g2 HG1.out hg2);clear hg2 e0 e1 e2 e3 e4 e5 c1;have c4:=HC2.out.b4.c1;cases B
   ·go_wp2;refine wp_loop_rounds 1 ?_;rw [rounds_succ];go_wp2;go_ret;have hv:¬ Viab F f ks' (leafF F f G je fr ep) root:=by
     rw [viab_kids HR.out HW.out (by rw [HX.out];rfl),← HK.out,HN.out,← HBE.out];simp
    refine ⟨by rw [decide_eq_false hv];rfl,HB2.out.imp (fun y=>?_),gweak HG2.out⟩;unfold LaidBy;rw [under_kids HR.out HW.out,← HK.out,HN.out];constructor
    ·exact .inl
    ·rintro (h | ⟨h1,h2⟩)
     ·exact h
     ·rcases h1 with rfl | ⟨k,hk,_⟩
      ·exact (hv h2).elim
      ·simp at hk
   ·have hlen2:=hlen;go_wp2;refine wp_loop_rounds 1 ?_;rw [rounds_succ];go_wp2_with (refine wpList_add HB2.out HP.out (ks:=ks') hkl rfl _ _ _ 75 (Or.inl rfl) 4 Tryz.underlying75 hin rfl rfl rfl ?_;intro w4 hb4 hg4;have HB4:=lh hb4;have HG4:=lh (gtr HG2.out hg4);clear hb4 hg4)
    go_ret;have hv:Viab F f ks' (leafF F f G je fr ep) root:=by
     rw [viab_kids HR.out HW.out (by rw [HX.out];rfl),← HK.out,HN.out,← HBE.out];simp
    refine ⟨by rw [decide_eq_true hv];rfl,HB4.out.imp (fun y=>?_),HG4.out⟩;unfold LaidBy;rw [under_kids HR.out HW.out,← HK.out,HN.out];constructor
    ·rintro (h | rfl)
     ·exact .inl h
     ·exact .inr ⟨.inl rfl,hv⟩
    ·rintro (h | ⟨h1,h2⟩)
     ·exact .inl h
     ·rcases h1 with rfl | ⟨k,hk,_⟩
      ·exact .inr rfl
      ·simp at hk
  ·have hpos:0 < K.length:=List.length_pos_iff.2 hnil;obtain ⟨g,cap,rfl,hgb⟩:=HROW.out.form hpos;have hobl:=HB1.out.lt;have hobw:ob < w.heap.size:=hob;clear hrow;have t0:decide ((K.length:Int)=0)=false:=decide_eq_false (by omega);have t1:((K.length:Int) == 0)=false:=beq_eq_false_iff_ne.2 (by omega);obtain ⟨VB,hVB⟩ : ∃ VB:Int→Prop,VB=Viab F f ks' (leafF F f G je fr ep):=⟨_,rfl⟩;have hvk:=viab_kids (lf:=leafF F f G je fr ep) HR.out HW.out (root:=root) (by rw [HX.out];rfl);rw [← HK.out,← hVB] at hvk;have huk:=fun y=>under_kids HR.out HW.out (y:=y) (root:=root);simp only [← HK.out] at huk;have HVE:=lh hVB;have HVK:=lh hvk;have HUK:=lh huk;clear hVB hvk huk;go_wp2
   go_loopw [25,8] (fun v25 v8 wr=>∃ j:Nat,v25=.int .i64 (j:Int)∧j≤K.length∧v8=.bool (decide (∃ k∈K.take j,VB k))∧BSet wr ob (fun y=>P y∨∃ k∈K.take j,Under F f y k∧VB y)∧w1.grownBy wr (some ob)) (fun v25 _ _=>K.length - (intOf v25).toNat)
   case atStart=>exact ⟨0,rfl,by omega,by simp,HB1.out.imp (fun y=>by simp),gR _ _⟩
   case round=>
    obtain ⟨j,rfl,hj,rfl,hbs,hgr⟩:=hrel;obtain ⟨b,hbd⟩ : ∃ b:Bool,b=decide (∃ k∈K.take j,VB k):=⟨_,rfl⟩;rw [← hbd];have HBD:=lh hbd;have HBS:=lh hbs;have HGR:=lh hgr;clear hbd hbs hgr;by_cases hlt:j < K.length
    ·have hrc:=rowCell (HROW.out.kept HGR.out (by simp [Value.ownBlock];omega)) j hlt;obtain ⟨k,hke⟩ : ∃ k,k=K.getD j 0:=⟨_,rfl⟩;rw [← hke] at hrc;have hkm:k∈K:=by rw [hke,List.getD_eq_getElem?_getD,List.getElem?_eq_getElem hlt];simp
     have htk:K.take (j+1)=K.take j++[k]:=by rw [List.take_add_one,hke,List.getD_eq_getElem?_getD,List.getElem?_eq_getElem hlt];rfl
     have hkm2:=hkm;rw [HK.out] at hkm2;obtain ⟨hkin,hkf,y,hy,hyr⟩:=(mem_kids HR.out).1 hkm2;obtain ⟨x',hx',hlt2⟩:=HW.out.up k y hy hkf;rw [hyr,HX.out] at hx';obtain rfl:=Option.some.inj hx';have hys:=HW.out.slot _ _ hy;have hxs:=HW.out.slot _ _ HX.out;have hcall:=IH.out k y (fun y=>P y∨∃ k∈K.take j,Under F f y k∧VB y) wr hy (by omega) (fun z hz=>by
      rcases hz with hz | ⟨k2,hk2,hu,_⟩
      ·exact HP.out z hz
      ·have hk3:=List.mem_of_mem_take hk2;rw [HK.out] at hk3;obtain ⟨_,_,y2,hy2,_⟩:=(mem_kids HR.out).1 hk3;exact under_mem HR.out HW.out hu (by rw [hy2];rfl)) (HC1.out.k HGR.out) HBS.out
     unfold LaidBy at hcall;rw [← HVE.out] at hcall;have HCALL:=lh hcall;have HTK:=lh htk;have c3:=(HC1.out.k HGR.out).b3.c1;unfold intoV at c3;obtain ⟨B,hB⟩ : ∃ B,B=decide (VB k):=⟨_,rfl⟩;rw [← hB] at HCALL;have HBB:=lh hB;clear hke hkm hkm2 hy hyr hlt2 hys hxs hcall htk hB hkf;cases b <;> cases B
     all_goals
      go_wp2_with (go_at_call 153;refine HCALL.out.mono ?_;rintro e w5 ⟨rfl,hb5,hg5⟩;have HB5:=lh hb5;have HG5:=lh (gtrans HGR.out hg5);clear hb5 hg5)
      refine ⟨⟨j+1,by simp,by omega,?_,HB5.out.imp (fun z=>?_),HG5.out⟩,by simp [intOf];omega⟩
      ·congr 1
       have h1:=HBD.out;have h2:=HBB.out;rw [HTK.out];simp only [List.mem_append,List.mem_singleton];simp at h1 h2;first
        | (symm;apply decide_eq_true;first | exact ⟨k,.inr rfl,h2⟩ | (obtain ⟨k2,hk2,hv2⟩:=h1;exact ⟨k2,.inl hk2,hv2⟩))
        | (symm;apply decide_eq_false;rintro ⟨k2,hk2,hv2⟩;exact hk2.elim (fun hk2=>h1 k2 hk2 hv2) (fun e=>h2 (e ▸ hv2)))
      ·rw [HTK.out];simp only [List.mem_append,List.mem_singleton];constructor
       ·rintro ((h | ⟨k2,hk2,h⟩) | h)
        ·exact .inl h
        ·exact .inr ⟨k2,.inl hk2,h⟩
        ·exact .inr ⟨k,.inr rfl,h⟩
       ·rintro (h | ⟨k2,hk2 | rfl,h⟩)
        ·exact .inl (.inl h)
        ·exact .inl (.inr ⟨k2,hk2,h⟩)
        ·exact .inr h
    ·have hje:j=K.length:=by omega
     subst hje;have hvb:decide (VB root)=b:=by
      rw [HBD.out,List.take_length];have:=HVK.out;simp only [hnil,false_and,false_or] at this;simp only [this]
     have hset : ∀ y,(P y∨(Under F f y root∧VB y))↔((P y∨∃ k∈K.take K.length,Under F f y k∧VB y)∨(y=root∧VB root)):=fun y=>by
      rw [List.take_length,HUK.out y];constructor
      ·rintro (h | ⟨rfl | ⟨k2,hk2,h⟩,h2⟩)
       ·exact .inl (.inl h)
       ·exact .inr ⟨rfl,h2⟩
       ·exact .inl (.inr ⟨k2,hk2,h,h2⟩)
      ·rintro ((h | ⟨k2,hk2,h,h2⟩) | ⟨rfl,h2⟩)
       ·exact .inl h
       ·exact .inr ⟨.inr ⟨k2,hk2,h⟩,h2⟩
       ·exact .inr ⟨.inl rfl,h2⟩
     have HVB:=lh hvb;have HSET:=lh hset;clear hvb hset;have c4:=(HC1.out.k HGR.out).b4.c1;cases b
     ·go_wp2;go_ret;have hv:=HVB.out;refine ⟨by rw [← HVE.out,hv];rfl,HBS.out.imp (fun y=>?_),gtr HG1.out HGR.out⟩;unfold LaidBy;rw [← HVE.out];have hn:=of_decide_eq_false hv;rw [HSET.out y];simp [hn]
     ·have hsub : ∀ z,(P z∨∃ k∈K.take K.length,Under F f z k∧VB z)→z∈ks':=fun z hz=>by
       rcases hz with hz | ⟨k2,hk2,hu,_⟩
       ·exact HP.out z hz
       ·have hk3:=List.mem_of_mem_take hk2;rw [HK.out] at hk3;obtain ⟨_,_,y2,hy2,_⟩:=(mem_kids HR.out).1 hk3;exact under_mem HR.out HW.out hu (by rw [hy2];rfl)
      have HSUB:=lh hsub;clear hsub;go_wp2_with (refine wpList_add HBS.out (ks:=ks') HSUB.out hkl rfl _ _ _ 75 (Or.inl rfl) 4 Tryz.underlying75 hin rfl rfl rfl ?_;intro w4 hb4 hg4;have HB4:=lh hb4;have HG4:=lh (gtr HG1.out (gtrans HGR.out hg4));clear hb4 hg4)
      go_ret;have hv:=HVB.out;refine ⟨by rw [← HVE.out,hv];rfl,HB4.out.imp (fun y=>?_),HG4.out⟩;unfold LaidBy;rw [← HVE.out];have hn:=of_decide_eq_true hv;rw [HSET.out y];simp [hn]
end
end Go.Proofs.YtndfpmboanohcaaGreatDoor
