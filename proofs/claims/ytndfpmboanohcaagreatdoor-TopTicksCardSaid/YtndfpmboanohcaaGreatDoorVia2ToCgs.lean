/- Contract of viable.Of. -/
import Derived.Test.YtndfpmboanohcaaGreatDoorLeafToVia
namespace Go.Proofs.YtndfpmboanohcaaGreatDoor
set_option maxRecDepth 100000
open Go.RowKit Go.Maps SkipPure
def MayLead (F:Int→Option (Int×Int×Int)) (f:Int) (ks:List Int) (G:Int→Option Int) (je fr ep:Int) (y:Int):Prop:=Under F f y f∧Viab F f ks (leafF F f G je fr ep) y
set_option maxHeartbeats 4000000 in
theorem viable_calls {w:World} {tp tb n:Nat} {f:Int} {F:Int→Option (Int×Int×Int)} {m mn:Nat} {G:Int→Option Int} {je jr fe fr ep:Int} {ks:List Int} (h:TreeAt w tp tb n f F) (W:WellT f F) (hm:RawMap Tryz.prog 27 w m mn (srcs G))
  (hR:Rising F ks) (hkl:ks.length≤1000000) (hn:n≤1000000) (hS:SortUpTo n) (hfr:inU fr) (hGb : ∀ r,0≤(G r).getD 0∧(G r).getD 0≤1099511627776) :
  Calls Tryz.prog 149 #[.pointer (some ⟨tp,0,none⟩),viewV je jr fe fr ep m] w fun e w'=>∃ ob,e=.returned (.map (some ob))∧BSet w' ob (MayLead F f ks G je fr ep)∧w.heap.size≤ob∧w.grownBy w' none:=by
 have hmm:=@run_makeMap Tryz.prog;have HT:=lh h;have HM:=lh hm;have htl:tp < w.heap.size:=(Array.getElem?_eq_some_iff.1 h.2.1).1;have htb:tb < w.heap.size:=h.2.2.lt;have hml:=hm.lt;obtain ⟨x,hx⟩:=Option.isSome_iff_exists.1 W.first
 have HR:=lh hR;have HW:=lh W;have HX:=lh hx;have HS:=lh hS;have HGB:=lh hGb;clear h hm hR W hx hS hGb;unfold viewV;go_enter Tryz.func149,Tryz.ntmps149
 go_upto_region 3 with (fail)
 obtain ⟨⟨g1,g2'⟩,gz,gg⟩:=alloc2 w #[.pointer (some ⟨tp,0,none⟩)] #[.int .i64 je,.int .u64 jr,.int .i64 fe,.int .u64 fr,.int .i64 ep,.map (some m)] 71 278;generalize (w.alloc (Obj.cells #[Value.pointer (some ⟨tp,0,none⟩)] 71)).alloc (Obj.cells #[Value.int IntKind.i64 je,Value.int IntKind.u64 jr,Value.int IntKind.i64 fe,Value.int IntKind.u64 fr,Value.int IntKind.i64 ep,Value.map (some m)] 278)=W2 at g1 g2' gz gg ⊢;have hs:=BSet.made W2;have hg3:=World.grownBy_alloc W2 (Obj.map #[] 0) none;have hz3:(W2.alloc (Obj.map #[] 0)).heap.size=W2.heap.size+1:=by simp
 rw [gz] at hs hz3;generalize W2.alloc (Obj.map #[] 0)=W3 at hs hg3 hz3 ⊢;obtain ⟨q,hq⟩ : ∃ q,q=w.heap.size:=⟨_,rfl⟩;rw [← hq] at g1 g2' hs hz3 htl htb hml ⊢;have HQ:=lh hq;clear hq gz;obtain ⟨⟨k1,k2⟩,kz,kg⟩:=alloc2 W3 #[.map (some (q+1+1))] #[.nilFunc] 75 212;rw [hz3] at k1 k2 kz;generalize (W3.alloc (Obj.cells #[Value.map (some (q+1+1))] 75)).alloc (Obj.cells #[Value.nilFunc] 212)=W5 at k1 k2 kz kg ⊢;have hcl:W5.cell? ⟨q+1+1+1+1,0,none⟩=some .nilFunc:=k2.c1;have hfz:W5.frozen? ⟨q+1+1+1+1,0,none⟩=false:=k2.f1;have hst:(store ⟨q+1+1+1+1,0,none⟩ (.func (.func 153) #[] #[.pointer (some ⟨q,0,none⟩),.pointer (some ⟨q+1,0,none⟩),.pointer (some ⟨q+1+1+1+1,0,none⟩),.pointer (some ⟨q+1+1+1,0,none⟩)])).run Tryz.prog W5
   = .ok () (W5.setCell ⟨q+1+1+1+1,0,none⟩ (.func (.func 153) #[] #[.pointer (some ⟨q,0,none⟩),.pointer (some ⟨q+1,0,none⟩),.pointer (some ⟨q+1+1+1+1,0,none⟩),.pointer (some ⟨q+1+1+1,0,none⟩)])):=by
  rw [run_store _ _ _ _ _ rfl,hcl,hfz];rfl
 go_upto_region 4 with (fail)
 refine nsC1 k2 ?_;intro W6 k3 kz6 kg6;simp only [List.setIfInBounds_toArray,List.set_cons_zero] at k3;have hg35:=kg;have hk1:=k1.kept kg6 (by simp);have hh1:=((g1.g hg3).g kg).kept kg6 (by simp;omega);have hh2:=((g2'.g hg3).g kg).kept kg6 (by simp;omega);have hs6:=(hs.g kg).kept kg6 (by simp;omega);have hgw:w.grownBy W6 none:=gnew (g2 (g2 gg hg3) kg) kg6 (by have:=HQ.out;omega);have hctx:VCtx W6 q (q+1) (q+1+1+1+1) (q+1+1+1) (q+1+1) tp tb n f F m mn G je jr fe fr ep:=
  ⟨hh1,hh2,k3,hk1,HT.out.kept hgw (by simp),HM.out.kept hgw (by simp),by omega,by omega,by omega,by omega,by omega,by omega,by omega⟩
 have HC:=lh (hctx.g (gdrew (gR _ none)));have HB:=lh (hs6.g (gdrew (gR _ none)));have HG:=lh (gdrew hgw);have c1:=hctx.b1.c1;have c3:=hctx.b3.c1;unfold intoV at c3;clear gg hg3 hml htb htl hz3 hs g2' g1 k1 k2 kz kg hcl hfz hst k3 kz6 kg6 hg35 hk1 hh1 hh2 hs6 hgw hctx
 go_region_held3 (fun w'=>w'.cell? ⟨q,0,none⟩=some (.pointer (some ⟨tp,0,none⟩))∧w'.cell? ⟨q+1+1+1+1,0,none⟩=some (.func (.func 153) #[] #[.pointer (some ⟨q,0,none⟩),.pointer (some ⟨q+1,0,none⟩),.pointer (some ⟨q+1+1+1+1,0,none⟩),.pointer (some ⟨q+1+1+1,0,none⟩)]))
  (go_keep)
  (first
    | (go_at_call 145
       refine (tfirst_calls HC.out.tree).mono ?_;rintro e wg ⟨rfl,rfl⟩)
    | (go_at_call 153
       refine (into_calls HR.out hkl HW.out hn HS.out hfr HGB.out _ f x (fun _=>False) _ HX.out (Nat.lt_succ_self _) (fun _ h=>h.elim) HC.out HB.out).mono ?_;rintro e wg ⟨rfl,hbs,hgg⟩;replace HC:=lh (HC.out.k hgg);have HBS:=lh hbs;have HGN:=lh (gnew HG.out hgg (by have:=HQ.out;omega));have c1:=HC.out.b1.c1;have c3:=HC.out.b3.c1;unfold intoV at c3;clear hgg hbs))
 have c4:=HC.out.b4.c1;go_wp2;go_ret;exact ⟨q+1+1,rfl,HBS.out.imp (fun y=>by unfold LaidBy MayLead;simp),by have:=HQ.out;omega,HGN.out⟩
structure St where
 bs:List Int
 S:Int
 B:Int
 f:Int
 F:Int→Option (Int×Int×Int)
 n:Nat
 V:Nat→Ent
 slot:Int
 boosted:Int
 je:Int
 jr:Int
 fe:Int
 fr:Int
 L:Int→Option Led
 gone:Int→Prop
structure Ids where
 p:Nat
 tp:Nat
 tb:Nat
 vb:Nat
 lm:Nat
 gm:Nat
 ba:Option Addr
 bc:Nat
 ch:Value
 ex:Nat→Prop
def Mut (I:Ids) (i:Nat):Prop:=i=I.p∨i=I.tp∨i=I.tb∨i=I.vb∨i=I.lm∨i=I.gm
def Far (I:Ids) (i:Nat):Prop:=Mut I i∨I.ex i
def LMap (w:World) (ok:Nat→Prop) (b N:Nat) (L:Int→Option Led):Prop:=
 ∃ (n:Nat) (js:List Int) (G:Int→Option Value),RawMap Tryz.prog 27 w b n G∧js.Nodup∧js.length=n∧(∀ k∈js,(L k).isSome=true) ∧
  ∀ r,(L r=none→G r=none)∧∀ x,L r=some x→∃ v,G r=some v∧LedAt w ok N x v
theorem LMap.chg {S:Nat→Prop} {w w':World} {ok:Nat→Prop} {b N:Nat} {L:Int→Option Led} (h:LMap w ok b N L) (hg:Chg S w w') (hb:¬ S b) (ho : ∀ i,ok i→¬ S i):LMap w' ok b N L:=by
 obtain ⟨n,js,G,h1,h2,h3,h4,h5⟩:=h;refine ⟨n,js,G,hg.raw h1 hb,h2,h3,h4,fun r=>⟨(h5 r).1,fun x hx=>?_⟩⟩;obtain ⟨v,hv,hl⟩:=(h5 r).2 x hx;exact ⟨v,hv,hl.chg hg ho⟩
theorem LMap.g {w w':World} {ok:Nat→Prop} {b N:Nat} {L:Int→Option Led} (h:LMap w ok b N L) (hg:w.grownBy w' none):LMap w' ok b N L:=
 h.chg (S:=fun _=>False) (Chg.of hg) (fun h=>h) (fun _ _ h=>h)
theorem LMap.imp {w:World} {ok ok':Nat→Prop} {b N:Nat} {L:Int→Option Led} (h:LMap w ok b N L) (ho : ∀ i,ok i→ok' i):LMap w ok' b N L:=by
 obtain ⟨n,js,G,h1,h2,h3,h4,h5⟩:=h;refine ⟨n,js,G,h1,h2,h3,h4,fun r=>⟨(h5 r).1,fun x hx=>?_⟩⟩;obtain ⟨v,hv,hl⟩:=(h5 r).2 x hx;exact ⟨v,hv,hl.imp ho⟩
structure StoreAt (w:World) (I:Ids) (σ:St):Prop where
 blk:Blk w I.p #[.slice I.ba σ.bs.length I.bc,.int .i64 σ.S,.int .i64 σ.B,.pointer (some ⟨I.tp,0,none⟩),.slice (some ⟨I.vb,0,none⟩) σ.bs.length σ.bs.length,.int .i64 σ.slot,.int .u64 σ.boosted,
  .int .i64 σ.je,.int .u64 σ.jr,.int .i64 σ.fe,.int .u64 σ.fr,.map (some I.lm),.map (some I.gm),I.ch] 78
 bal:Ints .u64 w I.ba σ.bs
 tree:TreeAt w I.tp I.tb σ.n σ.f σ.F
 votes:VAt w I.vb σ.bs.length σ.V
 led:LMap w (fun i=>¬ Far I i) I.lm σ.bs.length σ.L
 gone:BSet w I.gm σ.gone
 dist:[I.p,I.tp,I.tb,I.vb,I.lm,I.gm].Nodup
 apart : ∀ ad,I.ba=some ad→¬ Far I ad.block
 exlt : ∀ i,I.ex i→i < w.heap.size
 exd : ∀ i,I.ex i→¬ Mut I i
structure StWf (σ:St):Prop where
 may:MayBe σ.bs σ.S σ.B
 tree:WellT σ.f σ.F
 n:σ.n≤1024
 ks : ∃ ks:List Int,ks.length≤σ.n∧∀ k,(σ.F k).isSome=true→k∈ks
 led : ∀ r,(σ.L r).isSome=(σ.F r).isSome
 ledbd : ∀ r x,σ.L r=some x→LedBd x
 s0:0≤σ.slot
 s1:σ.slot≤1099511627776
 bo:inU σ.boosted
 j0:0≤σ.je
 j1:σ.je≤1099511627776
 jr:inU σ.jr
 f0:0≤σ.fe
 f1:σ.fe≤1099511627776
 fr:inU σ.fr
 vr : ∀ i,i < σ.bs.length→inU (σ.V i).r∧0≤(σ.V i).e∧(σ.V i).e≤1099511627776
section
variable {w w':World} {I:Ids} {σ:St}
theorem StoreAt.g (h:StoreAt w I σ) (hg:w.grownBy w' none):StoreAt w' I σ:=
 ⟨h.blk.g hg,h.bal.g hg,h.tree.kept hg (by simp),h.votes.kept hg (by simp),h.led.g hg,h.gone.g hg,h.dist,h.apart,fun i hi=>Nat.lt_of_lt_of_le (h.exlt i hi) hg.size,h.exd⟩
theorem StoreAt.chg {S:Nat→Prop} (h:StoreAt w I σ) (hg:Chg S w w') (hs : ∀ i,S i→i < w.heap.size→False):StoreAt w' I σ:=h.g (Chg.non hg (fun i hi=>Nat.le_of_not_lt (fun hl=>hs i hi hl)))
def errV (k:Int):Value:=if k=0 then .nilIface else .iface 46 (.int .i64 k)
def tickE (σ:St) (s:Int):Int:=if s≤σ.slot then 3 else if 1099511627776 < s then 4 else 0
def tickF (σ:St) (s:Int):St:=if tickE σ s=0 then { σ with slot:=s,boosted:=0 } else σ
theorem Mut.p {I:Ids}:Mut I I.p:=.inl rfl
theorem StoreAt.put (h:StoreAt w I σ) {w':World} {I':Ids} {σ':St} (hg:w.grownBy w' (some I.p))
  (hb:Blk w' I.p #[.slice I.ba σ.bs.length I.bc,.int .i64 σ.S,.int .i64 σ.B,.pointer (some ⟨I.tp,0,none⟩),.slice (some ⟨I.vb,0,none⟩) σ.bs.length σ.bs.length,.int .i64 σ'.slot,.int .u64 σ'.boosted,
    .int .i64 σ'.je,.int .u64 σ'.jr,.int .i64 σ'.fe,.int .u64 σ'.fr,.map (some I.lm),.map (some I.gm),I'.ch] 78)
  (hi:I'={ I with ch:=I'.ch }) (hs:σ'={ σ with slot:=σ'.slot,boosted:=σ'.boosted,je:=σ'.je,jr:=σ'.jr,fe:=σ'.fe,fr:=σ'.fr }):StoreAt w' I' σ':=by
 obtain ⟨p,tp,tb,vb,lm,gm,ba,bc,ch,ex⟩:=I;obtain ⟨h1,h2,h3,h4,h5,h6,h7,h8,h9,h10⟩:=h;rw [hi,hs];simp only at *;have hc:Chg (fun i=>i=p) w w':=Chg.one hg rfl;simp only [List.nodup_cons,List.mem_cons,List.not_mem_nil,or_false,not_or] at h7;obtain ⟨⟨n1,n2,n3,n4,n5⟩,h7'⟩:=h7;refine ⟨hb,h2.chg hc (fun ad ha e=>h8 ad ha (.inl (.inl e))),hc.tree h3 (Ne.symm n1) (Ne.symm n2),hc.votes h4 (Ne.symm n3),h5.chg hc (Ne.symm n4) (fun i hi e=>hi (.inl (.inl e))),h6.chg hc (Ne.symm n5),?_,h8,fun i hi=>Nat.lt_of_lt_of_le (h9 i hi) hg.size,h10⟩;simp only [List.nodup_cons,List.mem_cons,List.not_mem_nil,or_false,not_or];exact ⟨⟨n1,n2,n3,n4,n5⟩,h7'⟩
theorem tick_calls (h:StoreAt w I σ) (s:Int) :
  Calls Tryz.prog 35 #[.pointer (some ⟨I.p,0,none⟩),.int .i64 s] w fun e w'=>e=.returned (errV (tickE σ s))∧StoreAt w' I (tickF σ s)∧Chg (Mut I) w w':=by
 have HH:=lh h;obtain ⟨_,_,_,_,_,c5,c6,_,_,_,_,_,_,_⟩:=h.blk.c14;obtain ⟨_,_,_,_,_,f5,f6,_,_,_,_,_,_,_⟩:=h.blk.f14;clear h;by_cases h1:s≤σ.slot
 ·have e1:tickE σ s=3:=by unfold tickE;rw [if_pos h1]
  have e2:tickF σ s=σ:=by unfold tickF;rw [e1];rfl
  rw [e1,e2];clear e1 e2;go_enter Tryz.func35,Tryz.ntmps35
  go_wp2;go_ret;exact ⟨rfl,HH.out,Chg.refl _ _⟩
 ·by_cases h2:1099511627776 < s
  ·have e1:tickE σ s=4:=by unfold tickE;rw [if_neg h1,if_pos h2]
   have e2:tickF σ s=σ:=by unfold tickF;rw [e1];rfl
   rw [e1,e2];clear e1 e2;go_enter Tryz.func35,Tryz.ntmps35
   go_wp2;go_ret;exact ⟨rfl,HH.out,Chg.refl _ _⟩
  ·have e1:tickE σ s=0:=by unfold tickE;rw [if_neg h1,if_neg h2]
   have e2:tickF σ s={ σ with slot:=s,boosted:=0 }:=by unfold tickF;rw [e1];rfl
   rw [e1,e2];clear e1 e2;go_enter Tryz.func35,Tryz.ntmps35
   go_wp2;go_ret;obtain ⟨t1,_,t3⟩:=sto2 5 6 (.int .i64 s) (.int .u64 0) HH.out.blk;simp only [List.setIfInBounds_toArray,List.set_cons_zero,List.set_cons_succ] at t1;exact ⟨rfl,HH.out.put t3 t1 rfl rfl,Chg.one t3 Mut.p⟩
end
def prV (a b:Vt) (aw bw:Option Addr) (ac bc:Nat):Value:=.agg #[.int .i64 a.sl,.int .u64 a.hd,.int .i64 a.se,.int .u64 a.sr,.int .i64 a.te,.int .u64 a.tr,.slice aw a.who.length ac,
 .int .i64 b.sl,.int .u64 b.hd,.int .i64 b.se,.int .u64 b.sr,.int .i64 b.te,.int .u64 b.tr,.slice bw b.who.length bc]
def shownF (N:Nat) (S:Int) (a b:Vt):List Int:=if rightF N S a && rightF N S b && badF a b then bothF a.who b.who else []
def shownE (N:Nat) (S:Int) (a b:Vt):Int:=if (shownF N S a b).length=0 then 11 else 0
section
variable {w:World} {a b:Vt} {ca aw bw:Option Addr} {cc ac bc:Nat} {S B:Int} {bs:List Int}
set_option maxHeartbeats 4000000 in
theorem shown_calls (ha:Ints .i64 w aw a.who) (hb:Ints .i64 w bw b.who) (hbs : ∀ ad,bw=some ad→ad.spot=none) (hal:a.who.length≤1000000) (hbl:b.who.length≤1000000)
  (has:a.sl≤9223372036854775807) (hbsl:b.sl≤9223372036854775807) (hS:S≤1000000) :
  Calls Tryz.prog 59 #[cfgV ca bs.length cc S B,prV a b aw bw ac bc] w fun e w'=>∃ v,e=.returned (.tuple #[v,errV (shownE bs.length S a b)]) ∧
   w'.ownsRow w.heap.size 3 1 v (shownF bs.length S a b).length ((shownF bs.length S a b).map (Value.int .i64))∧w.grownBy w' none:=by
 obtain ⟨Rs,hRs⟩ : ∃ Rs,Rs=shownF bs.length S a b:=⟨_,rfl⟩;unfold shownE;rw [← hRs];obtain ⟨E,hE0⟩ : ∃ E:Int,E=if Rs.length=0 then 11 else 0:=⟨_,rfl⟩;rw [← hE0];have HE0:=lh hE0;clear hE0;have hRb:=fun (w:World) (h:Ints .i64 w bw b.who)=>right_calls (a:=ca) (c:=cc) (B:=B) (bs:=bs) (c2:=bc) h hbsl hS hbl;have hRa:=fun (w:World) (h:Ints .i64 w aw a.who)=>right_calls (a:=ca) (c:=cc) (B:=B) (bs:=bs) (c2:=ac) h has hS hal;have hBad:=fun (w:World)=>@bad_calls w a b aw bw ac bc;have hBoth:=fun (w:World) (h1:Ints .i64 w aw a.who) (h2:Ints .i64 w bw b.who)=>both_calls (ac:=ac) (bc:=bc) h1 h2 hbs hal hbl;unfold shownF at hRs;obtain ⟨x0,x1,x2,x3,x4,x5,xs⟩:=a;obtain ⟨y0,y1,y2,y3,y4,y5,ys⟩:=b;obtain ⟨R1,h1⟩ : ∃ R1,R1=rightF bs.length S ⟨x0,x1,x2,x3,x4,x5,xs⟩:=⟨_,rfl⟩;obtain ⟨R2,h2⟩ : ∃ R2,R2=rightF bs.length S ⟨y0,y1,y2,y3,y4,y5,ys⟩:=⟨_,rfl⟩;obtain ⟨R3,h3⟩ : ∃ R3,R3=badF ⟨x0,x1,x2,x3,x4,x5,xs⟩ ⟨y0,y1,y2,y3,y4,y5,ys⟩:=⟨_,rfl⟩;obtain ⟨R4,h4⟩ : ∃ R4,R4=bothF xs ys:=⟨_,rfl⟩;rw [← h1] at hRa;rw [← h2] at hRb;rw [← h3] at hBad;simp only at hBoth hRs ha hb;rw [← h4] at hBoth;rw [← h1,← h2,← h3,← h4] at hRs;unfold cfgV vtV at hRa hRb;unfold vtV at hBad hBoth;unfold prV cfgV;simp only at hRa hRb hBad hBoth ⊢;have HRA:=lh hRa;have HRB:=lh hRb;have HBAD:=lh hBad;have HBOTH:=lh hBoth;have HRS:=lh hRs;have HA:=lh ha;have HB:=lh hb;clear hRa hRb hBad hBoth hRs ha hb;clear h1 h2 h3 h4;go_enter Tryz.func59,Tryz.ntmps59
 go_upto_region 1 with (fail)
 refine nmC2 ?_;intro W b0 b1 hz hg;obtain ⟨q,hq_q⟩ : ∃ q,q=w.heap.size:=⟨_,rfl⟩;rw [← hq_q] at b0 b1 hz ⊢;have HQ_q:=lh hq_q;clear hq_q;have HB0:=lh b0;have HB1:=lh b1;have HG:=lh hg;clear b0 b1 hg;clear hz;replace HA:=lh (HA.out.kept HG.out);replace HB:=lh (HB.out.kept HG.out);have c0:=HB0.out.at 0;have c1:=HB0.out.at 1;have c2:=HB0.out.at 2;have d0:=HB1.out.at 0;have d1:=HB1.out.at 1;have d2:=HB1.out.at 2;have d3:=HB1.out.at 3;have d4:=HB1.out.at 4;have d5:=HB1.out.at 5;have d6:=HB1.out.at 6;have d7:=HB1.out.at 7;have d8:=HB1.out.at 8;have d9:=HB1.out.at 9;have d10:=HB1.out.at 10;have d11:=HB1.out.at 11;have d12:=HB1.out.at 12;have d13:=HB1.out.at 13;go_wp2_with fail
 refine (HRA.out _ HA.out).mono ?_;rintro e w2 ⟨rfl,hg2⟩;clear c0 c1 c2 d0 d1 d2 d3 d4 d5 d6 d7 d8 d9 d10 d11 d12 d13;replace HA:=lh (HA.out.kept hg2);replace HB:=lh (HB.out.kept hg2);replace HB0:=lh (HB0.out.g hg2);replace HB1:=lh (HB1.out.g hg2);replace HG:=lh (g2 HG.out hg2);clear hg2;cases R1
 ·have HN:Hid (Rs=[]):=lh (by rw [HRS.out];rfl);go_wp2_with fail
  go_ret2;refine ⟨_,by rw [HE0.out,HN.out];rfl,?_,HG.out⟩;first | exact World.ownsRow_nil _ _ _ _ | (rw [HN.out];exact World.ownsRow_nil _ _ _ _)
 ·have c0:=HB0.out.at 0;have c1:=HB0.out.at 1;have c2:=HB0.out.at 2;have d0:=HB1.out.at 0;have d1:=HB1.out.at 1;have d2:=HB1.out.at 2;have d3:=HB1.out.at 3;have d4:=HB1.out.at 4;have d5:=HB1.out.at 5;have d6:=HB1.out.at 6;have d7:=HB1.out.at 7;have d8:=HB1.out.at 8;have d9:=HB1.out.at 9;have d10:=HB1.out.at 10;have d11:=HB1.out.at 11;have d12:=HB1.out.at 12;have d13:=HB1.out.at 13;go_wp2_with fail
  refine (HRB.out _ HB.out).mono ?_;rintro e w2 ⟨rfl,hg2⟩;clear c0 c1 c2 d0 d1 d2 d3 d4 d5 d6 d7 d8 d9 d10 d11 d12 d13;replace HA:=lh (HA.out.kept hg2);replace HB:=lh (HB.out.kept hg2);replace HB0:=lh (HB0.out.g hg2);replace HB1:=lh (HB1.out.g hg2);replace HG:=lh (g2 HG.out hg2);clear hg2;cases R2
  ·have HN:Hid (Rs=[]):=lh (by rw [HRS.out];rfl);go_wp2_with fail
   go_ret2;refine ⟨_,by rw [HE0.out,HN.out];rfl,?_,HG.out⟩;first | exact World.ownsRow_nil _ _ _ _ | (rw [HN.out];exact World.ownsRow_nil _ _ _ _)
  ·have c0:=HB0.out.at 0;have c1:=HB0.out.at 1;have c2:=HB0.out.at 2;have d0:=HB1.out.at 0;have d1:=HB1.out.at 1;have d2:=HB1.out.at 2;have d3:=HB1.out.at 3;have d4:=HB1.out.at 4;have d5:=HB1.out.at 5;have d6:=HB1.out.at 6;have d7:=HB1.out.at 7;have d8:=HB1.out.at 8;have d9:=HB1.out.at 9;have d10:=HB1.out.at 10;have d11:=HB1.out.at 11;have d12:=HB1.out.at 12;have d13:=HB1.out.at 13;go_wp2_with fail
   refine (HBAD.out _).mono ?_;rintro e w2 ⟨rfl,hg2⟩;clear c0 c1 c2 d0 d1 d2 d3 d4 d5 d6 d7 d8 d9 d10 d11 d12 d13;replace HA:=lh (HA.out.kept hg2);replace HB:=lh (HB.out.kept hg2);replace HB0:=lh (HB0.out.g hg2);replace HB1:=lh (HB1.out.g hg2);replace HG:=lh (g2 HG.out hg2);clear hg2;cases R3
   ·have HN:Hid (Rs=[]):=lh (by rw [HRS.out];rfl);go_wp2_with fail
    go_ret2;refine ⟨_,by rw [HE0.out,HN.out];rfl,?_,HG.out⟩;first | exact World.ownsRow_nil _ _ _ _ | (rw [HN.out];exact World.ownsRow_nil _ _ _ _)
   ·have c0:=HB0.out.at 0;have c1:=HB0.out.at 1;have c2:=HB0.out.at 2;have d0:=HB1.out.at 0;have d1:=HB1.out.at 1;have d2:=HB1.out.at 2;have d3:=HB1.out.at 3;have d4:=HB1.out.at 4;have d5:=HB1.out.at 5;have d6:=HB1.out.at 6;have d7:=HB1.out.at 7;have d8:=HB1.out.at 8;have d9:=HB1.out.at 9;have d10:=HB1.out.at 10;have d11:=HB1.out.at 11;have d12:=HB1.out.at 12;have d13:=HB1.out.at 13;go_wp2_with fail
    refine (HBOTH.out _ HA.out HB.out).mono ?_;rintro e w3 ⟨v,rfl,hrow,hg2⟩;have hrow2:=own_base hrow HG.out.size;have HROW:=lh hrow2;have hlen:=len_own hrow2 Tryz.underlying62 3;have HG2:=lh (g2 HG.out hg2);clear hg2 hrow hrow2;clear c0 c1 c2 d0 d1 d2 d3 d4 d5 d6 d7 d8 d9 d10 d11 d12 d13;have HE:Hid (Rs=R4):=lh (by rw [HRS.out];rfl);by_cases h0:R4.length=0
    ·have HN:Hid (Rs=[]):=lh (by rw [HE.out];exact List.eq_nil_of_length_eq_zero h0);go_wp2_with fail
     go_ret2;refine ⟨_,by rw [HE0.out,HN.out];rfl,?_,HG2.out⟩;first | exact World.ownsRow_nil _ _ _ _ | (rw [HN.out];exact World.ownsRow_nil _ _ _ _)
    ·have HNE:Hid (Rs.length≠0):=lh (by rw [HE.out];exact h0);go_wp2_with fail
     go_ret2;refine ⟨_,by rw [HE0.out,if_neg HNE.out];rfl,?_,HG2.out⟩;rw [HE.out];exact HROW.out
end
end Go.Proofs.YtndfpmboanohcaaGreatDoor
namespace Go.Proofs.YtndfpmboanohcaaGreatDoor
open Go.RowKit Go.Maps SkipPure
structure Cg where
 kind:Int
 root:Int
 parent:Int
 who:Int
 frm:Int
 had:Bool
def Cg.cells (c:Cg):List Value:=[.int .i64 c.kind,.int .u64 c.root,.int .u64 c.parent,.int .i64 c.who,.int .u64 c.frm,.bool c.had]
def cgRow (cs:List Cg):List Value:=cs.flatMap Cg.cells
theorem cgRow_snoc (cs:List Cg) (c:Cg):cgRow (cs++[c])=cgRow cs++c.cells:=by simp [cgRow]
def hadE (x:Ent):Bool:=x.h && !x.b
def frmE (x:Ent):Int:=if hadE x then x.r else 0
def takeStep (e r:Int) (p:(Nat→Ent)×List Cg) (k:Int):(Nat→Ent)×List Cg:=
 (takeV p.1 k.toNat e r,if takeB (p.1 k.toNat) e then p.2++[⟨1,r,0,k,frmE (p.1 k.toNat),hadE (p.1 k.toNat)⟩] else p.2)
def takeAll (e r:Int) (V:Nat→Ent) (cs:List Cg) (ks:List Int):(Nat→Ent)×List Cg:=ks.foldl (takeStep e r) (V,cs)
def banStep (p:(Nat→Ent)×List Cg) (k:Int):(Nat→Ent)×List Cg:=
 if (p.1 k.toNat).b then p else (vset p.1 k.toNat { p.1 k.toNat with b:=true },p.2++[⟨2,0,0,k,frmE (p.1 k.toNat),hadE (p.1 k.toNat)⟩])
def banAll (V:Nat→Ent) (cs:List Cg) (ks:List Int):(Nat→Ent)×List Cg:=ks.foldl banStep (V,cs)
theorem takeAll_snoc (e r:Int) (V:Nat→Ent) (cs:List Cg) (ks:List Int) (k:Int):takeAll e r V cs (ks++[k])=takeStep e r (takeAll e r V cs ks) k:=by simp [takeAll]
theorem banAll_snoc (V:Nat→Ent) (cs:List Cg) (ks:List Int) (k:Int):banAll V cs (ks++[k])=banStep (banAll V cs ks) k:=by simp [banAll]
end Go.Proofs.YtndfpmboanohcaaGreatDoor
