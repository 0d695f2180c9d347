/- Contract of (*store.Store).Apply. -/
import Derived.Test.YtndfpmboanohcaaGreatDoorPro
namespace Go.Proofs.YtndfpmboanohcaaGreatDoor
set_option maxRecDepth 100000
open Go.RowKit Go.Maps SkipPure
structure Ev where
 k:Int
 s:Int
 r:Int
 q:Int
 bs:Int
 vs:List Vt
 ps:List (Vt×Vt)
 v:Vt
 a:Vt
 b:Vt
def evC (e:Ev) (va:Option Addr) (vc:Nat) (pa:Option Addr) (pc:Nat) (vw:Option Addr) (vwc:Nat) (aw:Option Addr) (ac:Nat) (bw:Option Addr) (bc:Nat):Array Value:=
 #[.int .i64 e.k,.int .i64 e.s,.int .u64 e.r,.int .u64 e.q,.int .i64 e.bs,.slice va e.vs.length vc,.slice pa e.ps.length pc,
  .int .i64 e.v.sl,.int .u64 e.v.hd,.int .i64 e.v.se,.int .u64 e.v.sr,.int .i64 e.v.te,.int .u64 e.v.tr,.slice vw e.v.who.length vwc,
  .int .i64 e.a.sl,.int .u64 e.a.hd,.int .i64 e.a.se,.int .u64 e.a.sr,.int .i64 e.a.te,.int .u64 e.a.tr,.slice aw e.a.who.length ac,
  .int .i64 e.b.sl,.int .u64 e.b.hd,.int .i64 e.b.se,.int .u64 e.b.sr,.int .i64 e.b.te,.int .u64 e.b.tr,.slice bw e.b.who.length bc]
def EvAt (w:World) (ok:Nat→Prop) (e:Ev) (cs:Array Value):Prop:=
 ∃ va vc pa pc vw vwc aw ac bw bc,cs=evC e va vc pa pc vw vwc aw ac bw bc∧VsAt w ok e.vs va∧PsAt w ok e.ps pa∧Ints .i64 w vw e.v.who∧(∀ ad,vw=some ad→ok ad.block)∧Ints .i64 w aw e.a.who∧(∀ ad,aw=some ad→ok ad.block) ∧
  Ints .i64 w bw e.b.who∧∀ ad,bw=some ad→ok ad.block∧ad.spot=none
theorem EvAt.chg {S:Nat→Prop} {w w':World} {ok ok':Nat→Prop} {e:Ev} {cs:Array Value} (h:EvAt w ok e cs) (hc:Chg S w w') (hs : ∀ i,ok i→¬ S i) (ho : ∀ i,ok i→ok' i):EvAt w' ok' e cs:=by
 obtain ⟨va,vc,pa,pc,vw,vwc,aw,ac,bw,bc,h1,h2,h3,h4,h5,h6,h7,h8,h9⟩:=h;exact ⟨va,vc,pa,pc,vw,vwc,aw,ac,bw,bc,h1,h2.chg hc hs ho,h3.chg hc hs ho,h4.chg hc (fun ad e=>hs _ (h5 ad e)),fun ad e=>ho _ (h5 ad e),h6.chg hc (fun ad e=>hs _ (h7 ad e)),fun ad e=>ho _ (h7 ad e),
  h8.chg hc (fun ad e=>hs _ (h9 ad e).1),fun ad e=>⟨ho _ (h9 ad e).1,(h9 ad e).2⟩⟩
structure EvB (e:Ev):Prop where
 k:e.k=0∨e.k=1∨e.k=2∨e.k=3
 r:inU e.r
 q:inU e.q
 vl:e.vs.length≤16
 pl:e.ps.length≤16
 vs : ∀ v∈e.vs,VtB v
 ps : ∀ p∈e.ps,VtB p.1∧VtB p.2
 v:VtB e.v
 a:VtB e.a
 b:VtB e.b
def Applied (σ:St) (e:Ev) (E:Int) (σ':St) (cs':List Cg):Prop:=
 (e.k=0∧E=tickE σ e.s∧σ'=tickF σ e.s∧cs'=[])∨(e.k=1∧Propd σ [] e.r e.q e.bs e.vs e.ps E σ' cs') ∨
 (e.k=2∧E=attE σ e.v false∧σ'={ σ with V:=(attC σ [] e.v false).1 }∧cs'=(attC σ [] e.v false).2) ∨
 (e.k=3∧E=shownE σ.bs.length σ.S e.a e.b∧σ'={ σ with V:=(banAll σ.V [] (shownF σ.bs.length σ.S e.a e.b)).1 }∧cs'=(banAll σ.V [] (shownF σ.bs.length σ.S e.a e.b)).2)
section
variable {w:World} {I:Ids} {σ:St} {N:Nat}
theorem Inv.tick (h:Inv σ N) (s:Int):Inv (tickF σ s) N:=by
 unfold tickF;split
 ·rename_i hE
  have hs:σ.slot < s∧s≤1099511627776:=by
   unfold tickE at hE;split at hE
   ·omega
   ·split at hE
    ·omega
    ·omega
  obtain ⟨⟨a1,a2,a3,a4,a5,a6,a7,a8,_,b1,b2,b3,b4,b5,b6,b7⟩,h2,h3,h4,h5⟩:=h;exact ⟨⟨a1,a2,a3,a4,a5,a6,by show 0≤s;omega,by show s≤_;omega,by show inU 0;unfold inU;omega,b1,b2,b3,b4,b5,b6,b7⟩,h2,h3,h4,h5⟩
 ·exact h
structure Apd (w w':World) (I I':Ids) (σ σ':St) (N:Nat) (e:Ev) (E:Int) (cs':List Cg):Prop where
 ap:Applied σ e E σ' cs'
 st:StoreAt w' I' σ'
 inv:Inv σ' (N+1)
 len:cs'.length≤60000
 row:w'.ownsRow w.heap.size 178 6 I'.ch cs'.length (cgRow cs')
 chg:Chg (Mut I) w w'
 ids:I'={ I with ch:=I'.ch,tb:=I'.tb }
 tbn:I'.tb=I.tb∨w.heap.size≤I'.tb
theorem Apd.of {w w1 w':World} {I':Ids} {σ':St} {e:Ev} {E:Int} {cs':List Cg} (hN:0 < σ'.bs.length) (hap:Applied σ e E σ' cs') (hsc:SC w' I' σ' w1.heap.size cs') (hst:Stp { I with ch:=.slice none 0 0 } I' w1 w') (hi:Inv σ' (N+1)) (hl:cs'.length≤60000) (hc:Chg (Mut I) w w1):Apd w w' I I' σ σ' N e E cs':=
 ⟨hap,hsc.done hN,hi,hl,own_base hsc.row hc.size,hc.trans (hst.chg.mono (fun i hi=>hi.elim id (fun h=>by cases h))),hst.ids,hst.tbn.imp id (fun h=>Nat.le_trans hc.size h)⟩
set_option maxHeartbeats 4000000 in
theorem apply_calls (h:StoreAt w I σ) (hI:Inv σ N) (hN:N < 1000) {e:Ev} (hB:EvB e) {cells:Array Value} (he:EvAt w (fun i=>i < w.heap.size∧¬ Mut I i) e cells) :
  Calls Tryz.prog 20 #[.pointer (some ⟨I.p,0,none⟩),.agg cells] w fun z w'=>∃ E I' σ' cs',z=.returned (.tuple #[I'.ch,errV E])∧Apd w w' I I' σ σ' N e E cs':=by
 obtain ⟨va,vc,pa,pc,vw,vwc,aw,ac,bw,bc,rfl,h1,h2,h3,h4,h5,h6,h7,h8⟩:=he;have HH:=lh h;have hpl:=h.blk.lt;have hN1:=hI.wf.may.l1;have hev:EvAt w (fun i=>i < w.heap.size∧¬ Mut I i) e (evC e va vc pa pc vw vwc aw ac bw bc):=⟨va,vc,pa,pc,vw,vwc,aw,ac,bw,bc,rfl,h1,h2,h3,h4,h5,h6,h7,h8⟩;have HV:=lh (And.intro h1 (And.intro h2 (And.intro h3 (And.intro h4 (And.intro h5 (And.intro h6 (And.intro h7 h8)))))));have HI:=lh hI;have HB:=lh hB;clear hI hB;clear h h1 h2 h3 h4 h5 h6 h7 h8 hev;go_enter Tryz.func20,Tryz.ntmps20
 go_upto_region 1 with (fail)
 refine nmC1 ?_;intro W b0 hz hg;obtain ⟨q,hq_q⟩ : ∃ q,q=w.heap.size:=⟨_,rfl⟩;rw [← hq_q] at b0 hz hpl ⊢;have HQ_q:=lh hq_q;clear hq_q;change Blk W q (evC e va vc pa pc vw vwc aw ac bw bc) 68 at b0;have HB0:=lh b0;have HG:=lh hg;clear b0 hg;replace HH:=lh (HH.out.g HG.out);have c13:=HH.out.s13;have f13:=HH.out.blk.fr 13;go_upto_region 2 with (fail)
 have hst:=HH.out.chs (.slice none 0 0);have hgs:=gset W I.p 13 (.slice none 0 0);have hc:=(Chg.of (S:=Mut I) HG.out).trans (Chg.one hgs (.inl rfl));replace HB0:=lh (HB0.out.kept hgs (by simp;omega));generalize W.setCell ⟨I.p,13,none⟩ (.slice none 0 0)=W2 at hst hc HB0 ⊢;clear HH HG hgs c13 f13 hz;have hsc:=SC.start hst (show 0 < σ.bs.length by omega) rfl;have hok : ∀ i,(i < w.heap.size∧¬ Mut I i)→Out { I with ch:=.slice none 0 0 } W2 i:=fun i hi=>⟨Nat.lt_of_lt_of_le hi.1 hc.size,hi.2,fun h=>by cases h⟩;obtain ⟨h1,h2,h3,h4,h5,h6,h7,h8⟩:=HV.out;have g1:=h1.chg hc (fun i hi=>hi.2) hok;have g2':=h2.chg hc (fun i hi=>hi.2) hok;have g3:=h3.chg hc (fun ad e=>(h4 ad e).2);have g4:=fun ad e=>hok _ (h4 ad e);have g5:=h5.chg hc (fun ad e=>(h6 ad e).2);have g7:=h7.chg hc (fun ad e=>(h8 ad e).1.2);have g8:=fun ad e=>(h8 ad e).2;clear HV h1 h2 h3 h4 h5 h6 h7 h8 hok hst;have HH:=lh hsc;have HC:=lh hc;have HV1:=lh g1;have HV2:=lh g2';have HV3:=lh g3;have HV4:=lh g4;have HV5:=lh g5;have HV7:=lh g7;have HV8:=lh g8;clear hsc hc g1 g2' g3 g4 g5 g7 g8;obtain ⟨k,s,r,qq,bs,vs,ps,v,a,b⟩:=e;have hk:=HB.out.k;simp only at hk;have hNp:0 < σ.bs.length:=by omega
 rcases hk with rfl | rfl | rfl | rfl
 ·have d0:W2.cell? ⟨q,0,none⟩=some (.int .i64 0):=HB0.out.at 0;have d1:W2.cell? ⟨q,1,none⟩=some (.int .i64 s):=HB0.out.at 1;go_wp2_with fail
  refine (tick_calls (HH.out.done hNp) s).mono ?_;rintro e w3 ⟨rfl,hst,hcc⟩;have hbs:(tickF σ s).bs=σ.bs:=by unfold tickF;split <;> rfl
  have HF:Hid (Apd w w3 I { I with ch:=.slice none 0 0 } σ (tickF σ s) N ⟨0,s,r,qq,bs,vs,ps,v,a,b⟩ (tickE σ s) []):=lh
   ⟨.inl ⟨rfl,rfl,rfl,rfl⟩,hst,(HI.out.tick s).mono (by omega),by simp,World.ownsRow_nil _ _ _ _,HC.out.trans hcc,rfl,.inl rfl⟩
  have c13:=hst.s13;clear hst hcc d0 d1 HH;go_wp2;go_ret2;exact ⟨tickE σ s,_,_,_,rfl,HF.out⟩
 ·have d0:W2.cell? ⟨q,0,none⟩=some (.int .i64 1):=HB0.out.at 0;have d2:W2.cell? ⟨q,2,none⟩=some (.int .u64 r):=HB0.out.at 2;have d3:W2.cell? ⟨q,3,none⟩=some (.int .u64 qq):=HB0.out.at 3;have d4:W2.cell? ⟨q,4,none⟩=some (.int .i64 bs):=HB0.out.at 4;have d5:W2.cell? ⟨q,5,none⟩=some (.slice va vs.length vc):=HB0.out.at 5;have d6:W2.cell? ⟨q,6,none⟩=some (.slice pa ps.length pc):=HB0.out.at 6;go_wp2_with fail
  refine (prop_calls HH.out HI.out hN HB.out.r HB.out.q HV1.out HV2.out HB.out.vl HB.out.pl HB.out.vs HB.out.ps (by simp)).mono ?_;rintro e w3 ⟨E,rfl,I',σ',cs',hpd,hsc,hst,hinv,hlen⟩;have HF:Hid (Apd w w3 I I' σ σ' N ⟨1,s,r,qq,bs,vs,ps,v,a,b⟩ E cs'):=lh (Apd.of (by have:=hinv.wf.may.l1;omega) (.inr (.inl ⟨rfl,hpd⟩)) hsc hst hinv hlen HC.out);have c13:=HF.out.st.s13;rw [show I'.p=I.p from by rw [HF.out.ids]] at c13;clear hpd hsc hst hinv hlen d0 d2 d3 d4 d5 d6 HH;go_wp2;go_ret2;exact ⟨E,_,_,_,rfl,HF.out⟩
 ·have d0:W2.cell? ⟨q,0,none⟩=some (.int .i64 2):=HB0.out.at 0;have hvb:=HB.out.v;obtain ⟨x0,x1,x2,x3,x4,x5,xs⟩:=v;simp only at hvb;have d7:W2.cell? ⟨q,7,none⟩=some (.int .i64 x0):=HB0.out.at 7;have d8:W2.cell? ⟨q,8,none⟩=some (.int .u64 x1):=HB0.out.at 8;have d9:W2.cell? ⟨q,9,none⟩=some (.int .i64 x2):=HB0.out.at 9;have d10:W2.cell? ⟨q,10,none⟩=some (.int .u64 x3):=HB0.out.at 10;have d11:W2.cell? ⟨q,11,none⟩=some (.int .i64 x4):=HB0.out.at 11;have d12:W2.cell? ⟨q,12,none⟩=some (.int .u64 x5):=HB0.out.at 12;have d13:W2.cell? ⟨q,13,none⟩=some (.slice vw xs.length vwc):=HB0.out.at 13;have HVB:=lh hvb;clear hvb;go_wp2_with fail
  have hwl:=HVB.out.who;have hsl:=HVB.out.sl;simp only at hwl hsl;refine (attest_calls (v:=⟨x0,x1,x2,x3,x4,x5,xs⟩) HH.out HI.out.wf false HV3.out HV4.out HVB.out.hd (by show x0≤_;omega) (by show xs.length≤_;omega) (by simp)).mono ?_;rintro e w3 ⟨rfl,ch,hsc,hst⟩;have hal:=attC_len σ [] ⟨x0,x1,x2,x3,x4,x5,xs⟩ false;simp only [List.length_nil] at hal;have HF:Hid (Apd w w3 I { I with ch:=ch } σ { σ with V:=(attC σ [] ⟨x0,x1,x2,x3,x4,x5,xs⟩ false).1 } N ⟨2,s,r,qq,bs,vs,ps,⟨x0,x1,x2,x3,x4,x5,xs⟩,a,b⟩ (attE σ ⟨x0,x1,x2,x3,x4,x5,xs⟩ false) (attC σ [] ⟨x0,x1,x2,x3,x4,x5,xs⟩ false).2):=
   lh (Apd.of hNp (.inr (.inr (.inl ⟨rfl,rfl,rfl,rfl⟩))) hsc hst ((HI.out.att HVB.out.hd).mono (by omega)) (by omega) HC.out)
  have c13:=HF.out.st.s13;obtain ⟨EE,hEE⟩ : ∃ EE,EE=attE σ ⟨x0,x1,x2,x3,x4,x5,xs⟩ false:=⟨_,rfl⟩;rw [← hEE] at HF ⊢;clear hsc hst d0 d7 d8 d9 d10 d11 d12 d13 HH hEE hal;go_wp2;go_ret2;exact ⟨EE,_,_,_,rfl,HF.out⟩
 ·have d0:W2.cell? ⟨q,0,none⟩=some (.int .i64 3):=HB0.out.at 0;go_wp2_with (refine wpList_load_blk (off:=14) HB0.out rfl _ rfl rfl _ Tryz.underlying66 rfl (prC a b aw bw ac bc) (by as_aux_lemma=>kernel_rfl) rfl ?_)
  have hwa:=HB.out.a;have hwb:=HB.out.b;simp only at hwa hwb;have hal:=hwa.who;have hbl:=hwb.who;have has:=hwa.sl;have hbs:=hwb.sl;refine (slash_calls HH.out HI.out.wf HV5.out HV7.out HV8.out (by omega) (by omega) (by omega) (by omega) (by simp)).mono ?_;rintro e w3 ⟨rfl,ch,hsc,hst⟩;have hl1:=banAll_len (shownF σ.bs.length σ.S a b) σ.V [];have hl2:=shownF_len (N:=σ.bs.length) (S:=σ.S) (a:=a) (b:=b);simp only [List.length_nil] at hl1;have HF:Hid (Apd w w3 I { I with ch:=ch } σ { σ with V:=(banAll σ.V [] (shownF σ.bs.length σ.S a b)).1 } N ⟨3,s,r,qq,bs,vs,ps,v,a,b⟩ (shownE σ.bs.length σ.S a b) (banAll σ.V [] (shownF σ.bs.length σ.S a b)).2):=
   lh (Apd.of hNp (.inr (.inr (.inr ⟨rfl,rfl,rfl,rfl⟩))) hsc hst ((HI.out.ban _).mono (by omega)) (by omega) HC.out)
  have c13:=HF.out.st.s13;obtain ⟨EE,hEE⟩ : ∃ EE,EE=shownE σ.bs.length σ.S a b:=⟨_,rfl⟩;rw [← hEE] at HF ⊢;clear hsc hst d0 HH hEE hal hbl has hbs hl1 hl2 hwa hwb;go_wp2;go_ret2;exact ⟨EE,_,_,_,rfl,HF.out⟩
end
def tput (f:Nat→Int) (k:Nat) (v:Int):Nat→Int:=fun i=>if i=k then v else f i
def cutK (X:Nat→Nd) (has:Int→Bool):Nat→Nat×(Nat→Nd)×(Nat→Int)
 | 0=>(0,fun _=>⟨0,0,0,0,0⟩,fun _=>0)
 | k+1=>
  if has (X k).r then ((cutK X has k).1+1,nset (cutK X has k).2.1 (cutK X has k).1 { X k with p:=if 0≤(X k).p then (cutK X has k).2.2 (X k).p.toNat else (X k).p },tput (cutK X has k).2.2 k (cutK X has k).1)
  else ((cutK X has k).1,(cutK X has k).2.1,tput (cutK X has k).2.2 k (-1))
def cutA (α:Arr) (has:Int→Bool):Arr:={ α with n:=(cutK α.X has α.n).1,X:=(cutK α.X has α.n).2.1 }
section
variable {X:Nat→Nd} {has:Int→Bool}
theorem cutK_le : ∀ k,(cutK X has k).1≤k
 | 0=>Nat.le_refl 0
 | k+1=>by
  have:=cutK_le k;unfold cutK;split <;> simp only <;> omega
theorem cutK_to : ∀ k i,i < k→-1≤(cutK X has k).2.2 i∧(cutK X has k).2.2 i < (cutK X has k).1
 | 0,_,h=>by omega
 | k+1,i,h=>by
  have ih:=fun hi=>cutK_to k i hi;unfold cutK;split
  ·simp only [tput];split
   ·omega
   ·have:=ih (by omega);omega
  ·simp only [tput];split
   ·omega
   ·exact ih (by omega)
theorem cutK_par {n:Nat} (hp:ParOk X n) : ∀ k,k≤n→ParOk (cutK X has k).2.1 (cutK X has k).1
 | 0,_=>fun i hi=>by
  have : i < 0:=hi;omega
 | k+1,hk=>by
  have ih:=cutK_par hp k (by omega);have hpk:=hp k (by omega);have hle:=cutK_le (X:=X) (has:=has) k;unfold cutK;split
  ·intro i hi;simp only at hi ⊢;unfold nset;by_cases e:i=(cutK X has k).1
   ·rw [if_pos e];simp only;split
    ·have h:=cutK_to (X:=X) (has:=has) k (X k).p.toNat (by omega);omega
    ·omega
   ·rw [if_neg e];exact ih i (by omega)
  ·exact ih
theorem cutK_root {n:Nat} (hr:RootOk X n) : ∀ k,k≤n→RootOk (cutK X has k).2.1 (cutK X has k).1
 | 0,_=>fun i hi=>by
  have : i < 0:=hi;omega
 | k+1,hk=>by
  have ih:=cutK_root hr k (by omega);have hrk:=hr k (by omega);unfold cutK;split
  ·intro i hi;simp only at hi ⊢;unfold nset;by_cases e:i=(cutK X has k).1
   ·rw [if_pos e];exact hrk
   ·rw [if_neg e];exact ih i (by omega)
  ·exact ih
theorem cutK_keeps {r:Int} (hr:has r=true) : ∀ k i,i < k→(X i).r=r→∃ j,j < (cutK X has k).1∧((cutK X has k).2.1 j).r=r
 | 0,_,h,_=>by omega
 | k+1,i,h,hi=>by
  unfold cutK;by_cases e:i=k
  ·subst e;rw [if_pos (by rw [hi];exact hr)];refine ⟨(cutK X has i).1,by simp,?_⟩;simp only [nset,if_true];exact hi
  ·obtain ⟨j,h1,h2⟩:=cutK_keeps hr k i (by omega) hi;split
   ·refine ⟨j,by simp only;omega,?_⟩;simp only [nset];rw [if_neg (by omega)];exact h2
   ·exact ⟨j,h1,h2⟩
end
section
variable {w w':World} {I:Ids} {σ:St} {J:AIds} {α:Arr}
set_option maxHeartbeats 4000000 in
theorem acut_calls (h:StoreAt w I σ) (hm:MayBe σ.bs σ.S σ.B) (ha:ArrAt w J I.p α) (hx:I.ex=AOwn J) (hp:ParOk α.X α.n) (hr:RootOk α.X α.n) (hn:α.n≤2000) {β:Arr} (hβ:β=passF α (boostF σ.bs σ.S σ.B) σ.boosted)
  (hk:0 < (cutK β.X (fun r=>(σ.F r).isSome) β.n).1) :
  Calls Tryz.prog 160 #[.pointer (some ⟨J.q,0,none⟩)] w fun e w'=>e=.returned (.tuple #[])∧∃ g c,ArrAt w' { J with g:=g,c:=c } I.p (cutA β fun r=>(σ.F r).isSome)∧StoreAt w' { I with ex:=AOwn { J with g:=g,c:=c } } σ∧Chg (AOwn J) w w'∧w.heap.size≤g:=by
 have HH:=lh h;have HA:=lh ha;have hβn:β.n=α.n:=by rw [hβ];rfl
 have hpo:ParOk β.X β.n:=by rw [hβn];exact hp.same (fun i=>by rw [hβ];exact passF_p _ _ _ i)
 have hro:RootOk β.X β.n:=by rw [hβn];exact fun i hi=>by rw [hβ,passF_r];exact hr i hi
 rw [← hβn] at hn;have HM:=lh hm;have HX:=lh hx;have HP:=lh hp;have HB:=lh hβ;have HPO:=lh hpo;have HRO:=lh hro;have HK:=lh hk;clear hm hx hp hβ hpo hro hk;clear h ha hβn;go_enter Tryz.func160,Tryz.ntmps160
 go_wp2_with fail
 refine (pass_calls HH.out HM.out HA.out (fun i hi=>by rw [HX.out];exact hi) HP.out).mono ?_;rintro e w1 ⟨rfl,ha,hc⟩;rw [← HB.out] at ha;replace HH:=lh (HH.out.exch hc (fun i hi=>by rw [HX.out];exact hi));clear HA;have HA:=lh ha;have HG:=lh hc;clear ha hc;obtain ⟨X,hX⟩ : ∃ X,X=β.X:=⟨_,rfl⟩;have HXX:=lh hX;clear hX;have hmk:=run_make_row' (P:=Tryz.prog) 62 3 (.int .i64 0) 8 Tryz.underlying62 info_int rfl .i64 .i64 β.n (by omega) (by omega);obtain ⟨a0,a1,a2⟩:=HA.out.blk.c3;go_upto_region 2 with (fail)
 have h0:ORow (w1.alloc (Obj.cells (madeCells #[Value.int IntKind.i64 0] β.n) 3)) w1.heap.size β.n (fun _=>0):=(World.rowIs_made w1 (.int .i64 0) β.n 3).congr (fun i _=>by simp);have hg:=World.grownBy_alloc w1 (Obj.cells (madeCells #[Value.int IntKind.i64 0] β.n) 3) none;clear hmk a0 a1 a2;generalize w1.alloc (Obj.cells (madeCells #[Value.int IntKind.i64 0] β.n) 3)=w2 at h0 hg ⊢;obtain ⟨q,hq⟩ : ∃ q,q=w1.heap.size:=⟨_,rfl⟩;rw [← hq] at h0 ⊢;have hqs:w.heap.size≤q:=by rw [hq];exact HG.out.size
 have hqw:q < w2.heap.size:=Go.World.rowIs.lt h0;have hqa:q≠J.q∧q≠J.g:=by have h1:=HA.out.blk.lt;have h2:=HA.out.row.lt;omega
 have hqp:I.p < w2.heap.size:=Nat.lt_of_lt_of_le HH.out.blk.lt hg.size;have HH1:=HH;have HA1:=HA;have HG12:=lh (And.intro hg (Nat.le_of_eq hq.symm));replace HH:=lh (HH.out.g hg);replace HA:=lh (HA.out.kept0 hg);replace HG:=lh (HG.out.trans (Chg.of hg));have H0:=lh h0;clear hg h0 hq;go_upto_region 3 with (fail)
 obtain ⟨a0,a1,a2⟩:=HA.out.blk.c3;go_wp2_with fail
 clear a0 a1 a2;obtain ⟨has,hhas⟩ : ∃ has:Int→Bool,has=fun r=>(σ.F r).isSome:=⟨_,rfl⟩;rw [← hhas] at HK;have HHAS:=lh hhas
 go_loopw [19,3] (fun v19 v3 wr=>∃ (j:Nat),v19=.int .i64 (j:Int)∧j≤β.n∧ORow wr q β.n (cutK X has j).2.2∧wr.ownsRow w2.heap.size 150 5 v3 (cutK X has j).1 (rowsOf (cutK X has j).2.1 (cutK X has j).1)∧w2.grownBy wr (some q)) (fun v19 _ _=>β.n - (intOf v19).toNat)
 case atStart=>exact ⟨0,rfl,by omega,H0.out,World.ownsRow_nil _ _ _ _,gR _ _⟩
 case round=>
  obtain ⟨j,rfl,hj,ho,hw,hg⟩:=hrel;have HO:=lh ho;have HW:=lh hw;have HGR:=lh hg;clear ho hw hg;by_cases hlt:j < β.n
  ·have hrow:=HA.out.row.kept HGR.out (by simp;exact hqa.2);obtain ⟨n0,n1,n2,n3,n4⟩:=hrow.c5 hlt;have hin:=HRO.out j hlt;have hpj:=HPO.out j hlt;have hto:=cutK_to (X:=X) (has:=has) j;have hle:=cutK_le (X:=X) (has:=has) j;have hnx:cutK X has (j+1)=if has (X j).r then ((cutK X has j).1+1,nset (cutK X has j).2.1 (cutK X has j).1 { X j with p:=if 0≤(X j).p then (cutK X has j).2.2 (X j).p.toNat else (X j).p },tput (cutK X has j).2.2 j (cutK X has j).1)
    else ((cutK X has j).1,(cutK X has j).2.1,tput (cutK X has j).2.2 j (-1)):=rfl
   rw [← HXX.out] at n0 n1 n2 n3 n4 hin hpj;obtain ⟨Z,hZ⟩ : ∃ Z,Z=cutK X has j:=⟨_,rfl⟩;rw [← hZ] at HO HW hto hle hnx;obtain ⟨m,Y,T⟩:=Z;simp only at HO HW hto hle hnx;obtain ⟨x,hxe⟩ : ∃ x,x=X j:=⟨_,rfl⟩;rw [← hxe] at n0 n1 n2 n3 n4 hin hpj hnx;obtain ⟨x0,x1,x2,x3,x4⟩:=x;simp only at n0 n1 n2 n3 n4 hin hpj hnx;have HNX:=lh hnx;have HTO:=lh hto;clear hZ hxe hnx hrow hto;go_upto_region 6 with (fail)
   clear n0 n1 n2 n3 n4;refine nmC1 ?_;intro W5 b5 hz5 hg5;have hq5:q < wr.heap.size:=Go.World.rowIs.lt HO.out;have hw2:=HGR.out.size;have hr5 : ∀ k,k=wr.heap.size→u3.ownBlock≠some k:=fun k e1 e=>by have:=(HW.out.lt _ e).2;omega
   obtain ⟨q5,hq_q5⟩ : ∃ q,q=wr.heap.size:=⟨_,rfl⟩;rw [← hq_q5] at b5 hz5 hq5 hw2 ⊢;have HQ_q5:=lh hq_q5;clear hq_q5;have HB5:=lh b5;have HR5:=lh (hr5 q5 HQ_q5.out);clear hr5;replace HO:=lh (HO.out.kept hg5 (by simp));replace HW:=lh (ownsRow_g HW.out hg5);replace HGR:=lh (HGR.out.andThen hg5 (fun _ e=>by cases e));clear hg5 hz5 b5;have hc:=Go.World.rowIs.cell HO.out hlt;have hf:=Go.World.rowIs.frozen HO.out j;go_upto_region 7 with (fail)
   have hset:=ORow.set HO.out j (-1);have hgs:=gset W5 q j (.int .i64 (-1));replace HB5:=lh (HB5.out.kept hgs (by simp;omega));replace HW:=lh (ownsRow_old HW.out hgs hqw);replace HGR:=lh (HGR.out.andThen hgs (fun _ e=>.inr e));generalize W5.setCell ⟨q,j,none⟩ (.int .i64 (-1))=W6 at hset hgs HB5 HW HGR ⊢;have hT:bset T j (-1)=tput T j (-1):=rfl;rw [hT] at hset;clear HO hc hf hgs hT;have HO:=lh hset;clear hset;obtain ⟨K,hK⟩ : ∃ K,K=has x0:=⟨_,rfl⟩;have hK2:K=(σ.F x0).isSome:=by rw [hK,HHAS.out]
   rw [← hK] at HNX;have HK2:=lh hK2;clear hK hK2
   go_cut [37] (fun s37 wx=>s37=.bool (!K)∧W6.grownBy wx none)
   case first=>
    have HGX:=lh (gdrew (gR W6 none));have hgw:w1.grownBy W6 none:=HG12.out.1.andThen HGR.out (fun k e=>.inl (by cases e;exact HG12.out.2));have HHx:=lh ((HH1.out.g hgw).g (gdrew (gR W6 none)));have HAx:=lh ((HA1.out.kept0 hgw).kept0 (gdrew (gR W6 none)));replace HB5:=lh (HB5.out.g (gdrew (gR _ none)));clear hgw;have a0:_=some (Value.pointer (some ⟨I.p,0,none⟩)):=HAx.out.blk.at 0;have c3:=HHx.out.s3;have d0:=HB5.out.at 0
    go_region_held3 (fun w'=>w'.cell? ⟨J.q,0,none⟩=some (.pointer (some ⟨I.p,0,none⟩))∧w'.cell? ⟨I.p,3,none⟩=some (.pointer (some ⟨I.tp,0,none⟩))∧w'.cell? ⟨q5,0,none⟩=some (.int .u64 x0)) (go_keep)
     (first
       | (go_at_call 66
          refine (thas_calls HHx.out.tree hin).mono ?_;rintro e wg ⟨rfl,hgg⟩;rw [← HK2.out];replace HHx:=lh (HHx.out.g hgg);replace HAx:=lh (HAx.out.kept0 hgg);replace HB5:=lh (HB5.out.g hgg);replace HGX:=lh (g2 HGX.out hgg);clear hgg a0 c3 d0;have a0:_=some (Value.pointer (some ⟨I.p,0,none⟩)):=HAx.out.blk.at 0;have c3:=HHx.out.s3;have d0:=HB5.out.at 0))
    all_goals
     go_wp2_with fail
     go_meet
     exact ⟨rfl,HGX.out⟩
   case rest=>
    obtain ⟨rfl,hgg⟩:=hcut;replace HO:=lh (HO.out.kept hgg (by simp));replace HW:=lh (ownsRow_g HW.out hgg);replace HGR:=lh (HGR.out.andThen hgg (fun _ e=>by cases e));replace HB5:=lh (HB5.out.g hgg);clear hgg;cases K
    ·simp only [Bool.not_false];go_wp2_with fail
     have hn:=HNX.out;simp only [Bool.false_eq_true,if_false] at hn;exact ⟨⟨j+1,by simp,by omega,by rw [hn];exact HO.out,by rw [hn];exact HW.out,HGR.out⟩,by simp [intOf];omega⟩
    ·simp only [Bool.not_true];have hlen:=len_own HW.out Tryz.underlying108 3;have hc:=Go.World.rowIs.cell HO.out hlt;have hf:=Go.World.rowIs.frozen HO.out j;go_upto_region 9 with (fail)
     have hset:=ORow.set HO.out j (m:Int);have hgs:=gset wc q j (.int .i64 (m:Int));replace HB5:=lh (HB5.out.kept hgs (by simp;omega));replace HW:=lh (ownsRow_old HW.out hgs hqw);replace HGR:=lh (HGR.out.andThen hgs (fun _ e=>.inr e));generalize wc.setCell ⟨q,j,none⟩ (.int .i64 (m:Int))=W7 at hset hgs HB5 HW HGR ⊢;have hT:bset (tput T j (-1)) j (m:Int)=tput T j (m:Int):=by
      funext i;unfold bset tput;by_cases e:i=j <;> simp [e]
     rw [hT] at hset;clear HO hc hf hgs hT hlen;have HO:=lh hset;clear hset;obtain ⟨y1,hy1⟩ : ∃ y1,y1=if 0≤x1 then T x1.toNat else x1:=⟨_,rfl⟩;have hn:=HNX.out;simp only [if_true] at hn;rw [← hy1] at hn;have HN2:=lh hn;have HY1:=lh hy1;clear hn hy1 HNX;have d1:W7.cell? ⟨q5,1,none⟩=some (.int .i64 x1):=HB5.out.at 1;go_upto_if 45 with (fail)
     go_cut [] (fun wx=>Blk wx q5 #[.int .u64 x0,.int .i64 y1,.int .u64 x2,.int .u64 x3,.int .u64 x4] 150∧W7.grownBy wx (some q5))
     case first=>
      have f1:W7.frozen? ⟨q5,1,none⟩=false:=HB5.out.fr 1;by_cases hx1:0≤x1
      ·have hy:=HY1.out;rw [if_pos hx1] at hy;obtain ⟨i,hi⟩ : ∃ i:Nat,x1=(i:Int):=⟨x1.toNat,by omega⟩;subst hi;rw [Int.toNat_natCast] at hy;have hij:i < β.n:=by omega
       have hc:=Go.World.rowIs.cell HO.out hij;have hti:tput T j (m:Int) i=y1:=by
        unfold tput;rw [if_neg (by omega),hy]
       simp only [hti] at hc;have HTI:=lh hy;clear hy hti;go_wp2_with fail
       go_meet
       obtain ⟨t1,_,t3⟩:=sto1 1 (.int .i64 y1) HB5.out;simp only [List.setIfInBounds_toArray,List.set_cons_zero,List.set_cons_succ] at t1;exact ⟨t1,t3⟩
      ·have hy:=HY1.out;rw [if_neg hx1] at hy;subst hy;go_wp2_with fail
       go_meet
       exact ⟨HB5.out,gR _ _⟩
     case rest=>
      obtain ⟨hb5,hgg⟩:=hcut;replace HO:=lh (HO.out.kept hgg (by simp;omega));replace HW:=lh (HW.out.kept hgg (.inr HR5.out));replace HGR:=lh (HGR.out.andThen hgg (fun k e=>.inl (by cases e;omega)));clear HB5 hgg;have HB5:=lh hb5;clear hb5;obtain ⟨i0,hi0⟩:=elem_nd;have HI:=lh hi0;clear hi0;obtain ⟨b0,b1,b2,b3,b4⟩:=HB5.out.c5;have hm1:=HGR.out.size;go_upto_region 11 with (fail)
      go_wp2_with (at_builtin;refine wpList_push rfl _ _ 108 rfl w2.heap.size 150 i0 (.agg #[.int .u64 0,.int .i64 0,.int .u64 0,.int .u64 0,.int .u64 0]) 5 40 Tryz.underlying108 HI.out rfl (by decide) _ m (rowsOf Y m) rfl HW.out rfl rfl (by simp [Value.oneCell']) (by unfold maxLen;omega) (by omega) HGR.out.size ?_;intro v8 w8 h8 hg8;have H8:=lh h8;have HG8:=lh hg8;clear h8 hg8)
      have hn:=HN2.out;refine ⟨⟨j+1,by simp,by omega,?_,?_,?_⟩,by simp [intOf];omega⟩
      ·rw [hn];exact HO.out.kept HG8.out (fun e=>by have:=(HW.out.lt _ e).1;omega)
      ·rw [hn];simp only;rw [rowsOf_succ,rowsOf_congr m (X:=nset Y m ⟨x0,y1,x2,x3,x4⟩) (Y:=Y) (fun i hi=>by unfold nset;rw [if_neg (by omega)])];simp only [nset,if_true];exact H8.out
      ·exact HGR.out.andThen HG8.out (fun k e=>.inl (HW.out.lt k e).1)
  ·have hje:j=β.n:=by omega
   subst hje;have hm:=HK.out;rw [← HXX.out] at hm;obtain ⟨g,c,hv,hgb⟩:=HW.out.form hm;subst hv;have hgw:w1.grownBy wr none:=HG12.out.1.andThen HGR.out (fun k e=>.inl (by cases e;exact HG12.out.2));have hst:=HH1.out.g hgw;have hat:=HA1.out.kept0 hgw;have hcg:Chg (AOwn J) w wr:=by
    have h:=HG.out;exact h.then (Chg.one HGR.out (S:=fun i=>i=q) rfl) (fun i e=>.inr (by rw [e];exact hqs))
   have hcn:Chg (AOwn J) w1 wr:=Chg.of hgw;have a1:=hat.blk.at 1;have f1:wr.frozen? ⟨J.q,1,none⟩=false:=hat.blk.fr 1;have hql:=hat.blk.lt;have hql2:=HA1.out.blk.lt;have hww:=HG12.out.1.size;have HST:=lh hst;have HAT:=lh hat;have HCG:=lh hcg;clear hst hat hcg;have hN0:0 < σ.bs.length:=by have:=HM.out.l1;omega
   have HCN:=lh hcn;clear hcn;clear hgw;go_wp2_with fail
   go_end0
   obtain ⟨t1,_,t3⟩:=sto1 1 (.slice (some ⟨g,0,none⟩) (cutK X has β.n).1 c) HAT.out.blk;simp only [List.setIfInBounds_toArray,List.set_cons_zero,List.set_cons_succ] at t1;rw [HHAS.out] at t1 t3 HW;have hgj:J.q≠g:=by omega
   have hle:=cutK_le (X:=X) (has:=fun r=>(σ.F r).isSome) β.n;have hrow:=HW.out.kept t3 (.inr (by simpa [Value.ownBlock] using fun e=>hgj e.symm));refine ⟨rfl,g,c,⟨?_,?_,hgj,?_⟩,?_,HCG.out.trans (Chg.one t3 (.inl rfl)),by have:=HG.out.size;omega⟩
   ·unfold cutA;rw [← HXX.out];exact t1
   ·unfold cutA;rw [← HXX.out];exact NAt.of_owns hrow
   ·show (cutK β.X _ β.n).1≤100000;rw [← HXX.out];omega
   ·refine HH1.out.reex hN0 (by rw [HX.out];exact HCN.out.trans (Chg.one t3 (.inl rfl))) _ (fun i hi=>?_) (fun i hi=>?_)
    ·rcases hi with hi | hi
     ·left;rw [HX.out];exact .inl hi
     ·right;rw [hi];show w1.heap.size≤g;omega
    ·have hz:=t3.size;rcases hi with hi | hi
     ·rw [hi];show J.q < _;omega
     ·rw [hi];show g < _;omega
end
end Go.Proofs.YtndfpmboanohcaaGreatDoor
