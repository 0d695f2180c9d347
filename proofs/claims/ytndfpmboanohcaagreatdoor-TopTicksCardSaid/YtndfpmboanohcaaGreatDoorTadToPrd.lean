/- Contract of (*tree.Tree).Add at a block that is not taken. -/
import Derived.Test.YtndfpmboanohcaaGreatDoorRaiToInv
import Derived.Test.YtndfpmboanohcaaGreatDoorCou
namespace Go.Proofs.YtndfpmboanohcaaGreatDoor
set_option maxRecDepth 100000
open Go.RowKit Go.Maps SkipPure
def taddE (F:Int→Option (Int×Int×Int)) (n:Nat) (r q s:Int):Int:=
 if (F r).isSome then 6 else if ¬ (F q).isSome then 5 else if s≤((F q).getD (0,0,0)).2.1 then 7 else if 1024≤n then 12 else 0
section
variable {w:World} {p b n:Nat} {f:Int} {F:Int→Option (Int×Int×Int)}
theorem look_node (h:TreeAt w p b n f F) {q:Int} (hq:inU q):(Instr.lookup 169 (.map (some b)) (.int .u64 q) true).run Tryz.prog w=.ok (.tuple #[tnode ((F q).getD (0,0,0)),.bool (F q).isSome]) w:=by
 have hl:=h.2.2.look_ok Tryz.underlying27 Tryz.underlying169 (zero62 w) hq;unfold tfun at hl;cases hF:F q with
 | none=>rw [hF] at hl;exact hl
 | some x=>rw [hF] at hl;exact hl
theorem tadd_fails (h:TreeAt w p b n f F) {r q s:Int} (hr:inU r) (hq:inU q) (hE:taddE F n r q s≠0) :
  Calls Tryz.prog 50 #[.pointer (some ⟨p,0,none⟩),.int .u64 r,.int .u64 q,.int .i64 s] w fun e w'=>e=.returned (errV (taddE F n r q s))∧w.grownBy w' none:=by
 have c1:w.cell? ⟨p,1,none⟩=some (.map (some b)):=by simp [World.cell?,h.2.1]
 have hl:=look_node h hq;have HH:=lh h;clear h;unfold taddE at hE ⊢;obtain ⟨y,hy⟩ : ∃ y,y=(F q).getD (0,0,0):=⟨_,rfl⟩;rw [← hy] at hl hE ⊢;clear hy;obtain ⟨y0,y1,y2⟩:=y;obtain ⟨B,hB⟩ : ∃ B,B=(F q).isSome:=⟨_,rfl⟩;rw [← hB] at hl hE ⊢;clear hB;obtain ⟨H,hH⟩ : ∃ H,H=(F r).isSome:=⟨_,rfl⟩;rw [← hH] at hE ⊢;have HHS:=lh hH;clear hH;unfold tnode at hl;simp only at hl hE ⊢;have HE:=lh hE;clear hE;go_enter Tryz.func50,Tryz.ntmps50
 go_wp2_with fail
 have h':=HH.out.kept (World.grownBy_alloc w (Obj.cells #[.int .u64 y0,.int .i64 y1,.int .i64 y2] 168) none) (by simp);have hblk:=(MapKept.heap_alloc w (Obj.cells #[.int .u64 y0,.int .i64 y1,.int .i64 y2] 168)).1;have HBLK:=lh hblk;have HH':=lh h';clear h' hblk hl;refine (thas_calls HH'.out hr).mono ?_;rintro e w1 ⟨rfl,hg⟩;rw [← HHS.out];have hb1:=(hg.block w.heap.size (by simp) (by simp)).trans HBLK.out;have q1:w1.cell? ⟨w.heap.size,1,none⟩=some (.int .i64 y1):=by simp [World.cell?,hb1]
 have h1':=HH'.out.kept hg (by simp);have c1':w1.cell? ⟨p,1,none⟩=some (.map (some b)):=by simp [World.cell?,h1'.2.1]
 have hlen:=h1'.2.2.len Tryz.underlying169 3;have HG:=lh ((World.grownBy_alloc w (Obj.cells #[.int .u64 y0,.int .i64 y1,.int .i64 y2] 168) none).andThen hg (fun j e=>by cases e));clear h1' hg hb1;cases H
 ·cases B
  ·go_wp2;go_ret;exact ⟨rfl,HG.out⟩
  ·by_cases hs:s≤y1
   ·go_wp2;go_ret;refine ⟨?_,HG.out⟩;simp [errV]
   ·have hn:(1024:Int)≤(n:Int):=by
     have:=HE.out;simp [hs] at this;omega
    have hn2:1024≤n:=by omega
    go_wp2;go_ret;refine ⟨?_,HG.out⟩;simp [errV]
 ·go_wp2;go_ret;exact ⟨rfl,HG.out⟩
end
theorem run_storeVar_slot {P:Program} {w:World} {g i:Nat} {v old:Value} {ty:TypeId} (hc:w.cell? ⟨g,i,none⟩=some old) (hf:w.frozen? ⟨g,i,none⟩=false) (hv:v.cells=#[v]) (h1:v.oneCell'=true) (hi:(P.info? ty).map (·.size)=some 1) :
  (storeVar ty ⟨g,i,none⟩ v).run P w=.ok () (w.setCell ⟨g,i,none⟩ v):=by
 cases hq:P.info? ty with
 | none=>simp [hq] at hi
 | some inf=>
  have hs:inf.size=1:=by simpa [hq] using hi
  simp [storeVar,sizeOf,typeInfo,hq,hs,hv,storeCells,Sem.run_bind,Result.andThen,Addr.add,run_store P w _ v _ h1,hc,hf]
theorem step_store_slot {P:Program} {ops:Array Oper} {o:Oper} {a:Act} {w:World} {K:Act→World→Prop} {Q:Exit→Act→World→Prop} {E:Prop} {g i:Nat} {v old:Value} {ty:TypeId} (hc:w.cell? ⟨g,i,none⟩=some old) (hf:w.frozen? ⟨g,i,none⟩=false) (hgd:o.guard=none)
  (ho : ∃ x y,o.op=.store ty x y∧a.eval x=.pointer (some ⟨g,i,none⟩)∧a.eval y=v) (hv:v.cells=#[v]) (h1:v.oneCell'=true) (hi:(P.info? ty).map (·.size)=some 1)
  (hK:K (a.put o.dst undef) (w.setCell ⟨g,i,none⟩ v)):if Region.wanted o (yielded ops a.tmps)=true then Oper.wp P o a w K Q else E:=by
 have hw:Region.wanted o (yielded ops a.tmps)=true:=by simp [Region.wanted,hgd]
 rw [if_pos hw];obtain ⟨x,y,ho,hx,hy⟩:=ho;unfold Oper.wp execOp;simp only [ho,hx,hy,Instr.storeAt,Instr.sureAddr,Sem.run_bind,Sem.run_pure,Result.andThen_ok,run_storeVar_slot hc hf hv h1 hi];exact hK
def propT (σ:St) (r q s:Int):Int→Option (Int×Int×Int):=tset σ.F r (q,s,(getT σ.F q).2.2+1)
def propX0 (σ:St) (r q s:Int) (x:Led):Led:=advF σ.bs σ.S (propT σ r q s) σ.f r x s
def propX (σ:St) (r q s:Int) (vs:List Vt) (x:Led):Led:=vs.foldl (cntF σ.bs.length σ.S (propT σ r q s) σ.f r) (propX0 σ r q s x)
def propA (σ:St) (r q s:Int) (X:Led):St:={ σ with n:=σ.n+1,F:=propT σ r q s,L:=ledSet σ.L r X }
def attStep (p:St×List Cg) (v:Vt):St×List Cg:=({ p.1 with V:=(attC p.1 p.2 v true).1 },(attC p.1 p.2 v true).2)
def slaStep (p:St×List Cg) (ab:Vt×Vt):St×List Cg:=({ p.1 with V:=(banAll p.1.V p.2 (shownF p.1.bs.length p.1.S ab.1 ab.2)).1 },(banAll p.1.V p.2 (shownF p.1.bs.length p.1.S ab.1 ab.2)).2)
def propB (σ:St) (cs:List Cg) (r q s:Int) (X:Led) (vs:List Vt):St×List Cg:=vs.foldl attStep (propA σ r q s X,cs++[⟨0,r,q,0,0,false⟩])
def propC (σ:St) (cs:List Cg) (r q s:Int) (X:Led) (vs:List Vt) (ps:List (Vt×Vt)):St×List Cg:=ps.foldl slaStep (propB σ cs r q s X vs)
def boostS (σ:St) (r s:Int):St:={ σ with boosted:=if s=σ.slot∧σ.boosted=0 then r else σ.boosted }
def PropEnd (σ:St) (r s:Int) (X:Led) (σe:St) (cse:List Cg) (σ':St) (cs':List Cg):Prop:=
 if eOf s σ.S < eOf σ.slot σ.S then Raised σe cse (pullF σe.bs σe.S σe.F σe.f r X).ce (pullF σe.bs σe.S σe.F σe.f r X).cr (pullF σe.bs σe.S σe.F σe.f r X).fe (pullF σe.bs σe.S σe.F σe.f r X).fr σ' cs' else σ'=σe∧cs'=cse
def PropOk (σ:St) (cs:List Cg) (r q s:Int) (vs:List Vt) (ps:List (Vt×Vt)) (σ':St) (cs':List Cg):Prop:=
 ∃ x σe cse,σ.L q=some x∧LedBd (propX σ r q s vs x) ∧
  Raised (boostS (propC σ cs r q s (propX σ r q s vs x) vs ps).1 r s) (propC σ cs r q s (propX σ r q s vs x) vs ps).2 (propX σ r q s vs x).j.ce (propX σ r q s vs x).j.cr (propX σ r q s vs x).j.fe (propX σ r q s vs x).j.fr σe cse ∧
  PropEnd σ r s (propX σ r q s vs x) σe cse σ' cs'
def Propd (σ:St) (cs:List Cg) (r q s:Int) (vs:List Vt) (ps:List (Vt×Vt)) (E:Int) (σ':St) (cs':List Cg):Prop:=
 (σ.slot < s∧E=4∧σ'=σ∧cs'=cs)∨(s≤σ.slot∧r=0∧E=13∧σ'=σ∧cs'=cs)∨(s≤σ.slot∧r≠0∧σ.gone r∧E=6∧σ'=σ∧cs'=cs) ∨
 (s≤σ.slot∧r≠0∧¬ σ.gone r∧taddE σ.F σ.n r q s≠0∧E=taddE σ.F σ.n r q s∧σ'=σ∧cs'=cs) ∨
 (s≤σ.slot∧r≠0∧¬ σ.gone r∧taddE σ.F σ.n r q s=0∧E=0∧PropOk σ cs r q s vs ps σ' cs')
structure VtB (v:Vt):Prop where
 hd:inU v.hd
 sl:v.sl≤1099511627776
 who:v.who.length≤1000
def vt0:Vt:=⟨0,0,0,0,0,0,[]⟩
def VCell (w:World) (ok:Nat→Prop) (g at_:Nat) (v:Vt):Prop:=
 ∃ aw ac,w.cell? ⟨g,at_,none⟩=some (.int .i64 v.sl)∧w.cell? ⟨g,at_+1,none⟩=some (.int .u64 v.hd)∧w.cell? ⟨g,at_+2,none⟩=some (.int .i64 v.se)∧w.cell? ⟨g,at_+3,none⟩=some (.int .u64 v.sr) ∧
  w.cell? ⟨g,at_+4,none⟩=some (.int .i64 v.te)∧w.cell? ⟨g,at_+5,none⟩=some (.int .u64 v.tr)∧w.cell? ⟨g,at_+6,none⟩=some (.slice aw v.who.length ac)∧Ints .i64 w aw v.who∧∀ ad,aw=some ad→ok ad.block∧ad.spot=none
def VsAt (w:World) (ok:Nat→Prop) (vs:List Vt) (va:Option Addr):Prop:=
 (vs=[]∨∃ g,va=some ⟨g,0,none⟩∧ok g∧∀ i,i < vs.length→VCell w ok g (i * 7) (vs.getD i vt0))
def PsAt (w:World) (ok:Nat→Prop) (ps:List (Vt×Vt)) (pa:Option Addr):Prop:=
 (ps=[]∨∃ g,pa=some ⟨g,0,none⟩∧ok g∧∀ i,i < ps.length→VCell w ok g (i * 14) (ps.getD i (vt0,vt0)).1∧VCell w ok g (i * 14+7) (ps.getD i (vt0,vt0)).2)
theorem VCell.chg {S:Nat→Prop} {w w':World} {ok ok':Nat→Prop} {g a:Nat} {v:Vt} (h:VCell w ok g a v) (hc:Chg S w w') (hg:¬ S g) (hs : ∀ i,ok i→¬ S i) (ho : ∀ i,ok i→ok' i):VCell w' ok' g a v:=by
 obtain ⟨aw,ac,h0,h1,h2,h3,h4,h5,h6,h7,h8⟩:=h;exact ⟨aw,ac,hc.cell h0 hg,hc.cell h1 hg,hc.cell h2 hg,hc.cell h3 hg,hc.cell h4 hg,hc.cell h5 hg,hc.cell h6 hg,h7.chg hc (fun ad e=>hs _ (h8 ad e).1),fun ad e=>⟨ho _ (h8 ad e).1,(h8 ad e).2⟩⟩
theorem VsAt.chg {S:Nat→Prop} {w w':World} {ok ok':Nat→Prop} {vs:List Vt} {va:Option Addr} (h:VsAt w ok vs va) (hc:Chg S w w') (hs : ∀ i,ok i→¬ S i) (ho : ∀ i,ok i→ok' i):VsAt w' ok' vs va:=by
 rcases h with h | ⟨g,h1,h2,h3⟩
 ·exact .inl h
 ·exact .inr ⟨g,h1,ho _ h2,fun i hi=>(h3 i hi).chg hc (hs _ h2) hs ho⟩
theorem PsAt.chg {S:Nat→Prop} {w w':World} {ok ok':Nat→Prop} {ps:List (Vt×Vt)} {pa:Option Addr} (h:PsAt w ok ps pa) (hc:Chg S w w') (hs : ∀ i,ok i→¬ S i) (ho : ∀ i,ok i→ok' i):PsAt w' ok' ps pa:=by
 rcases h with h | ⟨g,h1,h2,h3⟩
 ·exact .inl h
 ·exact .inr ⟨g,h1,ho _ h2,fun i hi=>⟨(h3 i hi).1.chg hc (hs _ h2) hs ho,(h3 i hi).2.chg hc (hs _ h2) hs ho⟩⟩
theorem VsAt.stp {w w':World} {I I':Ids} {vs:List Vt} {va:Option Addr} (h:VsAt w (Out I w) vs va) (hs:Stp I I' w w'):VsAt w' (Out I' w') vs va:=h.chg hs.chg (fun _ ho=>ho.no) (fun _ ho=>hs.out ho)
theorem PsAt.stp {w w':World} {I I':Ids} {ps:List (Vt×Vt)} {pa:Option Addr} (h:PsAt w (Out I w) ps pa) (hs:Stp I I' w w'):PsAt w' (Out I' w') ps pa:=h.chg hs.chg (fun _ ho=>ho.no) (fun _ ho=>hs.out ho)
theorem VsAt.g {w w':World} {I:Ids} {vs:List Vt} {va:Option Addr} (h:VsAt w (Out I w) vs va) (hg:w.grownBy w' none):VsAt w' (Out I w') vs va:=h.stp (Stp.of I hg)
theorem PsAt.g {w w':World} {I:Ids} {ps:List (Vt×Vt)} {pa:Option Addr} (h:PsAt w (Out I w) ps pa) (hg:w.grownBy w' none):PsAt w' (Out I w') ps pa:=h.stp (Stp.of I hg)
theorem cntF_bd {N:Nat} {S:Int} {F:Int→Option (Int×Int×Int)} {f root:Int} {x:Led} {u:Vt} (h:LedBd x):LedBd (cntF N S F f root x u):=by
 obtain ⟨h1,h2,h3⟩:=h;unfold cntF;split
 ·split <;> exact ⟨h1,h2,h3⟩
 ·exact ⟨h1,h2,h3⟩
theorem takeAll_at (e r:Int) : ∀ (ks:List Int) (V:Nat→Ent) (cs:List Cg) (i:Nat),(takeAll e r V cs ks).1 i=V i∨(takeAll e r V cs ks).1 i=⟨true,e,r,false⟩
 | [],_,_,_=>.inl rfl
 | k :: ks,V,cs,i=>by
  have e1:takeAll e r V cs (k :: ks)=takeAll e r (takeStep e r (V,cs) k).1 (takeStep e r (V,cs) k).2 ks:=rfl;rw [e1];rcases takeAll_at e r ks (takeStep e r (V,cs) k).1 (takeStep e r (V,cs) k).2 i with h | h
  ·rw [h];unfold takeStep takeV;simp only;split
   ·unfold vset;split
    ·exact .inr rfl
    ·exact .inl rfl
   ·exact .inl rfl
  ·exact .inr h
theorem banAll_at : ∀ (ks:List Int) (V:Nat→Ent) (cs:List Cg) (i:Nat),((banAll V cs ks).1 i).r=(V i).r∧((banAll V cs ks).1 i).e=(V i).e
 | [],_,_,_=>⟨rfl,rfl⟩
 | k :: ks,V,cs,i=>by
  have e1:banAll V cs (k :: ks)=banAll (banStep (V,cs) k).1 (banStep (V,cs) k).2 ks:=rfl;rw [e1];obtain ⟨h1,h2⟩:=banAll_at ks (banStep (V,cs) k).1 (banStep (V,cs) k).2 i;rw [h1,h2];unfold banStep;split
  ·exact ⟨rfl,rfl⟩
  ·simp only;unfold vset;split
   ·next e=>rw [e];exact ⟨rfl,rfl⟩
   ·exact ⟨rfl,rfl⟩
section
variable {σ:St} {cs:List Cg} {N:Nat}
theorem Inv.votes (h:Inv σ N) {V:Nat→Ent} (hV : ∀ i,i < σ.bs.length→inU (V i).r∧0≤(V i).e∧(V i).e≤1099511627776):Inv { σ with V:=V } N:=by
 obtain ⟨⟨a1,a2,a3,a4,a5,a6,a7,a8,a9,b1,b2,b3,b4,b5,b6,b7⟩,h2,h3,h4,h5⟩:=h;exact ⟨⟨a1,a2,a3,a4,a5,a6,a7,a8,a9,b1,b2,b3,b4,b5,b6,hV⟩,h2,h3,h4,h5⟩
theorem Inv.att (h:Inv σ N) {v:Vt} {ins:Bool} (hhd:inU v.hd):Inv { σ with V:=(attC σ cs v ins).1 } N:=by
 refine h.votes (fun i hi=>?_);unfold attC;split
 ·rename_i hE
  rcases takeAll_at v.te v.hd v.who σ.V cs i with h1 | h1
  ·rw [h1];exact h.wf.vr i hi
  ·rw [h1];unfold attE at hE;cases hR:rightF σ.bs.length σ.S v with
   | false=>rw [hR] at hE;simp at hE
   | true=>
    rw [hR] at hE;by_cases hs:σ.slot < v.sl
    ·rw [decide_eq_true hs] at hE;simp at hE
    ·have h2:=rightF_te hR;have h3:=eOf_nonneg v.sl σ.S;have h4:=eOf_le v.sl σ.S;have h5:=h.wf.s1;refine ⟨hhd,?_,?_⟩ <;> simp only <;> omega
 ·exact h.wf.vr i hi
theorem Inv.ban (h:Inv σ N) (ks:List Int):Inv { σ with V:=(banAll σ.V cs ks).1 } N:=by
 refine h.votes (fun i hi=>?_);obtain ⟨h1,h2⟩:=banAll_at ks σ.V cs i;rw [h1,h2];exact h.wf.vr i hi
theorem attC_len (σ:St) (cs:List Cg) (v:Vt) (ins:Bool):(attC σ cs v ins).2.length≤cs.length+v.who.length:=by
 unfold attC;split
 ·exact takeAll_len _ _ _ _ _
 ·simp
end
theorem LedAt.stp {I I':Ids} {w w':World} {q N:Nat} {X:Led} {v:Value} {ex:Nat→Prop} (h:LedAt w (fun i=>(Out I w i∧¬ ex i)∧i≠q) N X v) (hs:Stp I I' w w'):LedAt w' (fun i=>(Out I' w' i∧¬ ex i)∧i≠q) N X v:=
 (h.chg hs.chg (fun _ hi=>hi.1.1.no)).imp (fun _ hi=>⟨⟨hs.out hi.1.1,hi.1.2⟩,hi.2⟩)
structure PW (w0 w:World) (I0 I:Ids) (σ:St) (base:Nat) (cs:List Cg) (p qb q7 k1 k2:Nat) (bk led:Array Value) (N:Nat) (X:Led) (lv:Value) (r:Int) (vs:List Vt) (va:Option Addr) (ps:List (Vt×Vt)) (pa:Option Addr) (ex:Nat→Prop):Prop where
 sc:SC w I σ base cs
 st:Stp I0 I w0 w
 b0:Blk w qb bk 59
 o0:Out I w qb
 b7:Blk w q7 led 133
 o7:Out I w q7
 bk1:Blk w k1 #[.pointer (some ⟨p,0,none⟩)] 52
 ok1:Out I w k1
 bk2:Blk w k2 #[.int .u64 r] 27
 ok2:Out I w k2
 led:LedAt w (fun i=>(Out I w i∧¬ ex i)∧i≠q7) N X lv
 vs:VsAt w (Out I w) vs va
 ps:PsAt w (Out I w) ps pa
theorem PW.stp {w0 w w':World} {I0 I I':Ids} {σ σ':St} {base:Nat} {cs cs':List Cg} {p qb q7 k1 k2:Nat} {bk led:Array Value} {N:Nat} {X:Led} {lv:Value} {r:Int} {vs:List Vt} {va:Option Addr} {ps:List (Vt×Vt)} {pa:Option Addr} {ex:Nat→Prop}
  (h:PW w0 w I0 I σ base cs p qb q7 k1 k2 bk led N X lv r vs va ps pa ex) (hsc:SC w' I' σ' base cs') (hs:Stp I I' w w'):PW w0 w' I0 I' σ' base cs' p qb q7 k1 k2 bk led N X lv r vs va ps pa ex:=
 ⟨hsc,h.st.trans hs,hs.blk h.b0 h.o0,hs.out h.o0,hs.blk h.b7 h.o7,hs.out h.o7,hs.blk h.bk1 h.ok1,hs.out h.ok1,hs.blk h.bk2 h.ok2,hs.out h.ok2,h.led.stp hs,h.vs.stp hs,h.ps.stp hs⟩
theorem PW.g {w0 w w':World} {I0 I:Ids} {σ:St} {base:Nat} {cs:List Cg} {p qb q7 k1 k2:Nat} {bk led:Array Value} {N:Nat} {X:Led} {lv:Value} {r:Int} {vs:List Vt} {va:Option Addr} {ps:List (Vt×Vt)} {pa:Option Addr} {ex:Nat→Prop}
  (h:PW w0 w I0 I σ base cs p qb q7 k1 k2 bk led N X lv r vs va ps pa ex) (hg:w.grownBy w' none):PW w0 w' I0 I σ base cs p qb q7 k1 k2 bk led N X lv r vs va ps pa ex:=h.stp (h.sc.g hg) (Stp.of I hg)
theorem Inv.add {σ:St} {N:Nat} (h:Inv σ N) (hN:N < 1000) {r q s qq qs qh:Int} {X:Led} (hr:inU r) (hF:σ.F q=some (qq,qs,qh)) (hn:σ.F r=none) (hqs:qs < s) (hs:s≤σ.slot) (hX:LedBd X) :
  Inv { σ with n:=σ.n+1,F:=tset σ.F r (q,s,qh+1),L:=ledSet σ.L r X } (N+1):=by
 have hh:=h.hh _ _ hF;have hg:=h.wf.tree.hgt _ _ hF;simp only at hh hg;have hs1:=h.wf.s1;have hns:=h.n;obtain ⟨⟨a1,a2,a3,a4,a5,a6,a7,a8,a9,b1,b2,b3,b4,b5,b6,b7⟩,h2,⟨kc,h3,h3'⟩,h4,h5⟩:=h;refine ⟨⟨a1,a2.set hr hF hn hqs (by omega) (by omega),by show σ.n+1≤1024;omega,?_,?_,?_,a7,a8,a9,b1,b2,b3,b4,b5,b6,b7⟩,h2.set hF hn,⟨r :: kc,by simpa using h3,?_⟩,by show σ.n+1≤N+1;omega,?_⟩
 ·obtain ⟨ks,k1,k2⟩:=a4;refine ⟨r :: ks,by simpa using k1,fun k hk=>?_⟩;unfold tset at hk;by_cases e:k=r
  ·rw [e];simp
  ·simp only [if_neg e] at hk;exact List.mem_cons_of_mem _ (k2 k hk)
 ·intro k;show (ledSet σ.L r X k).isSome=(tset σ.F r (q,s,qh+1) k).isSome;unfold ledSet tset;by_cases e:k=r
  ·rw [if_pos e,if_pos e];rfl
  ·rw [if_neg e,if_neg e];exact a5 k
 ·intro k x hx;have hx2:ledSet σ.L r X k=some x:=hx;unfold ledSet at hx2;split at hx2
  ·cases hx2;exact hX
  ·exact a6 k x hx2
 ·intro k hk;rcases hk with hk | hk
  ·have hk2:(tset σ.F r (q,s,qh+1) k).isSome=true:=hk;unfold tset at hk2;by_cases e:k=r
   ·rw [e];simp
   ·rw [if_neg e] at hk2;exact List.mem_cons_of_mem _ (h3' k (.inl hk2))
  ·exact List.mem_cons_of_mem _ (h3' k (.inr hk))
 ·intro k y hy;have hy2:tset σ.F r (q,s,qh+1) k=some y:=hy;unfold tset at hy2;split at hy2
  ·cases hy2;show qh+1 < ((N+1:Nat):Int);omega
  ·have:=h5 k y hy2;omega
theorem Inv.boost {σ:St} {N:Nat} (h:Inv σ N) {b:Int} (hb:inU b):Inv { σ with boosted:=b } N:=by
 obtain ⟨⟨a1,a2,a3,a4,a5,a6,a7,a8,_,b1,b2,b3,b4,b5,b6,b7⟩,h2,h3,h4,h5⟩:=h;exact ⟨⟨a1,a2,a3,a4,a5,a6,a7,a8,hb,b1,b2,b3,b4,b5,b6,b7⟩,h2,h3,h4,h5⟩
theorem Cnt.mono {σ:St} {N M:Nat} (h:Cnt σ N) (hm:N≤M):Cnt σ M:=by
 obtain ⟨ks,h1,h2⟩:=h;exact ⟨ks,by omega,h2⟩
def JC (P:Jst):Array Value:=#[.bool P.b0,.bool P.b1,.bool P.b2,.bool P.b3,.int .i64 P.pe,.int .u64 P.pr,.int .i64 P.ce,.int .u64 P.cr,.int .i64 P.fe,.int .u64 P.fr]
end Go.Proofs.YtndfpmboanohcaaGreatDoor
