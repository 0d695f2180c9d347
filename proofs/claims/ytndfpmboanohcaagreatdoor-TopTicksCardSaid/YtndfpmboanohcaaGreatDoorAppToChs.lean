/- Contracts of (*store.Store).Apply at a tick, and at a block that is taken. -/
import Derived.Test.YtndfpmboanohcaaGreatDoorHd
namespace Go.Proofs.YtndfpmboanohcaaGreatDoor
set_option maxRecDepth 100000
open Go.RowKit Go.Maps SkipPure
def evCells (k s r q bs:Int) (vs ps:Value):Array Value:=
 #[.int .i64 k,.int .i64 s,.int .u64 r,.int .u64 q,.int .i64 bs,vs,ps,
  .int .i64 0,.int .u64 0,.int .i64 0,.int .u64 0,.int .i64 0,.int .u64 0,.slice none 0 0,
  .int .i64 0,.int .u64 0,.int .i64 0,.int .u64 0,.int .i64 0,.int .u64 0,.slice none 0 0,
  .int .i64 0,.int .u64 0,.int .i64 0,.int .u64 0,.int .i64 0,.int .u64 0,.slice none 0 0]
section
variable {w w':World} {I:Ids} {σ:St}
theorem StoreAt.chs (h:StoreAt w I σ) (v:Value):StoreAt (w.setCell ⟨I.p,13,none⟩ v) { I with ch:=v } σ:=by
 have t1:=h.blk.set 13 v;simp only [List.setIfInBounds_toArray,List.set_cons_zero,List.set_cons_succ] at t1;exact h.put (I':={ I with ch:=v }) (σ':=σ) (gset w I.p 13 v) t1 rfl rfl
theorem ownsRow_base {w:World} {base base':Nat} {e:TypeId} {size n:Nat} {v:Value} {xs:List Value} (h:w.ownsRow base' e size v n xs) (hb:base≤base'):w.ownsRow base e size v n xs:=by
 obtain ⟨h1,h2⟩:=h;refine ⟨h1,?_⟩;rcases h2 with h2 | ⟨g,cap,cur,rfl,h3,h4⟩
 ·exact .inl h2
 ·exact .inr ⟨g,cap,cur,rfl,Nat.le_trans hb h3,h4⟩
end
section
variable {w w':World} {I:Ids} {σ:St} {J:AIds} {α:Arr}
def EvBox (w:World) (q:Nat) (cs:Array Value):Prop:=Blk w q cs 68
theorem EvBox.all {b:Nat} {k s r q bs:Int} {vs ps:Value} (h:EvBox w b (evCells k s r q bs vs ps)) :
  w.cell? ⟨b,0,none⟩=some (.int .i64 k)∧w.cell? ⟨b,1,none⟩=some (.int .i64 s)∧w.cell? ⟨b,2,none⟩=some (.int .u64 r)∧w.cell? ⟨b,3,none⟩=some (.int .u64 q)∧w.cell? ⟨b,4,none⟩=some (.int .i64 bs)∧w.cell? ⟨b,5,none⟩=some (vs)∧w.cell? ⟨b,6,none⟩=some (ps)∧w.cell? ⟨b,7,none⟩=some (.int .i64 0)∧w.cell? ⟨b,8,none⟩=some (.int .u64 0)∧w.cell? ⟨b,9,none⟩=some (.int .i64 0)∧w.cell? ⟨b,10,none⟩=some (.int .u64 0)∧w.cell? ⟨b,11,none⟩=some (.int .i64 0)∧w.cell? ⟨b,12,none⟩=some (.int .u64 0)∧w.cell? ⟨b,13,none⟩=some (.slice none 0 0)∧w.cell? ⟨b,14,none⟩=some (.int .i64 0)∧w.cell? ⟨b,15,none⟩=some (.int .u64 0)∧w.cell? ⟨b,16,none⟩=some (.int .i64 0)∧w.cell? ⟨b,17,none⟩=some (.int .u64 0)∧w.cell? ⟨b,18,none⟩=some (.int .i64 0)∧w.cell? ⟨b,19,none⟩=some (.int .u64 0)∧w.cell? ⟨b,20,none⟩=some (.slice none 0 0)∧w.cell? ⟨b,21,none⟩=some (.int .i64 0)∧w.cell? ⟨b,22,none⟩=some (.int .u64 0)∧w.cell? ⟨b,23,none⟩=some (.int .i64 0)∧w.cell? ⟨b,24,none⟩=some (.int .u64 0)∧w.cell? ⟨b,25,none⟩=some (.int .i64 0)∧w.cell? ⟨b,26,none⟩=some (.int .u64 0)∧w.cell? ⟨b,27,none⟩=some (.slice none 0 0):=
 ⟨Blk.at h 0,Blk.at h 1,Blk.at h 2,Blk.at h 3,Blk.at h 4,Blk.at h 5,Blk.at h 6,Blk.at h 7,Blk.at h 8,Blk.at h 9,Blk.at h 10,Blk.at h 11,Blk.at h 12,Blk.at h 13,Blk.at h 14,Blk.at h 15,Blk.at h 16,Blk.at h 17,Blk.at h 18,Blk.at h 19,Blk.at h 20,Blk.at h 21,Blk.at h 22,Blk.at h 23,Blk.at h 24,Blk.at h 25,Blk.at h 26,Blk.at h 27⟩
theorem Ints.lt {kd:IntKind} {w:World} {ad:Addr} {xs:List Int} (h:Ints kd w (some ad) xs) (hn:0 < xs.length):ad.block < w.heap.size:=by
 obtain ⟨a,e,hc⟩:=h 0 hn;cases e;have:=World.block_lt_of_cell? w _ hc
 simpa [Addr.add] using this
theorem Ints.one {kd:IntKind} {w:World} {g:Nat} {x:Int} {T:TypeId} (h:Blk w g #[.int kd x] T):Ints kd w (some ⟨g,0,none⟩) [x]:=fun i hi=>by
 have e:i=0:=by simp at hi;omega
 subst e;exact ⟨_,rfl,h.at 0⟩
theorem wf_one (x:Int) (h:(Lit.int .i64 x).wf=true) : ∀ i,i < [x].length→(Lit.int .i64 ([x].getD i 0)).wf=true:=fun i hi=>by
 have e:i=0:=by simp at hi;omega
 subst e;exact h
theorem StoreAt.reex (h:StoreAt w I σ) (hN:0 < σ.bs.length) (hc:Chg I.ex w w') (ex':Nat→Prop) (hx : ∀ i,ex' i→I.ex i∨w.heap.size≤i) (hl : ∀ i,ex' i→i < w'.heap.size):StoreAt w' { I with ex:=ex' } σ:=by
 have hm : ∀ i,Mut I i→i < w.heap.size:=fun i hi=>h.lt hi;have h2:=h.exch hc (fun i hi=>hi);obtain ⟨g1,g2,g3,g4,g5,g6,g7,g8,g9,g10⟩:=h2;obtain ⟨n,js,G,l1,l2,l3,l4,l5⟩:=h.led;refine ⟨g1,g2,g3,g4,?_,g6,g7,?_,hl,?_⟩
 ·refine ⟨n,js,G,hc.raw l1 (fun e=>h.exd _ e (.inr (.inr (.inr (.inr (.inl rfl)))))),l2,l3,l4,fun r=>⟨(l5 r).1,fun x hx'=>?_⟩⟩;obtain ⟨v,hv,hled⟩:=(l5 r).2 x hx';refine ⟨v,hv,(LedAt.chg (hled.here hN) hc (fun i hi e=>hi.1 (.inr e))).imp (fun i hi hf=>?_)⟩;rcases hf with hf | hf
  ·exact hi.1 (.inl hf)
  ·rcases hx i hf with h3 | h3
   ·exact hi.1 (.inr h3)
   ·have:=hi.2;omega
 ·intro ad had hf;rcases hf with hf | hf
  ·exact h.apart ad had (.inl hf)
  ·rcases hx _ hf with h3 | h3
   ·exact h.apart ad had (.inr h3)
   ·have hb:=h.bal;rw [had] at hb;have:=Ints.lt hb hN;omega
 ·intro i hi hmm;rcases hx i hi with h3 | h3
  ·exact h.exd i h3 hmm
  ·have:=hm i hmm;omega
theorem info_nd:(Tryz.prog.info? 150).map (fun i=>(i.zero,i.size,i.bytes))=some (some (.agg #[.int .u64 0,.int .i64 0,.int .u64 0,.int .u64 0,.int .u64 0]),5,40):=by kernel_rfl
theorem elem_nd : ∃ i,Elem Tryz.prog 150 i (.agg #[.int .u64 0,.int .i64 0,.int .u64 0,.int .u64 0,.int .u64 0]) 5 40:=info_parts info_nd
def addA (α:Arr) (r q:Int):Arr:={ α with n:=α.n+1,X:=nset α.X α.n ⟨r,fnd α.X q α.n,0,0,0⟩ }
end
def HgtT (f:Int) (F:Int→Option (Int×Int×Int)):Prop:=∀ r x,F r=some x→r≠f→∃ y,F x.1=some y∧x.2.2=y.2.2+1
def cutN (fr b:Int) (r:Int) (x:Int×Int×Int):Int×Int×Int:=(if r=fr then fr else x.1,x.2.1,x.2.2 - b)
def cutT (F:Int→Option (Int×Int×Int)) (f fr:Int):Int→Option (Int×Int×Int):=fun r=>if belowT F f r fr then (F r).map (cutN fr (getT F fr).2.2 r) else none
section
variable {f fr:Int} {F:Int→Option (Int×Int×Int)}
theorem below_self {x:Int×Int×Int} (hF:F fr=some x):belowT F f fr fr=true:=by
 unfold belowT;rw [hF];simp only [Option.isSome_some,Bool.true_and];rw [atT_stop hF (by omega)];simp
theorem below_some {r:Int} (h:belowT F f r fr=true) : ∃ x y,F fr=some x∧F r=some y∧atT F f r x.2.1=fr:=by
 unfold belowT at h;cases hx:F fr with
 | none=>rw [hx] at h;cases h
 | some x=>
  rw [hx] at h;cases hy:F r with
  | none=>rw [hy] at h;simp at h
  | some y=>
   rw [hy] at h;exact ⟨x,y,rfl,rfl,by simpa using h⟩
theorem below_up (W:WellT f F) {r:Int} {x y:Int×Int×Int} (hx:F fr=some x) (hy:F r=some y) (h:atT F f r x.2.1=fr) (hr:r≠fr):r≠f∧x.2.1 < y.2.1∧∃ z,F y.1=some z∧z.2.1 < y.2.1∧belowT F f y.1 fr=true:=by
 have c:r≠f∧x.2.1 < y.2.1:=by
  by_cases c:r≠f∧x.2.1 < y.2.1
  ·exact c
  ·rw [atT_stop hy c] at h;exact absurd h hr
 obtain ⟨z,hz,hlt⟩:=W.up r y hy c.1;refine ⟨c.1,c.2,z,hz,hlt,?_⟩;unfold belowT;rw [hx];simp only;rw [hz,← atT_step W hy c,h];simp
theorem below_hgt (W:WellT f F) (H:HgtT f F) {x:Int×Int×Int} (hx:F fr=some x) : ∀ (k:Nat) (r:Int) (y:Int×Int×Int),slotT F r < k→F r=some y→belowT F f r fr=true→x.2.2≤y.2.2
 | 0,_,_,h,_,_=>by omega
 | k+1,r,y,hk,hy,hb=>by
  by_cases hr:r=fr
  ·subst hr;rw [hx] at hy;cases hy;exact Int.le_refl _
  ·obtain ⟨x',y',hx',hy',hat⟩:=below_some hb;rw [hx] at hx';cases hx';rw [hy] at hy';cases hy';obtain ⟨h1,h2,z,hz,hlt,hbz⟩:=below_up W hx hy hat hr;have e1:slotT F r=y.2.1.toNat:=by unfold slotT;rw [hy];rfl
   have e2:slotT F y.1=z.2.1.toNat:=by unfold slotT;rw [hz];rfl
   have s1:=W.slot _ _ hy;have s2:=W.slot _ _ hz;have ih:=below_hgt W H hx k y.1 z (by omega) hz hbz;obtain ⟨z',hz',hh⟩:=H r y hy h1;rw [hz] at hz';cases hz';omega
theorem cutT_some {r:Int} {c:Int×Int×Int} (h:cutT F f fr r=some c):belowT F f r fr=true∧∃ y,F r=some y∧c=cutN fr (getT F fr).2.2 r y:=by
 unfold cutT at h;split at h
 ·rename_i hb
  cases hy:F r with
  | none=>rw [hy] at h;cases h
  | some y=>
   rw [hy] at h;exact ⟨hb,y,rfl,(by simpa using h.symm)⟩
 ·cases h
theorem cutT_of {r:Int} {y:Int×Int×Int} (hb:belowT F f r fr=true) (hy:F r=some y):cutT F f fr r=some (cutN fr (getT F fr).2.2 r y):=by
 unfold cutT;rw [if_pos hb,hy];rfl
theorem cutT_isSome (r:Int):(cutT F f fr r).isSome=belowT F f r fr:=by
 unfold cutT;by_cases hb:belowT F f r fr=true
 ·obtain ⟨x,y,_,hy,_⟩:=below_some hb;rw [if_pos hb,hy,hb];rfl
 ·rw [if_neg hb]
  simpa using hb
theorem WellT.cut (W:WellT f F) (H:HgtT f F) {x:Int×Int×Int} (hx:F fr=some x):WellT fr (cutT F f fr)∧HgtT fr (cutT F f fr):=by
 have hg:getT F fr=x:=by unfold getT;rw [hx];rfl
 have hup : ∀ r c,cutT F f fr r=some c→r≠fr→∃ y z,F r=some y∧F y.1=some z∧z.2.1 < y.2.1∧r≠f∧c=cutN fr x.2.2 r y∧cutT F f fr c.1=some (cutN fr x.2.2 y.1 z):=by
  intro r c hc hr;obtain ⟨hb,y,hy,e⟩:=cutT_some hc;rw [hg] at e;obtain ⟨x',y',hx',hy',hat⟩:=below_some hb;rw [hx] at hx';cases hx';rw [hy] at hy';cases hy';obtain ⟨h1,h2,z,hz,hlt,hbz⟩:=below_up W hx hy hat hr;refine ⟨y,z,hy,hz,hlt,h1,e,?_⟩;have e1:c.1=y.1:=by rw [e];unfold cutN;simp [hr]
  rw [e1,cutT_of hbz hz,hg]
 refine ⟨⟨?_,?_,?_,?_,?_⟩,?_⟩
 ·rw [cutT_isSome];exact below_self hx
 ·intro r c hc hr;obtain ⟨y,z,hy,hz,hlt,_,e,hcz⟩:=hup r c hc hr;refine ⟨_,hcz,?_⟩;rw [e];exact hlt
 ·intro r c hc;obtain ⟨_,y,hy,_⟩:=cutT_some hc;exact W.key r y hy
 ·intro r c hc;obtain ⟨_,y,hy,e⟩:=cutT_some hc;rw [e];exact W.slot r y hy
 ·intro r c hc;obtain ⟨hb,y,hy,e⟩:=cutT_some hc;rw [hg] at e;have h1:=below_hgt W H hx _ r y (Nat.lt_succ_self _) hy hb;have h2:=W.hgt r y hy;have h3:=W.hgt fr x hx;rw [e];unfold cutN;simp only;omega
 ·intro r c hc hr;obtain ⟨y,z,hy,hz,hlt,hrf,e,hcz⟩:=hup r c hc hr;refine ⟨_,hcz,?_⟩;obtain ⟨z',hz',hh⟩:=H r y hy hrf;rw [hz] at hz';cases hz';rw [e];unfold cutN;simp only;omega
end
theorem ownsRow_g {w w':World} {base:Nat} {e:TypeId} {size n:Nat} {v:Value} {xs:List Value} (h:w.ownsRow base e size v n xs) (hg:w.grownBy w' none):w'.ownsRow base e size v n xs:=
 h.kept hg (by cases v.ownBlock <;> simp)
theorem ownsRow_old {w w':World} {base b:Nat} {e:TypeId} {size n:Nat} {v:Value} {xs:List Value} (h:w.ownsRow base e size v n xs) (hg:w.grownBy w' (some b)) (hb:b < base):w'.ownsRow base e size v n xs:=
 h.kept hg (.inr (fun e=>by have:=(h.lt _ e).1;omega))
def Ids.wi (I:Ids):Ids:={ I with ex:=fun i=>I.ex i∨I.ch.ownBlock=some i }
structure SC (w:World) (I:Ids) (σ:St) (base:Nat) (cs:List Cg):Prop where
 st:StoreAt w I.wi σ
 row:w.ownsRow base 178 6 I.ch cs.length (cgRow cs)
 lo : ∀ i,I.ex i→i < base
 bl:base≤w.heap.size
structure Stp (I I':Ids) (w w':World):Prop where
 chg:Chg (fun i=>Mut I i∨I.ch.ownBlock=some i) w w'
 ids:I'={ I with ch:=I'.ch,tb:=I'.tb }
 new : ∀ g,I'.ch.ownBlock=some g→I.ch.ownBlock=some g∨w.heap.size≤g
 tbn:I'.tb=I.tb∨w.heap.size≤I'.tb
section
variable {w w' w'':World} {I I' I'':Ids} {σ:St} {base:Nat} {cs:List Cg}
theorem Stp.refl (I:Ids) (w:World):Stp I I w w:=⟨Chg.refl _ _,rfl,fun _ h=>.inl h,.inl rfl⟩
theorem Stp.of (I:Ids) (h:w.grownBy w' none):Stp I I w w':=⟨Chg.of h,rfl,fun _ h=>.inl h,.inl rfl⟩
theorem Stp.mut (h:Stp I I' w w') (i:Nat) (hi:Mut I' i):Mut I i∨w.heap.size≤i:=by
 have e:=h.ids;obtain ⟨p,tp,tb,vb,lm,gm,ba,bc,ch,ex⟩:=I;obtain ⟨p',tp',tb',vb',lm',gm',ba',bc',ch',ex'⟩:=I';simp only [Ids.mk.injEq] at e;obtain ⟨rfl,rfl,_,rfl,rfl,rfl,rfl,rfl,_,rfl⟩:=e;rcases hi with hi | hi | hi | hi | hi | hi
 ·exact .inl (.inl hi)
 ·exact .inl (.inr (.inl hi))
 ·rcases h.tbn with h1 | h1
  ·exact .inl (.inr (.inr (.inl (hi.trans h1))))
  ·right;rw [hi];exact h1
 ·exact .inl (.inr (.inr (.inr (.inl hi))))
 ·exact .inl (.inr (.inr (.inr (.inr (.inl hi)))))
 ·exact .inl (.inr (.inr (.inr (.inr (.inr hi)))))
theorem Stp.trans (h:Stp I I' w w') (k:Stp I' I'' w' w''):Stp I I'' w w'':=by
 refine ⟨h.chg.then k.chg (fun i hi=>?_),by rw [k.ids,h.ids],fun g hg=>?_,?_⟩
 ·rcases hi with hi | hi
  ·exact (h.mut i hi).imp .inl id
  ·exact (h.new i hi).imp .inr id
 ·rcases k.new g hg with h1 | h1
  ·exact h.new g h1
  ·exact .inr (Nat.le_trans h.chg.size h1)
 ·rcases k.tbn with h1 | h1
  ·rw [h1];exact h.tbn
  ·exact .inr (Nat.le_trans h.chg.size h1)
theorem Stp.g (h:Stp I I' w w') (k:w'.grownBy w'' none):Stp I I' w w'':=h.trans (Stp.of _ k)
structure Out (I:Ids) (w:World) (q:Nat):Prop where
 lt:q < w.heap.size
 m:¬ Mut I q
 c:I.ch.ownBlock≠some q
theorem Out.g {q:Nat} (h:Out I w q) (hg:w.grownBy w' none):Out I w' q:=⟨Nat.lt_of_lt_of_le h.lt hg.size,h.m,h.c⟩
theorem Stp.out {q:Nat} (h:Stp I I' w w') (hq:Out I w q):Out I' w' q:=by
 refine ⟨Nat.lt_of_lt_of_le hq.lt h.chg.size,fun e=>?_,fun e=>?_⟩
 ·rcases h.mut q e with h1 | h1
  ·exact hq.m h1
  ·have:=hq.lt;omega
 ·rcases h.new q e with h1 | h1
  ·exact hq.c h1
  ·have:=hq.lt;omega
theorem Out.no {q:Nat} (hq:Out I w q):¬ (fun i=>Mut I i∨I.ch.ownBlock=some i) q:=fun e=>e.elim hq.m hq.c
theorem Stp.blk {q:Nat} {ds:Array Value} {T:TypeId} (h:Stp I I' w w') (hb:Blk w q ds T) (hq:Out I w q):Blk w' q ds T:=h.chg.blk hb hq.no
theorem Stp.ints {k:IntKind} {a:Option Addr} {xs:List Int} (h:Stp I I' w w') (hi:Ints k w a xs) (hq : ∀ ad,a=some ad→Out I w ad.block):Ints k w' a xs:=hi.chg h.chg (fun ad e=>(hq ad e).no)
theorem SC.g (h:SC w I σ base cs) (hg:w.grownBy w' none):SC w' I σ base cs:=
 ⟨h.st.g hg,ownsRow_g h.row hg,h.lo,Nat.le_trans h.bl hg.size⟩
theorem StoreAt.lessex (h:StoreAt w I σ) (hN:0 < σ.bs.length) {ex:Nat→Prop} (hx : ∀ i,ex i→I.ex i):StoreAt w { I with ex:=ex } σ:=
 h.reex hN (Chg.refl _ _) ex (fun i hi=>.inl (hx i hi)) (fun i hi=>h.exlt i (hx i hi))
theorem SC.done (h:SC w I σ base cs) (hN:0 < σ.bs.length):StoreAt w I σ:=h.st.lessex (ex:=I.ex) hN (fun _ hi=>.inl hi)
theorem SC.start (h:StoreAt w I σ) (hN:0 < σ.bs.length) (hch:I.ch=.slice none 0 0):SC w I σ w.heap.size []:=by
 refine ⟨h.lessex hN (ex:=fun i=>I.ex i∨I.ch.ownBlock=some i) (fun i hi=>hi.elim id (fun e=>by rw [hch] at e;cases e)),?_,fun i hi=>h.exlt i hi,Nat.le_refl _⟩;rw [hch];exact World.ownsRow_nil _ _ _ _
theorem SC.chm (h:SC w I σ base cs) {i:Nat} (hi:Mut I i):I.ch.ownBlock≠some i:=fun e=>h.st.exd i (.inr e) hi
theorem SC.mlt (h:SC w I σ base cs) {i:Nat} (hi:Mut I i):i < w.heap.size:=h.st.lt hi
theorem SC.fresh (h:SC w I σ base cs) {q:Nat} (_:w.grownBy w' none) (hq:w.heap.size≤q) (hl:q < w'.heap.size):Out I w' q:=
 ⟨hl,fun e=>by have:=h.mlt e;omega,fun e=>by have:=(h.row.lt _ e).2;omega⟩
theorem SC.push (h:SC w I σ base cs) (hN:0 < σ.bs.length) {w5:World} {g c:Nat} {x:Cg} (hg:w.grownBy w5 I.ch.ownBlock) (hat:I.ch.ownBlock=some g∨w.heap.size≤g) (hlt:g < w5.heap.size)
  (hown:w5.ownsRow base 178 6 (.slice (some ⟨g,0,none⟩) (cs.length+1) c) (cs.length+1) (cgRow cs++x.cells)) :
  SC (w5.setCell ⟨I.p,13,none⟩ (.slice (some ⟨g,0,none⟩) (cs.length+1) c)) { I with ch:=.slice (some ⟨g,0,none⟩) (cs.length+1) c } σ base (cs++[x]) ∧
   Stp I { I with ch:=.slice (some ⟨g,0,none⟩) (cs.length+1) c } w (w5.setCell ⟨I.p,13,none⟩ (.slice (some ⟨g,0,none⟩) (cs.length+1) c)):=by
 have hc5:Chg I.wi.ex w w5:=⟨hg.os,hg.tape,hg.output,hg.size,fun i hi hn=>hg.block i hi (fun e=>hn (.inr e.symm))⟩;have h5:=h.st.reex hN hc5 (fun i=>I.ex i∨g=i) (fun i hi=>by
  rcases hi with hi | hi
  ·exact .inl (.inl hi)
  ·subst hi;exact hat.imp .inr id) (fun i hi=>by
  rcases hi with hi | hi
  ·have:=h.lo i hi;have:=h.bl;have:=hg.size;omega
  ·omega)
 have hpl:I.p < w.heap.size:=h.mlt (.inl rfl:Mut I I.p);have hpg:I.p≠g:=fun e=>by
  rcases hat with h1 | h1
  ·exact h.chm (.inl rfl:Mut I I.p) (by rw [h1,e])
  ·omega
 have hgs:=gset w5 I.p 13 (.slice (some ⟨g,0,none⟩) (cs.length+1) c);have hb6:=h5.blk.set 13 (.slice (some ⟨g,0,none⟩) (cs.length+1) c);simp only [List.setIfInBounds_toArray,List.set_cons_zero,List.set_cons_succ] at hb6;have h6:=h5.put (I':={ ({ I.wi with ex:=fun i=>I.ex i∨g=i }:Ids) with ch:=.slice (some ⟨g,0,none⟩) (cs.length+1) c }) (σ':=σ) hgs hb6 rfl rfl;have hr6:=hown.kept hgs (.inr (by simpa [Value.ownBlock] using fun e=>hpg e.symm));refine ⟨⟨?_,?_,h.lo,by have:=h.bl;have:=hg.size;have:=hgs.size;omega⟩,⟨?_,rfl,fun k hk=>?_,.inl rfl⟩⟩
 ·have e:(fun i=>I.ex i∨g=i)=(fun i=>I.ex i∨(Value.slice (some ⟨g,0,none⟩) (cs.length+1) c).ownBlock=some i):=by
   funext i;simp [Value.ownBlock]
  rw [e] at h6;exact h6
 ·rw [cgRow_snoc]
  simpa using hr6
 ·have hc1:Chg (fun i=>Mut I i∨I.ch.ownBlock=some i) w w5:=⟨hg.os,hg.tape,hg.output,hg.size,fun i hi hn=>hg.block i hi (fun e=>hn (.inr e.symm))⟩;exact hc1.trans (Chg.one hgs (.inl (.inl rfl)))
 ·have : g=k:=by simpa [Value.ownBlock] using hk
  subst this;exact hat
theorem StoreAt.voted (h:StoreAt w I σ) {V:Nat→Ent} (hv:VAt w' I.vb σ.bs.length V) (hg:w.grownBy w' (some I.vb)):StoreAt w' I { σ with V:=V }:=by
 obtain ⟨h1,h2,h3,h4,h5,h6,h7,h8,h9,h10⟩:=h;have hc:Chg (fun i=>i=I.vb) w w':=Chg.one hg rfl;obtain ⟨a1,a2,a3,a4,a5,b1,b2,b3,b4,c1,c2,c3,d1,d2,e1⟩:=nodup6 h7;exact ⟨hc.blk h1 a3,h2.chg hc (fun ad ha e=>h8 ad ha (.inl (.inr (.inr (.inr (.inl e)))))),hc.tree h3 b2 c1,hv,h5.chg hc (Ne.symm d1) (fun i hi e=>hi (.inl (.inr (.inr (.inr (.inl e)))))),h6.chg hc (Ne.symm d2),h7,h8,fun i hi=>Nat.lt_of_lt_of_le (h9 i hi) hg.size,h10⟩
theorem SC.voted (h:SC w I σ base cs) {V:Nat→Ent} (hv:VAt w' I.vb σ.bs.length V) (hg:w.grownBy w' (some I.vb)):SC w' I { σ with V:=V } base cs∧Stp I I w w':=
 ⟨⟨h.st.voted hv hg,h.row.kept hg (.inr (fun e=>h.chm (.inr (.inr (.inr (.inl rfl))):Mut I I.vb) e)),h.lo,Nat.le_trans h.bl hg.size⟩,
  ⟨Chg.one hg (.inl (.inr (.inr (.inr (.inl rfl))))),rfl,fun _ h=>.inl h,.inl rfl⟩⟩
end
section
variable {w:World} {I:Ids} {σ:St} {base:Nat} {cs:List Cg}
theorem SC.s0 (h:SC w I σ base cs):w.cell? ⟨I.p,0,none⟩=some (.slice I.ba σ.bs.length I.bc):=h.st.s0
theorem SC.s1 (h:SC w I σ base cs):w.cell? ⟨I.p,1,none⟩=some (.int .i64 σ.S):=h.st.s1
theorem SC.s2 (h:SC w I σ base cs):w.cell? ⟨I.p,2,none⟩=some (.int .i64 σ.B):=h.st.s2
theorem SC.s3 (h:SC w I σ base cs):w.cell? ⟨I.p,3,none⟩=some (.pointer (some ⟨I.tp,0,none⟩)):=h.st.s3
theorem SC.s4 (h:SC w I σ base cs):w.cell? ⟨I.p,4,none⟩=some (.slice (some ⟨I.vb,0,none⟩) σ.bs.length σ.bs.length):=h.st.s4
theorem SC.s5 (h:SC w I σ base cs):w.cell? ⟨I.p,5,none⟩=some (.int .i64 σ.slot):=h.st.s5
theorem SC.s6 (h:SC w I σ base cs):w.cell? ⟨I.p,6,none⟩=some (.int .u64 σ.boosted):=h.st.s6
theorem SC.s7 (h:SC w I σ base cs):w.cell? ⟨I.p,7,none⟩=some (.int .i64 σ.je):=h.st.s7
theorem SC.s8 (h:SC w I σ base cs):w.cell? ⟨I.p,8,none⟩=some (.int .u64 σ.jr):=h.st.s8
theorem SC.s9 (h:SC w I σ base cs):w.cell? ⟨I.p,9,none⟩=some (.int .i64 σ.fe):=h.st.s9
theorem SC.s10 (h:SC w I σ base cs):w.cell? ⟨I.p,10,none⟩=some (.int .u64 σ.fr):=h.st.s10
theorem SC.s11 (h:SC w I σ base cs):w.cell? ⟨I.p,11,none⟩=some (.map (some I.lm)):=h.st.s11
theorem SC.s12 (h:SC w I σ base cs):w.cell? ⟨I.p,12,none⟩=some (.map (some I.gm)):=h.st.s12
theorem SC.s13 (h:SC w I σ base cs):w.cell? ⟨I.p,13,none⟩=some I.ch:=h.st.s13
theorem SC.bal (h:SC w I σ base cs):Ints .u64 w I.ba σ.bs:=h.st.bal
theorem SC.tree (h:SC w I σ base cs):TreeAt w I.tp I.tb σ.n σ.f σ.F:=h.st.tree
theorem SC.votes (h:SC w I σ base cs):VAt w I.vb σ.bs.length σ.V:=h.st.votes
end
end Go.Proofs.YtndfpmboanohcaaGreatDoor
