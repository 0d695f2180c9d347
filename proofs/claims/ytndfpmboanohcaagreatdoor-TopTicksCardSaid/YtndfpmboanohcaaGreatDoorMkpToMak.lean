/- What Make holds: words. -/
import Derived.Test.YtndfpmboanohcaaGreatDoorEvt
namespace Go.Proofs.YtndfpmboanohcaaGreatDoor
set_option maxRecDepth 100000
open Go.RowKit Go.Maps SkipPure
theorem Raised.n {σ σ':St} {cs cs':List Cg} {je jr fe fr:Int} (h:Raised σ cs je jr fe fr σ' cs'):σ'.bs=σ.bs:=h.bs.1
theorem Applied.bs {σ σ':St} {e:Ev} {E:Int} {cs':List Cg} (hw:StWf σ) (h:Applied σ e E σ' cs'):σ'.bs=σ.bs:=by
 have hbs:σ.bs.length≤1000000:=by have:=hw.may.l2;omega
 rcases h with ⟨_,_,rfl,_⟩ | ⟨_,h⟩ | ⟨_,_,rfl,_⟩ | ⟨_,_,rfl,_⟩
 ·unfold tickF;split <;> rfl
 ·rcases h with ⟨_,_,rfl,_⟩ | ⟨_,_,_,rfl,_⟩ | ⟨_,_,_,_,rfl,_⟩ | ⟨_,_,_,_,_,rfl,_⟩ | ⟨_,_,_,_,_,h⟩
  ·rfl
  ·rfl
  ·rfl
  ·rfl
  ·obtain ⟨x,σe,cse,hL,_,hrd,hend⟩:=h;have hB:Kept (propA σ e.r e.q e.bs (propX σ e.r e.q e.bs e.vs x),[]++[⟨0,e.r,e.q,0,0,false⟩]) (propB σ [] e.r e.q e.bs (propX σ e.r e.q e.bs e.vs x) e.vs):=atts_kept e.vs _ hbs;have hC:=hB.trans (slas_kept e.ps (propB σ [] e.r e.q e.bs (propX σ e.r e.q e.bs e.vs x) e.vs) (by rw [hB.bs];exact hbs));have h1:σe.bs=σ.bs:=hrd.n.trans hC.bs;unfold PropEnd at hend;split at hend
   ·exact hend.n.trans h1
   ·obtain ⟨rfl,rfl⟩:=hend;exact h1
 ·rfl
 ·rfl
theorem wpList_push2 {P:Program} {ops:Array Oper} {rest:List Oper} {o:Oper} {a:Act} {Q:Exit→Act→World→Prop} {W:World} {cs:List Value} {T:TypeId} (hgd:o.guard=none) (s x:Operand) (t:TypeId) (ho:o.op=.call { callee:=.builtin .append,args:=#[s,x],argTypes:=#[t,t] })
  (base:Nat) (e:TypeId) (i:TypeInfo) (z:Value) (size bytes:Nat) (ht:P.underlying t=some (.slice e)) (hI:Elem P e i z size bytes) (hzs:z.cells.size=size) (hsz:0 < size)
  (v:Value) (n:Nat) (xs:List Value) (hs:a.eval s=v) (hown:W.ownsRow base e size v n xs) (hx:a.eval x=.slice (some ⟨W.heap.size,0,none⟩) 1 1) (hl:cs.length=size) (h1 : ∀ u∈cs,u.oneCell'=true)
  (h63:n+1≤maxLen) (hbytes:(n+1) * bytes≤140737488355328) (hbase:base≤W.heap.size)
  (h : ∀ g c w',w'.ownsRow base e size (.slice (some ⟨g,0,none⟩) (n+1) c) (n+1) (xs++cs)→W.grownBy w' v.ownBlock→(v.ownBlock=some g∨W.heap.size≤g)→g < w'.heap.size→wpList P ops Q rest (a.put o.dst (.slice (some ⟨g,0,none⟩) (n+1) c)) w') :
  wpList P ops Q (o :: rest) a (W.alloc (.cells cs.toArray T)):=by
 refine wpList_append_lies (w:=W.alloc (.cells cs.toArray T)) hgd s x t ho base e i z size bytes ht hI.1 hI.2.1 hI.2.2.1 hI.2.2.2 hzs hsz v n xs hs (hown.alloc _) ⟨W.heap.size,0,none⟩ 1 1 cs hx (by simpa using hl) (news_box W cs T) h1 (by decide) h63 hbytes (by simp;omega) _ rfl ?_;intro g c w' r1 r2 r3 r4;exact h g c w' r1 ((gweak (World.grownBy_alloc W _ none)).andThen r2 (fun j e=>Or.inr e)) (r3.imp id (fun e=>by rw [e];simp)) r4
structure Ey where
 e:Ev
 c:Array Value
def eyC (y:Ey):List Value:=y.c.toList
abbrev MI (I:Ids) (mp:Nat) (c2:Value) (t2:Nat) (vb vo:Value):Ids:={ I with ch:=c2,tb:=t2,ex:=fun i=>i=mp∨vb.ownBlock=some i∨vo.ownBlock=some i }
def OkE (w0 w:World) (I:Ids) (i:Nat):Prop:=w0.heap.size≤i∧i < w.heap.size∧¬ Mut I i∧¬ I.ex i
structure MW (w0 w:World) (I:Ids) (mp:Nat) (nb:Option Nat) (c2:Value) (t2:Nat) (vb vo:Value) (σ:St) (k:Nat) (bl:List Int) (L P:List Ey):Prop where
 st:StoreAt w (MI I mp c2 t2 vb vo) σ
 inv:Inv σ k
 b6:σ.bs.length=6
 mm:Mk w mp I.p vb nb
 bls:Bls w w0.heap.size vb bl
 row:w.ownsRow w0.heap.size 68 28 vo L.length (L.flatMap eyC)
 sub : ∀ y∈L,y∈P
 evs : ∀ y∈P,EvB y.e∧EvAt w (OkE w0 w (MI I mp c2 t2 vb vo)) y.e y.c∧y.c.size=28
 gr:w0.grownBy w none
 mx : ∀ i,Mut (MI I mp c2 t2 vb vo) i→w0.heap.size≤i
 mpl:w0.heap.size≤mp
 nbl : ∀ k,nb=some k→k < w0.heap.size
section
variable {w0 w w':World} {I:Ids} {mp:Nat} {nb:Option Nat} {c2:Value} {t2:Nat} {vb vo:Value} {σ:St} {k:Nat} {bl:List Int} {L P:List Ey}
theorem MW.g (h:MW w0 w I mp nb c2 t2 vb vo σ k bl L P) (hg:w.grownBy w' none):MW w0 w' I mp nb c2 t2 vb vo σ k bl L P:=
 ⟨h.st.g hg,h.inv,h.b6,h.mm.g hg,h.bls.g hg,ownsRow_g h.row hg,h.sub,fun y hy=>⟨(h.evs y hy).1,(h.evs y hy).2.1.chg (S:=fun _=>False) (Chg.of hg) (fun _ _ h=>h) (fun _ hi=>⟨hi.1,Nat.lt_of_lt_of_le hi.2.1 hg.size,hi.2.2⟩),(h.evs y hy).2.2⟩,g2 h.gr hg,h.mx,h.mpl,h.nbl⟩
theorem MW.add (h:MW w0 w I mp nb c2 t2 vb vo σ k bl L P) {y:Ey} (hy:EvB y.e∧EvAt w (OkE w0 w (MI I mp c2 t2 vb vo)) y.e y.c∧y.c.size=28):MW w0 w I mp nb c2 t2 vb vo σ k bl L (y :: P):=
 ⟨h.st,h.inv,h.b6,h.mm,h.bls,h.row,fun z hz=>List.mem_cons_of_mem _ (h.sub z hz),fun z hz=>by
  rcases List.mem_cons.1 hz with rfl | hz
  ·exact hy
  ·exact h.evs z hz,h.gr,h.mx,h.mpl,h.nbl⟩
def slLen:Value→Nat
 | .slice _ n _=>n
 | _=>0
theorem MW.num (h:MW w0 w I mp nb c2 t2 vb vo σ k bl L P) (hm:Mk w' mp I.p vb nb) (hc:Chg (fun i=>i=mp) w w'):MW w0 w' I mp nb c2 t2 vb vo σ k bl L P:=by
 obtain ⟨na,nc,ns,hb,_⟩:=id h.mm;exact ⟨h.st.exch hc (fun _ e=>.inl e),h.inv,h.b6,hm,h.bls.chg hc (h.bls.ne h.mm),row_kept h.row hc hb (by decide),h.sub,
  fun y hy=>⟨(h.evs y hy).1,(h.evs y hy).2.1.chg hc (fun i hi e=>hi.2.2.2 (.inl e)) (fun i hi=>⟨hi.1,Nat.lt_of_lt_of_le hi.2.1 hc.size,hi.2.2⟩),(h.evs y hy).2.2⟩,
  ((Chg.of h.gr).trans hc).non (fun i e=>by rw [e];exact h.mpl),h.mx,h.mpl,h.nbl⟩
theorem MW.app (h:MW w0 w I mp nb c2 t2 vb vo σ k bl L P) {I2:Ids} {σ2:St} {e:Ev} {E:Int} {cs2:List Cg} (ha:Apd w w' (MI I mp c2 t2 vb vo) I2 σ σ2 k e E cs2):MW w0 w' I mp nb I2.ch I2.tb vb vo σ2 (k+1) bl L P:=by
 have hst:=ha.st;rw [ha.ids] at hst;have hst2:StoreAt w' (MI I mp I2.ch I2.tb vb vo) σ2:=hst;have hsz:=h.gr.size;have hex : ∀ i,(MI I mp c2 t2 vb vo).ex i→¬ Mut (MI I mp c2 t2 vb vo) i:=h.st.exd;have hmm : ∀ i,i < w.heap.size→Mut (MI I mp I2.ch I2.tb vb vo) i→Mut (MI I mp c2 t2 vb vo) i:=fun i hi hm=>by
  rcases hm with e | e | e | e | e | e
  ·exact .inl e
  ·exact .inr (.inl e)
  ·rcases ha.tbn with h1 | h1
   ·exact .inr (.inr (.inl (e.trans h1)))
   ·have e2:i=I2.tb:=e;omega
  ·exact .inr (.inr (.inr (.inl e)))
  ·exact .inr (.inr (.inr (.inr (.inl e))))
  ·exact .inr (.inr (.inr (.inr (.inr e))))
 refine ⟨hst2,ha.inv,by rw [ha.ap.bs h.inv.wf];exact h.b6,h.mm.chg ha.chg (hex _ (.inl rfl)) (fun b hb hm=>?_),h.bls.chg ha.chg (fun b hb=>hex b (.inr (.inl hb))),rowChg h.row ha.chg (fun b hb=>hex b (.inr (.inr hb))),h.sub,
  fun y hy=>⟨(h.evs y hy).1,(h.evs y hy).2.1.chg ha.chg (fun i hi=>hi.2.2.1) (fun i hi=>⟨hi.1,Nat.lt_of_lt_of_le hi.2.1 ha.chg.size,fun hm=>hi.2.2.1 (hmm i hi.2.1 hm),hi.2.2.2⟩),(h.evs y hy).2.2⟩,
  ((Chg.of h.gr).trans ha.chg).non h.mx,fun i hi=>?_,h.mpl,h.nbl⟩
 ·have:=h.mx b hm;have:=h.nbl b hb;omega
 ·rcases Nat.lt_or_ge i w.heap.size with hl | hl
  ·exact h.mx i (hmm i hl hi)
  ·omega
theorem MW.pushb (h:MW w0 w I mp nb c2 t2 vb vo σ k bl L P) {w5:World} {g5 c5:Nat} {r:Int} (hown:w5.ownsRow w0.heap.size 27 1 (.slice (some ⟨g5,0,none⟩) (bl.length+1) c5) (bl.length+1) (bl.map (Value.int .u64)++[.int .u64 r])) (hg:w.grownBy w5 vb.ownBlock)
  (hat:vb.ownBlock=some g5∨w.heap.size≤g5) (hlt:g5 < w5.heap.size) (hr:inU r) (hn:bl.length+1≤1000000) :
  MW w0 (w5.setCell ⟨mp,2,none⟩ (.slice (some ⟨g5,0,none⟩) (bl.length+1) c5)) I mp nb c2 t2 (.slice (some ⟨g5,0,none⟩) (bl.length+1) c5) vo σ k (bl++[r]) L P:=by
 obtain ⟨na,nc,ns,hb,hnum,hnb⟩:=id h.mm;have hb5:=blk_row hb h.bls.row hg (by decide);have hgs:=gset w5 mp 2 (.slice (some ⟨g5,0,none⟩) (bl.length+1) c5);have hset:=hb5.set 2 (.slice (some ⟨g5,0,none⟩) (bl.length+1) c5);have hc1:Chg (fun i=>vb.ownBlock=some i) w w5:=⟨hg.os,hg.tape,hg.output,hg.size,fun i hi hn=>hg.block i hi (fun e=>hn e.symm)⟩;have hc2:Chg (fun i=>i=mp) w5 (w5.setCell ⟨mp,2,none⟩ (.slice (some ⟨g5,0,none⟩) (bl.length+1) c5)):=Chg.one hgs rfl;have hN:0 < σ.bs.length:=by have:=h.b6;omega
 have hcx:Chg (MI I mp c2 t2 vb vo).ex w (w5.setCell ⟨mp,2,none⟩ (.slice (some ⟨g5,0,none⟩) (bl.length+1) c5)):=(hc1.mono (fun i e=>.inr (.inl e))).trans (hc2.mono (fun i e=>.inl e));have hsz:=hcx.size;have hexlt:=h.st.exlt;have hx : ∀ i,(MI I mp c2 t2 (.slice (some ⟨g5,0,none⟩) (bl.length+1) c5) vo).ex i→(MI I mp c2 t2 vb vo).ex i∨w.heap.size≤i:=fun i hi=>by
  rcases hi with e | e | e
  ·exact .inl (.inl e)
  ·have e2:g5=i:=by simpa [Value.ownBlock] using e
   subst e2;rcases hat with h1 | h1
   ·exact .inl (.inr (.inl h1))
   ·exact .inr h1
  ·exact .inl (.inr (.inr e))
 have hst:=h.st.reex hN hcx (MI I mp c2 t2 (.slice (some ⟨g5,0,none⟩) (bl.length+1) c5) vo).ex hx (fun i hi=>by
  rcases hi with e | e | e
  ·exact Nat.lt_of_lt_of_le (hexlt i (.inl e)) hsz
  ·have e2:g5=i:=by simpa [Value.ownBlock] using e
   subst e2
   simpa using hlt
  ·exact Nat.lt_of_lt_of_le (hexlt i (.inr (.inr e))) hsz)
 have hnn : ∀ ad,na=some ad→¬ (MI I mp c2 t2 vb vo).ex ad.block:=fun ad e he=>by
  have h1:=h.nbl _ (hnb ad e);have h2:=h.mpl;rcases he with e3 | e3 | e3
  ·omega
  ·have:=(h.bls.row.lt _ e3).1;omega
  ·have:=(h.row.lt _ e3).1;omega
 refine ⟨hst,h.inv,h.b6,⟨na,nc,ns,hset,hnum.chg hcx hnn,hnb⟩,⟨?_,by simp,by simpa using hn,fun x hx=>?_⟩,row_kept (row_apart h.row h.bls.row hg (by decide)) hc2 hb5 (by decide),h.sub,
  fun y hy=>⟨(h.evs y hy).1,(h.evs y hy).2.1.chg hcx (fun i hi=>hi.2.2.2) (fun i hi=>⟨hi.1,Nat.lt_of_lt_of_le hi.2.1 hsz,hi.2.2.1,fun he=>(hx i he).elim hi.2.2.2 (fun h1=>by have:=hi.2.1;omega)⟩),(h.evs y hy).2.2⟩,
  ((Chg.of h.gr).trans hcx).non (fun i he=>?_),h.mx,h.mpl,h.nbl⟩
 ·have hr5:=row_kept hown hc2 hb5 (by decide)
  simpa using hr5
 ·rcases List.mem_append.1 hx with hx | hx
  ·exact h.bls.u x hx
  ·rw [List.mem_singleton.1 hx];exact hr
 ·rcases he with e3 | e3 | e3
  ·rw [e3];exact h.mpl
  ·exact (h.bls.row.lt _ e3).1
  ·exact (h.row.lt _ e3).1
theorem MW.pusho (h:MW w0 w I mp nb c2 t2 vb vo σ k bl L P) {w5:World} {g5 c5:Nat} {y:Ey} (hown:w5.ownsRow w0.heap.size 68 28 (.slice (some ⟨g5,0,none⟩) (L.length+1) c5) (L.length+1) (L.flatMap eyC++eyC y)) (hg:w.grownBy w5 vo.ownBlock)
  (hat:vo.ownBlock=some g5∨w.heap.size≤g5) (hlt:g5 < w5.heap.size) (hy:y∈P) :
  MW w0 w5 I mp nb c2 t2 vb (.slice (some ⟨g5,0,none⟩) (L.length+1) c5) σ k bl (L++[y]) P:=by
 obtain ⟨na,nc,ns,hb,hnum,hnb⟩:=id h.mm;have hc1:Chg (fun i=>vo.ownBlock=some i) w w5:=⟨hg.os,hg.tape,hg.output,hg.size,fun i hi hn=>hg.block i hi (fun e=>hn e.symm)⟩;have hN:0 < σ.bs.length:=by have:=h.b6;omega
 have hcx:Chg (MI I mp c2 t2 vb vo).ex w w5:=hc1.mono (fun i e=>.inr (.inr e));have hsz:=hcx.size;have hexlt:=h.st.exlt;have hx : ∀ i,(MI I mp c2 t2 vb (.slice (some ⟨g5,0,none⟩) (L.length+1) c5)).ex i→(MI I mp c2 t2 vb vo).ex i∨w.heap.size≤i:=fun i hi=>by
  rcases hi with e | e | e
  ·exact .inl (.inl e)
  ·exact .inl (.inr (.inl e))
  ·have e2:g5=i:=by simpa [Value.ownBlock] using e
   subst e2;rcases hat with h1 | h1
   ·exact .inl (.inr (.inr h1))
   ·exact .inr h1
 have hst:=h.st.reex hN hcx (MI I mp c2 t2 vb (.slice (some ⟨g5,0,none⟩) (L.length+1) c5)).ex hx (fun i hi=>by
  rcases hi with e | e | e
  ·exact Nat.lt_of_lt_of_le (hexlt i (.inl e)) hsz
  ·exact Nat.lt_of_lt_of_le (hexlt i (.inr (.inl e))) hsz
  ·have e2:g5=i:=by simpa [Value.ownBlock] using e
   subst e2;exact hlt)
 have hev : ∀ z:Ey,EvB z.e∧EvAt w (OkE w0 w (MI I mp c2 t2 vb vo)) z.e z.c∧z.c.size=28→EvB z.e∧EvAt w5 (OkE w0 w5 (MI I mp c2 t2 vb (.slice (some ⟨g5,0,none⟩) (L.length+1) c5))) z.e z.c∧z.c.size=28:=fun z hz=>
  ⟨hz.1,hz.2.1.chg hcx (fun i hi=>hi.2.2.2) (fun i hi=>⟨hi.1,Nat.lt_of_lt_of_le hi.2.1 hsz,hi.2.2.1,fun he=>(hx i he).elim hi.2.2.2 (fun h1=>by have:=hi.2.1;omega)⟩),hz.2.2⟩
 refine ⟨hst,h.inv,h.b6,h.mm.chg hc1 (fun e=>?_) (fun b hb2 e=>?_),⟨row_apart h.bls.row h.row hg (by decide),h.bls.n,h.bls.n2,h.bls.u⟩,?_,fun z hz=>?_,fun z hz=>hev z (h.evs z hz),((Chg.of h.gr).trans hc1).non (fun i he=>(h.row.lt _ he).1),h.mx,h.mpl,h.nbl⟩
 ·obtain ⟨cur,hcur⟩:=ownsRow_ty h.row e;exact h.mm.ne hcur (by decide) rfl
 ·have:=h.nbl _ hb2;have:=(h.row.lt _ e).1;omega
 ·simpa using hown
 ·rcases List.mem_append.1 hz with hz | hz
  ·exact h.sub z hz
  ·rw [List.mem_singleton.1 hz];exact hy
theorem MW.evrow (h:MW w0 w I mp nb c2 t2 vb vo σ k bl L P) : ∃ ga ce,vo=.slice ga (L.map Ey.e).length ce∧EvRow w w.heap.size ga (L.map Ey.e)∧∀ e∈L.map Ey.e,EvB e:=by
 obtain ⟨ga,ce,e,h1,_⟩:=own_slice2 h.row;refine ⟨ga,ce,by rw [List.length_map];exact e,?_,fun e he=>?_⟩
 ·rcases Nat.eq_zero_or_pos L.length with h0 | h0
  ·exact .inl (by rw [List.eq_nil_of_length_eq_zero h0];rfl)
  ·obtain ⟨g,rfl⟩:=h1 h0;have hrow:=h.row;rw [e] at hrow;refine .inr ⟨g,rfl,(hrow.lt g rfl).2,fun j ev hj=>?_⟩;rw [List.getElem?_map] at hj;obtain ⟨y,hy,rfl⟩:=Option.map_eq_some_iff.1 hj;have hym:=h.evs y (h.sub y (List.mem_of_getElem? hy));refine ⟨y.c,hym.2.1.chg (S:=fun _=>False) (Chg.refl _ _) (fun _ _ h=>h) (fun i hi=>hi.2.1),fun t v hv=>?_⟩;have ht:t < 28:=by
    have:=(Array.getElem?_eq_some_iff.1 hv).1;have:=hym.2.2;omega
   have hf:(L.flatMap eyC)[j * 28+t]? = some v:=by
    have hall : ∀ (M:List Ey),(∀ z∈M,z.c.size=28)→∀ (i:Nat) (x:Ey),M[i]? = some x→(M.flatMap eyC)[i * 28+t]? = (eyC x)[t]?:=by
     intro M;induction M with
     | nil=>intro _ i x hx;simp at hx
     | cons z M ih=>
      intro hz i x hx;have hl:(eyC z).length=28:=by show z.c.toList.length=28;rw [Array.length_toList];exact hz z (by simp)
      cases i with
      | zero=>
       obtain rfl:z=x:=by simpa using hx
       show (eyC z++M.flatMap eyC)[0 * 28+t]? = _;rw [List.getElem?_append_left (by omega)];simp
      | succ i=>
       rw [List.getElem?_cons_succ] at hx;show (eyC z++M.flatMap eyC)[(i+1) * 28+t]? = _;rw [List.getElem?_append_right (by omega),hl,show (i+1) * 28+t - 28=i * 28+t from by omega];exact ih (fun z hz'=>hz z (List.mem_cons_of_mem _ hz')) i x hx
    rw [hall L (fun z hz=>(h.evs z (h.sub z hz)).2.2) j y hy];show y.c.toList[t]? = some v
    simpa using hv
   have hcell:=hrow.cells (g:=g) rfl (j * 28+t) v hf;rw [add0] at hcell;exact hcell
 ·obtain ⟨y,hy,rfl⟩:=List.mem_map.1 he;exact (h.evs y (h.sub y hy)).1
end
theorem info_u:(Tryz.prog.info? 27).map (fun i=>(i.zero,i.size,i.bytes))=some (some (.int .u64 0),1,8):=by kernel_rfl
theorem elem_u : ∃ i,Elem Tryz.prog 27 i (.int .u64 0) 1 8:=info_parts info_u
structure CW (w0 w:World) (q:Nat) (S:Int) (v:Value) (bs:List Int):Prop where
 b0:Blk w q #[.slice none 0 0,.int .i64 0,.int .i64 0] 36
 b1:Blk w (q+1) #[v,.int .i64 S,.int .i64 40] 36
 row:w.ownsRow w0.heap.size 27 1 v bs.length (bs.map (Value.int .u64))
 gr:w0.grownBy w none
section
variable {w0:World} {na:Option Addr} {nc:Nat} {ns:List Int} {s:Int}
set_option maxHeartbeats 8000000 in
theorem config_calls (hi:Ints .u8 w0 na ns) (hb : ∀ x∈ns,0≤x∧x < 256) (hs:0≤s∧s < 256) :
  Calls Tryz.prog 12 #[.slice na ns.length nc,.int .u8 s,.int .u8 40] w0 fun e w'=>∃ ad c bs S,e=.returned (cfgV ad bs.length c S 40)∧Ints .u64 w' ad bs∧bs.length=6∧MayBe bs S 40∧w0.grownBy w' none:=by
 have HI:=lh hi;have HB:=lh hb;clear hi hb;go_enter Tryz.func12,Tryz.ntmps12
 go_upto_region 2 with (fail)
 refine nmC2 ?_;intro W b0 b1 hz hg;have hn0:w0.heap.size≤w0.heap.size:=Nat.le_refl _;obtain ⟨q,hq_q⟩ : ∃ q,q=w0.heap.size:=⟨_,rfl⟩;rw [← hq_q] at b0 b1 hz hn0 ⊢;have HQ_q:=lh hq_q;clear hq_q;have hcw:CW w0 W q (1+s % 4) (.slice none 0 0) []:=⟨b0,b1,World.ownsRow_nil _ _ _ _,hg⟩;have hqw:w0.heap.size=q:=HQ_q.out.symm;have HQW:=lh hqw;clear b0 b1 hz hg hn0 hqw;have HCW:=lh hcw;clear hcw;obtain ⟨S,hS⟩ : ∃ S,S=1+s % 4:=⟨_,rfl⟩;rw [← hS] at HCW;have hS1:1≤S∧S≤64:=by omega
 clear hS;go_wp2_with fail
 go_loopw [8] (fun v8 wr=>∃ (j:Nat),v8=.int .i64 (j:Int)∧j≤6∧∃ bs v,CW w0 wr q S v bs∧bs.length=j∧∀ x∈bs,0≤x∧x < 256) (fun v8 _=>6 - (intOf v8).toNat)
 case atStart=>exact ⟨0,rfl,by omega,[],_,HCW.out,rfl,by simp⟩
 case round=>
  obtain ⟨j,rfl,hj,bs,v,hcw,hbl,hbb⟩:=hrel;clear HCW;have HCW:=lh hcw;have HBL:=lh hbl;have HBB:=lh hbb;clear hbb;clear hcw hbl;by_cases hlt:j < 6
  ·by_cases hk:j < ns.length
   ·obtain ⟨ad',e',hx⟩:=HI.out j hk;have hin:=HB.out (ns.getD j 0) (by rw [List.getD_eq_getElem?_getD,List.getElem?_eq_getElem hk];simp);subst e';have hx':=cell_g hx HCW.out.gr;obtain ⟨b,hb⟩ : ∃ b,b=ns.getD j 0:=⟨_,rfl⟩;rw [← hb] at hin hx';clear hx hb;obtain ⟨hb0,hb1⟩:=hin;go_upto_region 8 with (fail)
    have d0:wr.cell? ⟨q+1,0,none⟩=some v:=HCW.out.b1.at 0;have hsz:=HCW.out.gr.size;have hbj:bs.length < 6:=by rw [HBL.out];exact hlt
    obtain ⟨i0,hi0⟩:=elem_u;have HI0:=lh hi0;clear hi0;go_wp2_with (at_builtin;refine wpList_push rfl _ _ 34 rfl w0.heap.size 27 i0 (.int .u64 0) 1 8 Tryz.underlying34 HI0.out rfl (by decide) _ bs.length (bs.map (Value.int .u64)) rfl HCW.out.row rfl rfl (by simp [Value.oneCell']) (by unfold maxLen;omega) (by omega) hsz ?_;intro v6 w6 h6 hg6;obtain ⟨a6,c6,rfl,_⟩:=own_slice h6;have hb6:=blk_row HCW.out.b1 HCW.out.row hg6 (by decide);have d0:w6.cell? ⟨q+1,0,none⟩=some v:=hb6.at 0;have f0:=hb6.fr 0;have H6:=lh (And.intro h6 (And.intro hg6 hb6));clear h6 hg6 hb6)
    obtain ⟨t1,_,t3⟩:=sto1 0 (.slice a6 (bs.length+1) c6) H6.out.2.2;have hb1':Blk _ (q+1) #[.slice a6 (bs.length+1) c6,.int .i64 S,.int .i64 40] 36:=t1;have hb0':=(blk_row HCW.out.b0 HCW.out.row H6.out.2.1 (by decide)).kept t3 (by simp);have hgr:=own_grown HCW.out.gr HCW.out.row (Nat.le_refl _) H6.out.2.1;have hrow:=row_kept H6.out.1 (Chg.one (S:=fun i=>i=q+1) t3 rfl) H6.out.2.2 (by decide);have hgn:=gnew hgr t3 (by have:=HQW.out;omega);refine ⟨⟨j+1,by simp,by omega,bs++[b],.slice a6 (bs.length+1) c6,⟨hb0',hb1',?_,hgn⟩,by rw [List.length_append,HBL.out];rfl,fun x hx=>?_⟩,by simp [intOf];omega⟩
    ·simpa using hrow
    ·rcases List.mem_append.1 hx with hx | hx
     ·exact HBB.out x hx
     ·rw [List.mem_singleton.1 hx];exact ⟨hb0,hb1⟩
   ·obtain ⟨b,hb⟩ : ∃ b:Int,b=10:=⟨_,rfl⟩;have hb0:0≤b:=by omega
    have hb1:b < 256:=by omega
    have HBE:=lh hb;clear hb;go_upto_region 8 with (fail)
    rw [← HBE.out];have d0:wr.cell? ⟨q+1,0,none⟩=some v:=HCW.out.b1.at 0;have hsz:=HCW.out.gr.size;have hbj:bs.length < 6:=by rw [HBL.out];exact hlt
    obtain ⟨i0,hi0⟩:=elem_u;have HI0:=lh hi0;clear hi0;go_wp2_with (at_builtin;refine wpList_push rfl _ _ 34 rfl w0.heap.size 27 i0 (.int .u64 0) 1 8 Tryz.underlying34 HI0.out rfl (by decide) _ bs.length (bs.map (Value.int .u64)) rfl HCW.out.row rfl rfl (by simp [Value.oneCell']) (by unfold maxLen;omega) (by omega) hsz ?_;intro v6 w6 h6 hg6;obtain ⟨a6,c6,rfl,_⟩:=own_slice h6;have hb6:=blk_row HCW.out.b1 HCW.out.row hg6 (by decide);have d0:w6.cell? ⟨q+1,0,none⟩=some v:=hb6.at 0;have f0:=hb6.fr 0;have H6:=lh (And.intro h6 (And.intro hg6 hb6));clear h6 hg6 hb6)
    obtain ⟨t1,_,t3⟩:=sto1 0 (.slice a6 (bs.length+1) c6) H6.out.2.2;have hb1':Blk _ (q+1) #[.slice a6 (bs.length+1) c6,.int .i64 S,.int .i64 40] 36:=t1;have hb0':=(blk_row HCW.out.b0 HCW.out.row H6.out.2.1 (by decide)).kept t3 (by simp);have hgr:=own_grown HCW.out.gr HCW.out.row (Nat.le_refl _) H6.out.2.1;have hrow:=row_kept H6.out.1 (Chg.one (S:=fun i=>i=q+1) t3 rfl) H6.out.2.2 (by decide);have hgn:=gnew hgr t3 (by have:=HQW.out;omega);refine ⟨⟨j+1,by simp,by omega,bs++[b],.slice a6 (bs.length+1) c6,⟨hb0',hb1',?_,hgn⟩,by rw [List.length_append,HBL.out];rfl,fun x hx=>?_⟩,by simp [intOf];omega⟩
    ·simpa using hrow
    ·rcases List.mem_append.1 hx with hx | hx
     ·exact HBB.out x hx
     ·rw [List.mem_singleton.1 hx];exact ⟨hb0,hb1⟩
  ·have hj6:j=6:=by omega
   subst hj6;obtain ⟨wa,wcap,rfl,hwa,_⟩:=own_slice2 HCW.out.row;obtain ⟨c0,c1,c2⟩:=HCW.out.b1.c3;obtain ⟨e0,e1,e2⟩:=HCW.out.b0.c3;obtain ⟨f0,f1,f2⟩:=HCW.out.b0.f3;go_wp2_with fail
   obtain ⟨t1,_,t3⟩:=sto3 0 1 2 (.slice wa bs.length wcap) (.int .i64 S) (.int .i64 40) HCW.out.b0;have hb0':Blk _ q #[.slice wa bs.length wcap,.int .i64 S,.int .i64 40] 36:=t1;have hgn:=gnew HCW.out.gr t3 (by have:=HQW.out;omega);have hrow:=row_kept HCW.out.row (Chg.one (S:=fun i=>i=q) t3 rfl) HCW.out.b0 (by decide);have h6:=HBL.out;refine bodyPost_ret (res_cell (cs:=#[.slice wa bs.length wcap,.int .i64 S,.int .i64 40]) (r:=q) rfl rfl (run_loadVar_blk (off:=0) hb0' _ Tryz.underlying36 rfl _ (by as_aux_lemma=>kernel_rfl) rfl)) rfl ?_;refine ⟨wa,wcap,bs,S,rfl,?_,h6,⟨by omega,by omega,hS1.1,hS1.2,by omega,by omega,fun i hi=>?_⟩,hgn⟩
   ·obtain ⟨g,rfl⟩:=hwa (by omega);exact ints_owned hrow
   ·have h:=HBB.out (bs.getD i 0) (by rw [List.getD_eq_getElem?_getD,List.getElem?_eq_getElem hi];simp);omega
end
theorem eq_nil (k:Int) (w:World):(binOp .eql 42 (.iface 46 (.int .i64 k)) .nilIface).run Tryz.prog w=.ok (.bool false) w:=by
 go_simp
theorem info_evt:(Tryz.prog.info? 68).map (fun i=>(i.zero,i.size,i.bytes))=some (some (.agg ev0C),28,304):=by kernel_rfl
theorem elem_evt : ∃ i,Elem Tryz.prog 68 i (.agg ev0C) 28 304:=info_parts info_evt
section
variable {w0:World} {ad na:Option Addr} {bs ns:List Int} {S B:Int} {c nc:Nat}
set_option maxHeartbeats 16000000 in
theorem make_calls (hb:Ints .u64 w0 ad bs) (hm:MayBe bs S B) (hb6:bs.length=6) (hn:ns=[]∨∃ g o,na=some ⟨g,o,none⟩∧Ints .u8 w0 na ns∧ns.length≤nc∧nc≤9223372036854775807∧∀ x∈ns,0≤x∧x < 256) :
  Calls Tryz.prog 13 #[cfgV ad bs.length c S B,.slice na ns.length nc] w0 fun e w'=>∃ ga ce evs,e=.returned (.slice ga evs.length ce)∧evs.length≤120∧(∀ e∈evs,EvB e)∧EvRow w' w'.heap.size ga evs∧w0.grownBy w' none:=by
 have HB:=lh hb;have HN:=lh hn;have HB6:=lh hb6;have hl0:w0.heap.size≤w0.heap.size:=Nat.le_refl _;clear hb hn hb6;unfold cfgV;go_enter Tryz.func13,Tryz.ntmps13
 go_upto_region 1 with (fail)
 refine nmC1 ?_;intro W b0 hz hg;have HB0:=lh b0;replace HB:=lh (Ints.kept HB.out hg);have HG:=lh hg;have HWS:=lh hz;obtain ⟨q0,hq0⟩ : ∃ q0,q0=w0.heap.size:=⟨_,rfl⟩;rw [← hq0] at HB0 ⊢;clear b0 hz hg hq0;obtain ⟨c0,c1,c2⟩:=HB0.out.c3;go_wp2_with fail
 refine (sof_calls (bs:=bs) HB.out hm).mono ?_;rintro e w1 ⟨I,rfl,hst,hch,hex,hmx,hg⟩;clear c0 c1 c2;have hW:=HG.out.size;have hmx2 : ∀ i,Mut I i→w0.heap.size≤i:=fun i hi=>Nat.le_trans hW (hmx i hi);replace HG:=lh (g2 HG.out hg);clear hg hmx hW HB HB0;have HH:=lh hst;have HCH:=lh hch;have HEX:=lh hex;have HMX:=lh hmx2;clear hst hch hex hmx2;have s3:=HH.out.s3;go_upto_region 5 with (fail)
 clear s3;refine nmC2 ?_;intro W2 b1 b2 hz2 hg2;have hw01:=HG.out.size;have hml1 : ∀ i,Mut I i→i < w1.heap.size:=fun i hi=>HH.out.lt hi;have HH1:=HH;have HW1:=lh hg2;obtain ⟨q1,hq_q1⟩ : ∃ q,q=w1.heap.size:=⟨_,rfl⟩;rw [← hq_q1] at b1 b2 hz2 hw01 hml1 ⊢;have HQ_q1:=lh hq_q1;clear hq_q1;replace HH:=lh (HH.out.g hg2);replace HG:=lh (g2 HG.out hg2);cases hns:ns with
 | nil=>
  rw [hns] at b2;have d1:W2.cell? ⟨q1+1,1,none⟩=some (.slice na 0 nc):=b2.at 1;clear b1 b2 hz2 hg2 hns;go_wp2_with fail
  refine wp_loop_rounds 1 ?_;rw [rounds_succ];go_wp2;go_ret;exact ⟨none,0,[],rfl,by simp,by simp,.inl rfl,HG.out⟩
 | cons n0 ns0=>
  obtain ⟨g,o,hna,hni,hnl,hnc,hnx⟩ : ∃ g o,na=some ⟨g,o,none⟩∧Ints .u8 w0 na ns∧ns.length≤nc∧nc≤9223372036854775807∧∀ x∈ns,0≤x∧x < 256:=by
   rcases HN.out with h | h
   ·rw [hns] at h;cases h
   ·exact h
  have hgl:g < w0.heap.size:=by
   have hni2:=hni;rw [hna] at hni2;exact Ints.lt hni2 (by rw [hns];simp)
  have hmk:Mk W2 (q1+1) I.p (.slice (some ⟨q1,0,none⟩) 1 1) (some g):=⟨na,nc,ns,b2,.inr ⟨g,o,hna,hni.kept HG.out,by omega,hnl,hnc,hnx⟩,fun ad e=>by rw [hna] at e;cases e;rfl⟩;have hbl:Bls W2 w0.heap.size (.slice (some ⟨q1,0,none⟩) 1 1) [1]:=by
   refine ⟨⟨by simp,.inr ⟨q1,1,_,rfl,hw01,b1,?_⟩⟩,by simp,by simp,fun x hx=>?_⟩
   ·simp [maxLen]
   ·rw [List.mem_singleton.1 hx];unfold inU;omega
  have hN:0 < (st0 bs S B).bs.length:=by show 0 < bs.length;rw [HB6.out];omega
  have hst:StoreAt W2 (MI I (q1+1) I.ch I.tb (.slice (some ⟨q1,0,none⟩) 1 1) (.slice none 0 0)) (st0 bs S B):=by
   have hqe:=HQ_q1.out;refine HH1.out.reex hN (Chg.of HW1.out) (MI I (q1+1) I.ch I.tb (.slice (some ⟨q1,0,none⟩) 1 1) (.slice none 0 0)).ex (fun i hi=>.inr ?_) (fun i hi=>?_)
   ·rcases hi with e | e | e
    ·omega
    ·have e2:q1=i:=by simpa [Value.ownBlock] using e
     omega
    ·cases e
   ·rcases hi with e | e | e
    ·omega
    ·have e2:q1=i:=by simpa [Value.ownBlock] using e
     omega
    ·cases e
  have hmw:MW w0 W2 I (q1+1) (some g) I.ch I.tb (.slice (some ⟨q1,0,none⟩) 1 1) (.slice none 0 0) (st0 bs S B) 1 [1] [] []:=
   ⟨hst,inv0 hm,HB6.out,hmk,hbl,World.ownsRow_nil _ _ _ _,by simp,by simp,HG.out,HMX.out,by omega,fun k hk=>by cases hk;exact hgl⟩
  rw [← hns];clear hns hna hni hnl hnc hnx hgl hmk hbl hml1 hst HN b1 b2 hz2 hg2 HH HG HH1 HW1 HCH HEX HMX HWS hl0;have HMW:=lh hmw;clear hmw;go_wp2_with fail
  go_loopw [8] (fun v8 wr=>∃ c2 t2 vb σ k bl,∃ (L P:List Ey),MW w0 wr I (q1+1) (some g) c2 t2 vb v8 σ k bl L P∧k≤1+L.length∧L.length≤120∧bl.length≤1+L.length) (fun v8 _=>121 - slLen v8)
  case atStart=>exact ⟨_,_,_,_,_,_,[],_,HMW.out,by simp,by simp,by simp⟩
  case round=>
   obtain ⟨c2,t2,vb,σ,k,bl,L,P,hmw,hk,hL,hbl⟩:=hrel;clear HMW;obtain ⟨oa,oc,rfl,_,_⟩:=own_slice2 hmw.row;have HMW:=lh hmw;obtain ⟨na2,nc2,ns2,hmb,_⟩:=id hmw.mm;have d1:wr.cell? ⟨q1+1,1,none⟩=some (.slice na2 ns2.length nc2):=hmb.at 1;clear hmw hmb;by_cases h0:0 < ns2.length
   ·by_cases h1:L.length < 120
    ·go_upto_region 7 with (fail)
     clear d1 h0;have hszr:=HMW.out.gr.size;go_wp2_with (first
      | (go_at_call 19;refine (event_calls HMW.out.st HMW.out.inv HMW.out.b6 HMW.out.mm HMW.out.bls (.inl rfl) (fun k hk=>Nat.lt_of_lt_of_le (HMW.out.nbl k hk) hszr)).mono ?_;rintro e w3 ⟨ev,cells,rfl,hevB,hev,hmk,hc⟩;have hsz3:=hc.size;have hev2:EvAt w3 (OkE w0 w3 (MI I (q1+1) c2 t2 vb (.slice oa L.length oc))) ev cells:=hev.chg (S:=fun _=>False) (Chg.refl _ _) (fun _ _ h=>h) (fun i hi=>⟨by have h2:=hi.1;omega,hi.2,fun hm=>by have h2:=HMW.out.st.lt hm;have h3:=hi.1;omega,fun he=>by have h2:=HMW.out.st.exlt i he;have h3:=hi.1;omega⟩);obtain ⟨va,vc,pa,pc,vw,vwc,aw,ac,bw,bc,rfl,_⟩:=id hev;have hmw:=(HMW.out.num hmk hc).add (y:=⟨ev,(evC ev va vc pa pc vw vwc aw ac bw bc)⟩) ⟨hevB,hev2,rfl⟩;clear HMW hev hev2 hmk hc hszr hsz3;have HMW:=lh hmw;have HEB:=lh hevB;clear hmw hevB)
      | (refine wpList_store_new rfl (evC ev va vc pa pc vw vwc aw ac bw bc) ⟨_,_,rfl,rfl,rfl⟩ (by as_aux_lemma=>kernel_rfl) rfl (by simp [evC,Value.oneCell']) ?_;intro w4 hbE hgE;have HBE:=lh hbE;have HFR:=lh (And.intro (fun i hm=>HMW.out.st.lt (i:=i) hm) HMW.out.st.exlt);have hmw:=HMW.out.g hgE;clear HMW hbE hgE;have HMW:=lh hmw;clear hmw)
      | refine wpList_load_blk (off:=0) HBE.out rfl _ rfl rfl _ Tryz.underlying68 rfl (evC ev va vc pa pc vw vwc aw ac bw bc) (by as_aux_lemma=>kernel_rfl) rfl ?_)
     obtain ⟨g9,hg9⟩ : ∃ g9,g9=w3.heap.size:=⟨_,rfl⟩;rw [← hg9] at HBE HFR ⊢;have hevw:EvAt w4 (fun i=>i < w4.heap.size∧¬ Mut (MI I (q1+1) c2 t2 vb (.slice oa L.length oc)) i) ev (evC ev va vc pa pc vw vwc aw ac bw bc):=
      (HMW.out.evs ⟨ev,(evC ev va vc pa pc vw vwc aw ac bw bc)⟩ (by simp)).2.1.chg (S:=fun _=>False) (Chg.refl _ _) (fun _ _ h=>h) (fun i hi=>⟨hi.2.1,hi.2.2.1⟩)
     clear hg9;refine (apply_calls HMW.out.st HMW.out.inv (by omega) HEB.out hevw).mono ?_;rintro e w5 ⟨E,I2,σ2,cs2,rfl,hapd⟩;have hq9:q1+1 < g9:=HFR.out.2 _ (.inl rfl);have hbe:=hapd.chg.blk HBE.out (fun hm=>by have:=HFR.out.1 g9 hm;omega);have hmw:=HMW.out.app hapd;clear HMW HBE HFR hapd hevw;have HMW:=lh hmw;have HBE:=lh hbe;clear hmw hbe;generalize I2.ch=c3 at HMW ⊢;generalize I2.tb=t3 at HMW;by_cases hE:E=0
     ·subst hE;rw [show errV 0=.nilIface from rfl];have k0:w5.cell? ⟨g9,0,none⟩=some (.int .i64 ev.k):=HBE.out.at 0;by_cases hk1:ev.k=1
      ·have hk1':(ev.k == 1)=true:=by simp [hk1]
       clear hk1;go_upto_region 10 with (fail)
       clear k0 hk1';obtain ⟨i1,hi1⟩:=elem_u;have HI1:=lh hi1;clear hi1;have TK:=lh fun w (hSw:(fun wr=>MW w0 wr I (q1+1) (some g) c3 t3 vb (.slice oa L.length oc) σ2 (k+1) bl L (⟨ev,(evC ev va vc pa pc vw vwc aw ac bw bc)⟩ :: P)∧Blk wr g9 (evC ev va vc pa pc vw vwc aw ac bw bc) 68) w)=>show w.cell? ⟨q1+1,2,none⟩=some vb from hSw.1.mm.c2
       refine wp_region_late (fun wr=>MW w0 wr I (q1+1) (some g) c3 t3 vb (.slice oa L.length oc) σ2 (k+1) bl L (⟨ev,(evC ev va vc pa pc vw vwc aw ac bw bc)⟩ :: P)∧Blk wr g9 (evC ev va vc pa pc vw vwc aw ac bw bc) 68) [9,12] (by as_aux_lemma=>kernel_rfl) ?_;have hgd:=gdrew (gR w5 none);have hS:(fun wr=>MW w0 wr I (q1+1) (some g) c3 t3 vb (.slice oa L.length oc) σ2 (k+1) bl L (⟨ev,(evC ev va vc pa pc vw vwc aw ac bw bc)⟩ :: P)∧Blk wr g9 (evC ev va vc pa pc vw vwc aw ac bw bc) 68) w5.drew:=⟨HMW.out.g hgd,HBE.out.g hgd⟩;clear hgd HMW HBE;generalize w5.drew=w6 at hS ⊢;refine pM 0 ?_;simp only [zz];refine pM 1 ?_;simp only [zz];refine pM 2 ?_;simp only [zz];refine pM 3 ?_;simp only [zz];refine pM 5 ?_;simp only [zz];refine pM 6 ?_;simp only [zz];refine tM 4 ?_;simp only [zz];refine rM 7 fun K hK=>?_;have e2:w6.cell? ⟨g9,2,none⟩=some (.int .u64 ev.r):=hS.2.at 2;go_simp;have hS2:=hS;refine hK.out _ _ (.inl (fun _=>hS2)) ?_;replace hS:=hS2;clear hK K hS2;try simp only [zz]
       refine rM 8 fun K hK=>?_;go_simp;refine nmA1 ?_;intro w7 hmb hgg;generalize w6.heap.size=g7 at hmb ⊢;have hS2:(fun wr=>_) w7:=And.intro (hS.1.g hgg) (hS.2.g hgg);have HMB:=lh hmb;clear hmb hgg;refine hK.out _ _ (.inl (fun _=>hS2)) ?_;replace hS:=hS2;clear hK K hS2;try simp only [zz]
       refine rM 9 fun K hK=>?_;have hsz7:=hS.1.gr.size;refine wp_append_lies _ _ _ 34 (by rfl) w0.heap.size 27 i1 (.int .u64 0) 1 8 Tryz.underlying34 HI1.out.1 HI1.out.2.1 HI1.out.2.2.1 HI1.out.2.2.2 rfl (by decide) vb bl.length (bl.map (Value.int .u64)) (by rfl) hS.1.bls.row ⟨g7,0,none⟩ 1 1
        [.int .u64 ev.r] (by rfl) (by rfl) (World.news_of_block HMB.out) (by simp [Value.oneCell']) (by omega) (by unfold maxLen;omega) (by omega) hsz7 _ rfl ?_
       intro g5 c5 w8 h5 hg5 hat5 hlt5;have hpb:=hS.1.pushb h5 hg5 (hat5.imp id (fun e=>Nat.le_of_eq e.symm)) hlt5 HEB.out.r (by omega);obtain ⟨na3,nc3,ns3,hmb3,_⟩:=id hS.1.mm;have hb8:=blk_row hmb3 hS.1.bls.row hg5 (by decide);have d2:w8.cell? ⟨q1+1,2,none⟩=some vb:=hb8.at 2;have f2:=hb8.fr 2;have hbe8:=blk_row hS.2 hS.1.bls.row hg5 (by decide);have HPB:=lh (And.intro hpb hbe8);clear hpb h5 hg5 hat5 hlt5 hmb3 hb8 hbe8 hsz7;refine hK.out _ _ (.inr (by decide)) ?_;clear hK K;try simp only [zz]
       refine pM 10 ?_;simp only [zz];refine pM 11 ?_;simp only [zz];refine rM 12 fun K hK=>?_;refine step_store_slot (v:=.slice (some ⟨g5,0,none⟩) (bl.length+1) c5) d2 f2 rfl ⟨_,_,rfl,rfl,rfl⟩ rfl rfl (by as_aux_lemma=>kernel_rfl) ?_;refine hK.out _ _ (.inr (by decide)) ?_;clear hK K;try simp only [zz]
       refine dM ?_ _;have hmw:=HPB.out.1;have hbe:=HPB.out.2.kept (gset w8 (q1+1) 2 (.slice (some ⟨g5,0,none⟩) (bl.length+1) c5)) (by simp;omega);generalize w8.setCell ⟨q1+1,2,none⟩ (.slice (some ⟨g5,0,none⟩) (bl.length+1) c5)=w10 at hmw hbe ⊢;clear hS d2 f2 HPB;have HMW:=lh hmw;have HBE:=lh hbe;clear hmw hbe;go_upto_region 11 with (fail)
       have hsz9:=HMW.out.gr.size;obtain ⟨i0,hi0⟩:=elem_evt;have HI0:=lh hi0;clear hi0;go_wp2_with (first
        | refine wpList_load_blk (off:=0) HBE.out rfl _ rfl rfl _ Tryz.underlying68 rfl #[.int .i64 ev.k,.int .i64 ev.s,.int .u64 ev.r,.int .u64 ev.q,.int .i64 ev.bs,.slice va ev.vs.length vc,.slice pa ev.ps.length pc,.int .i64 ev.v.sl,.int .u64 ev.v.hd,.int .i64 ev.v.se,.int .u64 ev.v.sr,.int .i64 ev.v.te,.int .u64 ev.v.tr,.slice vw ev.v.who.length vwc,.int .i64 ev.a.sl,.int .u64 ev.a.hd,.int .i64 ev.a.se,.int .u64 ev.a.sr,.int .i64 ev.a.te,.int .u64 ev.a.tr,.slice aw ev.a.who.length ac,.int .i64 ev.b.sl,.int .u64 ev.b.hd,.int .i64 ev.b.se,.int .u64 ev.b.sr,.int .i64 ev.b.te,.int .u64 ev.b.tr,.slice bw ev.b.who.length bc] (by as_aux_lemma=>kernel_rfl) rfl ?_
        | (at_builtin;refine wpList_push2 rfl _ _ 38 rfl w0.heap.size 68 i0 (.agg ev0C) 28 304 Tryz.underlying38 HI0.out rfl (by decide) _ L.length (L.flatMap eyC) rfl HMW.out.row rfl rfl (by simp [Value.oneCell']) (by unfold maxLen;omega) (by omega) hsz9 ?_;intro gl cl w9 hl hgl7 hatl hltl;have HL:=lh (And.intro hl (And.intro hgl7 (And.intro hatl hltl)));clear hl hgl7 hatl hltl))
       have hmw:=HMW.out.pusho (y:=⟨ev,(evC ev va vc pa pc vw vwc aw ac bw bc)⟩) HL.out.1 HL.out.2.1 HL.out.2.2.1 HL.out.2.2.2 (by simp);exact ⟨⟨_,_,_,_,_,_,L++[⟨ev,(evC ev va vc pa pc vw vwc aw ac bw bc)⟩],_,hmw,by rw [List.length_append,List.length_singleton];omega,by rw [List.length_append,List.length_singleton];omega,by simp only [List.length_append,List.length_singleton];omega⟩,by simp [slLen];omega⟩
      ·have hk1':(ev.k == 1)=false:=by simp [hk1]
       clear hk1;go_upto_region 11 with (fail)
       have hsz9:=HMW.out.gr.size;obtain ⟨i0,hi0⟩:=elem_evt;have HI0:=lh hi0;clear hi0;go_wp2_with (first
        | refine wpList_load_blk (off:=0) HBE.out rfl _ rfl rfl _ Tryz.underlying68 rfl #[.int .i64 ev.k,.int .i64 ev.s,.int .u64 ev.r,.int .u64 ev.q,.int .i64 ev.bs,.slice va ev.vs.length vc,.slice pa ev.ps.length pc,.int .i64 ev.v.sl,.int .u64 ev.v.hd,.int .i64 ev.v.se,.int .u64 ev.v.sr,.int .i64 ev.v.te,.int .u64 ev.v.tr,.slice vw ev.v.who.length vwc,.int .i64 ev.a.sl,.int .u64 ev.a.hd,.int .i64 ev.a.se,.int .u64 ev.a.sr,.int .i64 ev.a.te,.int .u64 ev.a.tr,.slice aw ev.a.who.length ac,.int .i64 ev.b.sl,.int .u64 ev.b.hd,.int .i64 ev.b.se,.int .u64 ev.b.sr,.int .i64 ev.b.te,.int .u64 ev.b.tr,.slice bw ev.b.who.length bc] (by as_aux_lemma=>kernel_rfl) rfl ?_
        | (at_builtin;refine wpList_push2 rfl _ _ 38 rfl w0.heap.size 68 i0 (.agg ev0C) 28 304 Tryz.underlying38 HI0.out rfl (by decide) _ L.length (L.flatMap eyC) rfl HMW.out.row rfl rfl (by simp [Value.oneCell']) (by unfold maxLen;omega) (by omega) hsz9 ?_;intro gl cl w9 hl hgl7 hatl hltl;have HL:=lh (And.intro hl (And.intro hgl7 (And.intro hatl hltl)));clear hl hgl7 hatl hltl))
       have hmw:=HMW.out.pusho (y:=⟨ev,(evC ev va vc pa pc vw vwc aw ac bw bc)⟩) HL.out.1 HL.out.2.1 HL.out.2.2.1 HL.out.2.2.2 (by simp);exact ⟨⟨_,_,_,_,_,_,L++[⟨ev,(evC ev va vc pa pc vw vwc aw ac bw bc)⟩],_,hmw,by rw [List.length_append,List.length_singleton];omega,by rw [List.length_append,List.length_singleton];omega,by simp only [List.length_append,List.length_singleton];omega⟩,by simp [slLen];omega⟩
     ·have hv:errV E=.iface 46 (.int .i64 E):=by unfold errV;rw [if_neg hE]
      rw [hv];have hnn:=eq_nil E;clear hE hv;go_upto_region 11 with (fail)
      have hsz9:=HMW.out.gr.size;obtain ⟨i0,hi0⟩:=elem_evt;have HI0:=lh hi0;clear hi0;go_wp2_with (first
       | refine wpList_load_blk (off:=0) HBE.out rfl _ rfl rfl _ Tryz.underlying68 rfl #[.int .i64 ev.k,.int .i64 ev.s,.int .u64 ev.r,.int .u64 ev.q,.int .i64 ev.bs,.slice va ev.vs.length vc,.slice pa ev.ps.length pc,.int .i64 ev.v.sl,.int .u64 ev.v.hd,.int .i64 ev.v.se,.int .u64 ev.v.sr,.int .i64 ev.v.te,.int .u64 ev.v.tr,.slice vw ev.v.who.length vwc,.int .i64 ev.a.sl,.int .u64 ev.a.hd,.int .i64 ev.a.se,.int .u64 ev.a.sr,.int .i64 ev.a.te,.int .u64 ev.a.tr,.slice aw ev.a.who.length ac,.int .i64 ev.b.sl,.int .u64 ev.b.hd,.int .i64 ev.b.se,.int .u64 ev.b.sr,.int .i64 ev.b.te,.int .u64 ev.b.tr,.slice bw ev.b.who.length bc] (by as_aux_lemma=>kernel_rfl) rfl ?_
       | (at_builtin;refine wpList_push2 rfl _ _ 38 rfl w0.heap.size 68 i0 (.agg ev0C) 28 304 Tryz.underlying38 HI0.out rfl (by decide) _ L.length (L.flatMap eyC) rfl HMW.out.row rfl rfl (by simp [Value.oneCell']) (by unfold maxLen;omega) (by omega) hsz9 ?_;intro gl cl w9 hl hgl7 hatl hltl;have HL:=lh (And.intro hl (And.intro hgl7 (And.intro hatl hltl)));clear hl hgl7 hatl hltl))
      have hmw:=HMW.out.pusho (y:=⟨ev,(evC ev va vc pa pc vw vwc aw ac bw bc)⟩) HL.out.1 HL.out.2.1 HL.out.2.2.1 HL.out.2.2.2 (by simp);exact ⟨⟨_,_,_,_,_,_,L++[⟨ev,(evC ev va vc pa pc vw vwc aw ac bw bc)⟩],_,hmw,by rw [List.length_append,List.length_singleton];omega,by rw [List.length_append,List.length_singleton];omega,by simp only [List.length_append,List.length_singleton];omega⟩,by simp [slLen];omega⟩
    ·have hL2:L.length=120:=by omega
     go_wp2_with fail
     go_ret;obtain ⟨ga,ce,hvo,h2,h3⟩:=HMW.out.evrow;exact ⟨ga,ce,L.map Ey.e,by rw [hvo];rfl,by rw [List.length_map];exact hL,h3,h2,HMW.out.gr⟩
   ·have hn2:ns2.length=0:=by omega
    rw [hn2] at d1;clear h0 hn2;go_wp2_with fail
    go_ret;obtain ⟨ga,ce,hvo,h2,h3⟩:=HMW.out.evrow;exact ⟨ga,ce,L.map Ey.e,by rw [hvo];rfl,by rw [List.length_map];exact hL,h3,h2,HMW.out.gr⟩
end
end Go.Proofs.YtndfpmboanohcaaGreatDoor
