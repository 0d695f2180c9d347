/- What Make holds: words. -/
import Derived.Test.YtndfpmboanohcaaGreatDoorEvp
namespace Go.Proofs.YtndfpmboanohcaaGreatDoor
set_option maxRecDepth 100000
open Go.RowKit Go.Maps SkipPure
theorem Raised.n {σ σ' : St} {cs cs' : List Cg} {je jr fe fr : Int} (h : Raised σ cs je jr fe fr σ' cs') : σ'.bs = σ.bs := h.bs.1
theorem Applied.bs {σ σ' : St} {e : Ev} {E : Int} {cs' : List Cg} (hw : StWf σ) (h : Applied σ e E σ' cs') : σ'.bs = σ.bs := by
 have hbs : σ.bs.length ≤ 1000000 := by have := hw.may.l2; omega
 rcases h with ⟨_, _, rfl, _⟩ | ⟨_, h⟩ | ⟨_, _, rfl, _⟩ | ⟨_, _, rfl, _⟩
 ·unfold tickF
  split <;> rfl
 ·rcases h with ⟨_, _, rfl, _⟩ | ⟨_, _, _, rfl, _⟩ | ⟨_, _, _, _, rfl, _⟩ | ⟨_, _, _, _, _, rfl, _⟩ | ⟨_, _, _, _, _, h⟩
  ·rfl
  ·rfl
  ·rfl
  ·rfl
  ·obtain ⟨x, σe, cse, hL, _, hrd, hend⟩ := h
   have hB : Kept (propA σ e.r e.q e.bs (propX σ e.r e.q e.bs e.vs x), [] ++ [⟨0, e.r, e.q, 0, 0, false⟩]) (propB σ [] e.r e.q e.bs (propX σ e.r e.q e.bs e.vs x) e.vs) := atts_kept e.vs _ hbs
   have hC := hB.trans (slas_kept e.ps (propB σ [] e.r e.q e.bs (propX σ e.r e.q e.bs e.vs x) e.vs) (by rw [hB.bs]; exact hbs))
   have h1 : σe.bs = σ.bs := hrd.n.trans hC.bs
   unfold PropEnd at hend
   split at hend
   ·exact hend.n.trans h1
   ·obtain ⟨rfl, rfl⟩ := hend
    exact h1
 ·rfl
 ·rfl
theorem wpList_push2 {P : Program} {ops : Array Oper} {rest : List Oper} {o : Oper} {a : Act} {Q : Exit → Act → World → Prop} {W : World} {cs : List Value} {T : TypeId} (hgd : o.guard = none) (s x : Operand) (t : TypeId) (ho : o.op = .call { callee := .builtin .append, args := #[s, x], argTypes := #[t, t] })
  (base : Nat) (e : TypeId) (i : TypeInfo) (z : Value) (size bytes : Nat) (ht : P.underlying t = some (.slice e)) (hI : Elem P e i z size bytes) (hzs : z.cells.size = size) (hsz : 0 < size)
  (v : Value) (n : Nat) (xs : List Value) (hs : a.eval s = v) (hown : W.ownsRow base e size v n xs) (hx : a.eval x = .slice (some ⟨W.heap.size, 0, none⟩) 1 1) (hl : cs.length = size) (h1 : ∀ u ∈ cs, u.oneCell' = true)
  (h63 : n + 1 ≤ maxLen) (hbytes : (n + 1) * bytes ≤ 140737488355328) (hbase : base ≤ W.heap.size)
  (h : ∀ g c w', w'.ownsRow base e size (.slice (some ⟨g, 0, none⟩) (n + 1) c) (n + 1) (xs ++ cs) → W.grownBy w' v.ownBlock → (v.ownBlock = some g ∨ W.heap.size ≤ g) → g < w'.heap.size → wpList P ops Q rest (a.put o.dst (.slice (some ⟨g, 0, none⟩) (n + 1) c)) w') :
  wpList P ops Q (o :: rest) a (W.alloc (.cells cs.toArray T)) := by
 refine wpList_append_lies (w := W.alloc (.cells cs.toArray T)) hgd s x t ho base e i z size bytes ht hI.1 hI.2.1 hI.2.2.1 hI.2.2.2 hzs hsz v n xs hs (hown.alloc _) ⟨W.heap.size, 0, none⟩ 1 1 cs hx (by simpa using hl) (news_box W cs T) h1 (by decide) h63 hbytes (by simp; omega) _ rfl ?_
 intro g c w' r1 r2 r3 r4
 exact h g c w' r1 ((gweak (World.grownBy_alloc W _ none)).andThen r2 (fun j e => Or.inr e)) (r3.imp id (fun e => by rw [e]; simp)) r4
structure Ey where
 e : Ev
 c : Array Value
def eyC (y : Ey) : List Value := y.c.toList
abbrev MI (I : Ids) (mp : Nat) (c2 : Value) (t2 : Nat) (vb vo : Value) : Ids := { I with ch := c2, tb := t2, ex := fun i => i = mp ∨ vb.ownBlock = some i ∨ vo.ownBlock = some i }
def OkE (w0 w : World) (I : Ids) (i : Nat) : Prop := w0.heap.size ≤ i ∧ i < w.heap.size ∧ ¬ Mut I i ∧ ¬ I.ex i
structure MW (w0 w : World) (I : Ids) (mp : Nat) (nb : Option Nat) (c2 : Value) (t2 : Nat) (vb vo : Value) (σ : St) (k : Nat) (bl : List Int) (L P : List Ey) : Prop where
 st : StoreAt w (MI I mp c2 t2 vb vo) σ
 inv : Inv σ k
 b6 : σ.bs.length = 6
 mm : Mk w mp I.p vb nb
 bls : Bls w w0.heap.size vb bl
 row : w.ownsRow w0.heap.size 68 28 vo L.length (L.flatMap eyC)
 sub : ∀ y ∈ L, y ∈ P
 evs : ∀ y ∈ P, EvB y.e ∧ EvAt w (OkE w0 w (MI I mp c2 t2 vb vo)) y.e y.c ∧ y.c.size = 28
 gr : w0.grownBy w none
 mx : ∀ i, Mut (MI I mp c2 t2 vb vo) i → w0.heap.size ≤ i
 mpl : w0.heap.size ≤ mp
 nbl : ∀ k, nb = some k → k < w0.heap.size
section
variable {w0 w w' : World} {I : Ids} {mp : Nat} {nb : Option Nat} {c2 : Value} {t2 : Nat} {vb vo : Value} {σ : St} {k : Nat} {bl : List Int} {L P : List Ey}
theorem MW.g (h : MW w0 w I mp nb c2 t2 vb vo σ k bl L P) (hg : w.grownBy w' none) : MW w0 w' I mp nb c2 t2 vb vo σ k bl L P :=
 ⟨h.st.g hg, h.inv, h.b6, h.mm.g hg, h.bls.g hg, ownsRow_g h.row hg, h.sub, fun y hy => ⟨(h.evs y hy).1, (h.evs y hy).2.1.chg (S := fun _ => False) (Chg.of hg) (fun _ _ h => h) (fun _ hi => ⟨hi.1, Nat.lt_of_lt_of_le hi.2.1 hg.size, hi.2.2⟩), (h.evs y hy).2.2⟩, g2 h.gr hg, h.mx, h.mpl, h.nbl⟩
theorem MW.add (h : MW w0 w I mp nb c2 t2 vb vo σ k bl L P) {y : Ey} (hy : EvB y.e ∧ EvAt w (OkE w0 w (MI I mp c2 t2 vb vo)) y.e y.c ∧ y.c.size = 28) : MW w0 w I mp nb c2 t2 vb vo σ k bl L (y :: P) :=
 ⟨h.st, h.inv, h.b6, h.mm, h.bls, h.row, fun z hz => List.mem_cons_of_mem _ (h.sub z hz), fun z hz => by
  rcases List.mem_cons.1 hz with rfl | hz
  ·exact hy
  ·exact h.evs z hz, h.gr, h.mx, h.mpl, h.nbl⟩
def slLen : Value → Nat
 | .slice _ n _ => n
 | _ => 0
theorem MW.num (h : MW w0 w I mp nb c2 t2 vb vo σ k bl L P) (hm : Mk w' mp I.p vb nb) (hc : Chg (fun i => i = mp) w w') : MW w0 w' I mp nb c2 t2 vb vo σ k bl L P := by
 obtain ⟨na, nc, ns, hb, _⟩ := id h.mm
 exact ⟨h.st.exch hc (fun _ e => .inl e), h.inv, h.b6, hm, h.bls.chg hc (h.bls.ne h.mm), row_kept h.row hc hb (by decide), h.sub,
  fun y hy => ⟨(h.evs y hy).1, (h.evs y hy).2.1.chg hc (fun i hi e => hi.2.2.2 (.inl e)) (fun i hi => ⟨hi.1, Nat.lt_of_lt_of_le hi.2.1 hc.size, hi.2.2⟩), (h.evs y hy).2.2⟩,
  ((Chg.of h.gr).trans hc).non (fun i e => by rw [e]; exact h.mpl), h.mx, h.mpl, h.nbl⟩
theorem MW.app (h : MW w0 w I mp nb c2 t2 vb vo σ k bl L P) {I2 : Ids} {σ2 : St} {e : Ev} {E : Int} {cs2 : List Cg} (ha : Apd w w' (MI I mp c2 t2 vb vo) I2 σ σ2 k e E cs2) : MW w0 w' I mp nb I2.ch I2.tb vb vo σ2 (k + 1) bl L P := by
 have hst := ha.st
 rw [ha.ids] at hst
 have hst2 : StoreAt w' (MI I mp I2.ch I2.tb vb vo) σ2 := hst
 have hsz := h.gr.size
 have hex : ∀ i, (MI I mp c2 t2 vb vo).ex i → ¬ Mut (MI I mp c2 t2 vb vo) i := h.st.exd
 have hmm : ∀ i, i < w.heap.size → Mut (MI I mp I2.ch I2.tb vb vo) i → Mut (MI I mp c2 t2 vb vo) i := fun i hi hm => by
  rcases hm with e | e | e | e | e | e
  ·exact .inl e
  ·exact .inr (.inl e)
  ·rcases ha.tbn with h1 | h1
   ·exact .inr (.inr (.inl (e.trans h1)))
   ·have e2 : i = I2.tb := e
    omega
  ·exact .inr (.inr (.inr (.inl e)))
  ·exact .inr (.inr (.inr (.inr (.inl e))))
  ·exact .inr (.inr (.inr (.inr (.inr e))))
 refine ⟨hst2, ha.inv, by rw [ha.ap.bs h.inv.wf]; exact h.b6, h.mm.chg ha.chg (hex _ (.inl rfl)) (fun b hb hm => ?_), h.bls.chg ha.chg (fun b hb => hex b (.inr (.inl hb))), rowChg h.row ha.chg (fun b hb => hex b (.inr (.inr hb))), h.sub,
  fun y hy => ⟨(h.evs y hy).1, (h.evs y hy).2.1.chg ha.chg (fun i hi => hi.2.2.1) (fun i hi => ⟨hi.1, Nat.lt_of_lt_of_le hi.2.1 ha.chg.size, fun hm => hi.2.2.1 (hmm i hi.2.1 hm), hi.2.2.2⟩), (h.evs y hy).2.2⟩,
  ((Chg.of h.gr).trans ha.chg).non h.mx, fun i hi => ?_, h.mpl, h.nbl⟩
 ·have := h.mx b hm
  have := h.nbl b hb
  omega
 ·rcases Nat.lt_or_ge i w.heap.size with hl | hl
  ·exact h.mx i (hmm i hl hi)
  ·omega
theorem MW.pushb (h : MW w0 w I mp nb c2 t2 vb vo σ k bl L P) {w5 : World} {g5 c5 : Nat} {r : Int} (hown : w5.ownsRow w0.heap.size 27 1 (.slice (some ⟨g5, 0, none⟩) (bl.length + 1) c5) (bl.length + 1) (bl.map (Value.int .u64) ++ [.int .u64 r])) (hg : w.grownBy w5 vb.ownBlock)
  (hat : vb.ownBlock = some g5 ∨ w.heap.size ≤ g5) (hlt : g5 < w5.heap.size) (hr : inU r) (hn : bl.length + 1 ≤ 1000000) :
  MW w0 (w5.setCell ⟨mp, 2, none⟩ (.slice (some ⟨g5, 0, none⟩) (bl.length + 1) c5)) I mp nb c2 t2 (.slice (some ⟨g5, 0, none⟩) (bl.length + 1) c5) vo σ k (bl ++ [r]) L P := by
 obtain ⟨na, nc, ns, hb, hnum, hnb⟩ := id h.mm
 have hb5 := blk_row hb h.bls.row hg (by decide)
 have hgs := gset w5 mp 2 (.slice (some ⟨g5, 0, none⟩) (bl.length + 1) c5)
 have hset := hb5.set 2 (.slice (some ⟨g5, 0, none⟩) (bl.length + 1) c5)
 have hc1 : Chg (fun i => vb.ownBlock = some i) w w5 := ⟨hg.os, hg.tape, hg.output, hg.size, fun i hi hn => hg.block i hi (fun e => hn e.symm)⟩
 have hc2 : Chg (fun i => i = mp) w5 (w5.setCell ⟨mp, 2, none⟩ (.slice (some ⟨g5, 0, none⟩) (bl.length + 1) c5)) := Chg.one hgs rfl
 have hN : 0 < σ.bs.length := by have := h.b6; omega
 have hcx : Chg (MI I mp c2 t2 vb vo).ex w (w5.setCell ⟨mp, 2, none⟩ (.slice (some ⟨g5, 0, none⟩) (bl.length + 1) c5)) := (hc1.mono (fun i e => .inr (.inl e))).trans (hc2.mono (fun i e => .inl e))
 have hsz := hcx.size
 have hexlt := h.st.exlt
 have hx : ∀ i, (MI I mp c2 t2 (.slice (some ⟨g5, 0, none⟩) (bl.length + 1) c5) vo).ex i → (MI I mp c2 t2 vb vo).ex i ∨ w.heap.size ≤ i := fun i hi => by
  rcases hi with e | e | e
  ·exact .inl (.inl e)
  ·have e2 : g5 = i := by simpa [Value.ownBlock] using e
   subst e2
   rcases hat with h1 | h1
   ·exact .inl (.inr (.inl h1))
   ·exact .inr h1
  ·exact .inl (.inr (.inr e))
 have hst := h.st.reex hN hcx (MI I mp c2 t2 (.slice (some ⟨g5, 0, none⟩) (bl.length + 1) c5) vo).ex hx (fun i hi => by
  rcases hi with e | e | e
  ·exact Nat.lt_of_lt_of_le (hexlt i (.inl e)) hsz
  ·have e2 : g5 = i := by simpa [Value.ownBlock] using e
   subst e2
   simpa using hlt
  ·exact Nat.lt_of_lt_of_le (hexlt i (.inr (.inr e))) hsz)
 have hnn : ∀ ad, na = some ad → ¬ (MI I mp c2 t2 vb vo).ex ad.block := fun ad e he => by
  have h1 := h.nbl _ (hnb ad e)
  have h2 := h.mpl
  rcases he with e3 | e3 | e3
  ·omega
  ·have := (h.bls.row.lt _ e3).1
   omega
  ·have := (h.row.lt _ e3).1
   omega
 refine ⟨hst, h.inv, h.b6, ⟨na, nc, ns, hset, hnum.chg hcx hnn, hnb⟩, ⟨?_, by simp, by simpa using hn, fun x hx => ?_⟩, row_kept (row_apart h.row h.bls.row hg (by decide)) hc2 hb5 (by decide), h.sub,
  fun y hy => ⟨(h.evs y hy).1, (h.evs y hy).2.1.chg hcx (fun i hi => hi.2.2.2) (fun i hi => ⟨hi.1, Nat.lt_of_lt_of_le hi.2.1 hsz, hi.2.2.1, fun he => (hx i he).elim hi.2.2.2 (fun h1 => by have := hi.2.1; omega)⟩), (h.evs y hy).2.2⟩,
  ((Chg.of h.gr).trans hcx).non (fun i he => ?_), h.mx, h.mpl, h.nbl⟩
 ·have hr5 := row_kept hown hc2 hb5 (by decide)
  simpa using hr5
 ·rcases List.mem_append.1 hx with hx | hx
  ·exact h.bls.u x hx
  ·rw [List.mem_singleton.1 hx]; exact hr
 ·rcases he with e3 | e3 | e3
  ·rw [e3]; exact h.mpl
  ·exact (h.bls.row.lt _ e3).1
  ·exact (h.row.lt _ e3).1
theorem MW.pusho (h : MW w0 w I mp nb c2 t2 vb vo σ k bl L P) {w5 : World} {g5 c5 : Nat} {y : Ey} (hown : w5.ownsRow w0.heap.size 68 28 (.slice (some ⟨g5, 0, none⟩) (L.length + 1) c5) (L.length + 1) (L.flatMap eyC ++ eyC y)) (hg : w.grownBy w5 vo.ownBlock)
  (hat : vo.ownBlock = some g5 ∨ w.heap.size ≤ g5) (hlt : g5 < w5.heap.size) (hy : y ∈ P) :
  MW w0 w5 I mp nb c2 t2 vb (.slice (some ⟨g5, 0, none⟩) (L.length + 1) c5) σ k bl (L ++ [y]) P := by
 obtain ⟨na, nc, ns, hb, hnum, hnb⟩ := id h.mm
 have hc1 : Chg (fun i => vo.ownBlock = some i) w w5 := ⟨hg.os, hg.tape, hg.output, hg.size, fun i hi hn => hg.block i hi (fun e => hn e.symm)⟩
 have hN : 0 < σ.bs.length := by have := h.b6; omega
 have hcx : Chg (MI I mp c2 t2 vb vo).ex w w5 := hc1.mono (fun i e => .inr (.inr e))
 have hsz := hcx.size
 have hexlt := h.st.exlt
 have hx : ∀ i, (MI I mp c2 t2 vb (.slice (some ⟨g5, 0, none⟩) (L.length + 1) c5)).ex i → (MI I mp c2 t2 vb vo).ex i ∨ w.heap.size ≤ i := fun i hi => by
  rcases hi with e | e | e
  ·exact .inl (.inl e)
  ·exact .inl (.inr (.inl e))
  ·have e2 : g5 = i := by simpa [Value.ownBlock] using e
   subst e2
   rcases hat with h1 | h1
   ·exact .inl (.inr (.inr h1))
   ·exact .inr h1
 have hst := h.st.reex hN hcx (MI I mp c2 t2 vb (.slice (some ⟨g5, 0, none⟩) (L.length + 1) c5)).ex hx (fun i hi => by
  rcases hi with e | e | e
  ·exact Nat.lt_of_lt_of_le (hexlt i (.inl e)) hsz
  ·exact Nat.lt_of_lt_of_le (hexlt i (.inr (.inl e))) hsz
  ·have e2 : g5 = i := by simpa [Value.ownBlock] using e
   subst e2
   exact hlt)
 have hev : ∀ z : Ey, EvB z.e ∧ EvAt w (OkE w0 w (MI I mp c2 t2 vb vo)) z.e z.c ∧ z.c.size = 28 → EvB z.e ∧ EvAt w5 (OkE w0 w5 (MI I mp c2 t2 vb (.slice (some ⟨g5, 0, none⟩) (L.length + 1) c5))) z.e z.c ∧ z.c.size = 28 := fun z hz =>
  ⟨hz.1, hz.2.1.chg hcx (fun i hi => hi.2.2.2) (fun i hi => ⟨hi.1, Nat.lt_of_lt_of_le hi.2.1 hsz, hi.2.2.1, fun he => (hx i he).elim hi.2.2.2 (fun h1 => by have := hi.2.1; omega)⟩), hz.2.2⟩
 refine ⟨hst, h.inv, h.b6, h.mm.chg hc1 (fun e => ?_) (fun b hb2 e => ?_), ⟨row_apart h.bls.row h.row hg (by decide), h.bls.n, h.bls.n2, h.bls.u⟩, ?_, fun z hz => ?_, fun z hz => hev z (h.evs z hz), ((Chg.of h.gr).trans hc1).non (fun i he => (h.row.lt _ he).1), h.mx, h.mpl, h.nbl⟩
 ·obtain ⟨cur, hcur⟩ := ownsRow_ty h.row e
  exact h.mm.ne hcur (by decide) rfl
 ·have := h.nbl _ hb2
  have := (h.row.lt _ e).1
  omega
 ·simpa using hown
 ·rcases List.mem_append.1 hz with hz | hz
  ·exact h.sub z hz
  ·rw [List.mem_singleton.1 hz]; exact hy
theorem MW.evrow (h : MW w0 w I mp nb c2 t2 vb vo σ k bl L P) : ∃ ga ce, vo = .slice ga (L.map Ey.e).length ce ∧ EvRow w w.heap.size ga (L.map Ey.e) ∧ ∀ e ∈ L.map Ey.e, EvB e := by
 obtain ⟨ga, ce, e, h1, _⟩ := own_slice2 h.row
 refine ⟨ga, ce, by rw [List.length_map]; exact e, ?_, fun e he => ?_⟩
 ·rcases Nat.eq_zero_or_pos L.length with h0 | h0
  ·exact .inl (by rw [List.eq_nil_of_length_eq_zero h0]; rfl)
  ·obtain ⟨g, rfl⟩ := h1 h0
   have hrow := h.row
   rw [e] at hrow
   refine .inr ⟨g, rfl, (hrow.lt g rfl).2, fun j ev hj => ?_⟩
   rw [List.getElem?_map] at hj
   obtain ⟨y, hy, rfl⟩ := Option.map_eq_some_iff.1 hj
   have hym := h.evs y (h.sub y (List.mem_of_getElem? hy))
   refine ⟨y.c, hym.2.1.chg (S := fun _ => False) (Chg.refl _ _) (fun _ _ h => h) (fun i hi => hi.2.1), fun t v hv => ?_⟩
   have ht : t < 28 := by
    have := (Array.getElem?_eq_some_iff.1 hv).1
    have := hym.2.2
    omega
   have hf : (L.flatMap eyC)[j * 28 + t]? = some v := by
    have hall : ∀ (M : List Ey), (∀ z ∈ M, z.c.size = 28) → ∀ (i : Nat) (x : Ey), M[i]? = some x → (M.flatMap eyC)[i * 28 + t]? = (eyC x)[t]? := by
     intro M
     induction M with
     | nil => intro _ i x hx; simp at hx
     | cons z M ih =>
      intro hz i x hx
      have hl : (eyC z).length = 28 := by show z.c.toList.length = 28; rw [Array.length_toList]; exact hz z (by simp)
      cases i with
      | zero =>
       obtain rfl : z = x := by simpa using hx
       show (eyC z ++ M.flatMap eyC)[0 * 28 + t]? = _
       rw [List.getElem?_append_left (by omega)]
       simp
      | succ i =>
       rw [List.getElem?_cons_succ] at hx
       show (eyC z ++ M.flatMap eyC)[(i + 1) * 28 + t]? = _
       rw [List.getElem?_append_right (by omega), hl, show (i + 1) * 28 + t - 28 = i * 28 + t from by omega]
       exact ih (fun z hz' => hz z (List.mem_cons_of_mem _ hz')) i x hx
    rw [hall L (fun z hz => (h.evs z (h.sub z hz)).2.2) j y hy]
    show y.c.toList[t]? = some v
    simpa using hv
   have hcell := hrow.cells (g := g) rfl (j * 28 + t) v hf
   rw [add0] at hcell
   exact hcell
 ·obtain ⟨y, hy, rfl⟩ := List.mem_map.1 he
  exact (h.evs y (h.sub y hy)).1
end
theorem info_u : (Tryz.prog.info? 27).map (fun i => (i.zero, i.size, i.bytes)) = some (some (.int .u64 0), 1, 8) := by kernel_rfl
theorem elem_u : ∃ i, Elem Tryz.prog 27 i (.int .u64 0) 1 8 := info_parts info_u
structure CW (w0 w : World) (q : Nat) (S : Int) (v : Value) (bs : List Int) : Prop where
 b0 : Blk w q #[.slice none 0 0, .int .i64 0, .int .i64 0] 36
 b1 : Blk w (q + 1) #[v, .int .i64 S, .int .i64 40] 36
 row : w.ownsRow w0.heap.size 27 1 v bs.length (bs.map (Value.int .u64))
 gr : w0.grownBy w none
section
variable {w0 : World} {na : Option Addr} {nc : Nat} {ns : List Int} {s : Int}
set_option maxHeartbeats 8000000 in
theorem config_calls (hi : Ints .u8 w0 na ns) (hb : ∀ x ∈ ns, 0 ≤ x ∧ x < 256) (hs : 0 ≤ s ∧ s < 256) :
  Calls Tryz.prog 12 #[.slice na ns.length nc, .int .u8 s, .int .u8 40] w0 fun e w' => ∃ ad c bs S, e = .returned (cfgV ad bs.length c S 40) ∧ Ints .u64 w' ad bs ∧ bs.length = 6 ∧ MayBe bs S 40 ∧ w0.grownBy w' none := by
 have HI := lh hi
 have HB := lh hb
 clear hi hb
 go_enter Tryz.func12, Tryz.ntmps12
 go_upto_region 2 with (fail)
 refine nmC2 ?_
 intro W b0 b1 hz hg
 have hn0 : w0.heap.size ≤ w0.heap.size := Nat.le_refl _
 obtain ⟨q, hq_q⟩ : ∃ q, q = w0.heap.size := ⟨_, rfl⟩
 rw [← hq_q] at b0 b1 hz hn0 ⊢
 have HQ_q := lh hq_q
 clear hq_q
 have hcw : CW w0 W q (1 + s % 4) (.slice none 0 0) [] := ⟨b0, b1, World.ownsRow_nil _ _ _ _, hg⟩
 have hqw : w0.heap.size = q := HQ_q.out.symm
 have HQW := lh hqw
 clear b0 b1 hz hg hn0 hqw
 have HCW := lh hcw
 clear hcw
 obtain ⟨S, hS⟩ : ∃ S, S = 1 + s % 4 := ⟨_, rfl⟩
 rw [← hS] at HCW
 have hS1 : 1 ≤ S ∧ S ≤ 64 := by omega
 clear hS
 go_wp2_with fail
 go_loopw [8] (fun v8 wr => ∃ (j : Nat), v8 = .int .i64 (j : Int) ∧ j ≤ 6 ∧ ∃ bs v, CW w0 wr q S v bs ∧ bs.length = j ∧ ∀ x ∈ bs, 0 ≤ x ∧ x < 256) (fun v8 _ => 6 - (intOf v8).toNat)
 case atStart => exact ⟨0, rfl, by omega, [], _, HCW.out, rfl, by simp⟩
 case round =>
  obtain ⟨j, rfl, hj, bs, v, hcw, hbl, hbb⟩ := hrel
  clear HCW
  have HCW := lh hcw
  have HBL := lh hbl
  have HBB := lh hbb
  clear hbb
  clear hcw hbl
  by_cases hlt : j < 6
  ·by_cases hk : j < ns.length
   ·obtain ⟨ad', e', hx⟩ := HI.out j hk
    have hin := HB.out (ns.getD j 0) (by rw [List.getD_eq_getElem?_getD, List.getElem?_eq_getElem hk]; simp)
    subst e'
    have hx' := cell_g hx HCW.out.gr
    obtain ⟨b, hb⟩ : ∃ b, b = ns.getD j 0 := ⟨_, rfl⟩
    rw [← hb] at hin hx'
    clear hx hb
    obtain ⟨hb0, hb1⟩ := hin
    go_upto_region 8 with (fail)
    have d0 : wr.cell? ⟨q + 1, 0, none⟩ = some v := HCW.out.b1.at 0
    have hsz := HCW.out.gr.size
    have hbj : bs.length < 6 := by rw [HBL.out]; exact hlt
    obtain ⟨i0, hi0⟩ := elem_u
    have HI0 := lh hi0
    clear hi0
    go_wp2_with (at_builtin; refine wpList_push rfl _ _ 34 rfl w0.heap.size 27 i0 (.int .u64 0) 1 8 Tryz.underlying34 HI0.out rfl (by decide) _ bs.length (bs.map (Value.int .u64)) rfl HCW.out.row rfl rfl (by simp [Value.oneCell']) (by unfold maxLen; omega) (by omega) hsz ?_; intro v6 w6 h6 hg6; obtain ⟨a6, c6, rfl, _⟩ := own_slice h6; have hb6 := blk_row HCW.out.b1 HCW.out.row hg6 (by decide); have d0 : w6.cell? ⟨q + 1, 0, none⟩ = some v := hb6.at 0; have f0 := hb6.fr 0; have H6 := lh (And.intro h6 (And.intro hg6 hb6)); clear h6 hg6 hb6)
    obtain ⟨t1, _, t3⟩ := sto1 0 (.slice a6 (bs.length + 1) c6) H6.out.2.2
    have hb1' : Blk _ (q + 1) #[.slice a6 (bs.length + 1) c6, .int .i64 S, .int .i64 40] 36 := t1
    have hb0' := (blk_row HCW.out.b0 HCW.out.row H6.out.2.1 (by decide)).kept t3 (by simp)
    have hgr := own_grown HCW.out.gr HCW.out.row (Nat.le_refl _) H6.out.2.1
    have hrow := row_kept H6.out.1 (Chg.one (S := fun i => i = q + 1) t3 rfl) H6.out.2.2 (by decide)
    have hgn := gnew hgr t3 (by have := HQW.out; omega)
    refine ⟨⟨j + 1, by simp, by omega, bs ++ [b], .slice a6 (bs.length + 1) c6, ⟨hb0', hb1', ?_, hgn⟩, by rw [List.length_append, HBL.out]; rfl, fun x hx => ?_⟩, by simp [intOf]; omega⟩
    ·simpa using hrow
    ·rcases List.mem_append.1 hx with hx | hx
     ·exact HBB.out x hx
     ·rw [List.mem_singleton.1 hx]; exact ⟨hb0, hb1⟩
   ·obtain ⟨b, hb⟩ : ∃ b : Int, b = 10 := ⟨_, rfl⟩
    have hb0 : 0 ≤ b := by omega
    have hb1 : b < 256 := by omega
    have HBE := lh hb
    clear hb
    go_upto_region 8 with (fail)
    rw [← HBE.out]
    have d0 : wr.cell? ⟨q + 1, 0, none⟩ = some v := HCW.out.b1.at 0
    have hsz := HCW.out.gr.size
    have hbj : bs.length < 6 := by rw [HBL.out]; exact hlt
    obtain ⟨i0, hi0⟩ := elem_u
    have HI0 := lh hi0
    clear hi0
    go_wp2_with (at_builtin; refine wpList_push rfl _ _ 34 rfl w0.heap.size 27 i0 (.int .u64 0) 1 8 Tryz.underlying34 HI0.out rfl (by decide) _ bs.length (bs.map (Value.int .u64)) rfl HCW.out.row rfl rfl (by simp [Value.oneCell']) (by unfold maxLen; omega) (by omega) hsz ?_; intro v6 w6 h6 hg6; obtain ⟨a6, c6, rfl, _⟩ := own_slice h6; have hb6 := blk_row HCW.out.b1 HCW.out.row hg6 (by decide); have d0 : w6.cell? ⟨q + 1, 0, none⟩ = some v := hb6.at 0; have f0 := hb6.fr 0; have H6 := lh (And.intro h6 (And.intro hg6 hb6)); clear h6 hg6 hb6)
    obtain ⟨t1, _, t3⟩ := sto1 0 (.slice a6 (bs.length + 1) c6) H6.out.2.2
    have hb1' : Blk _ (q + 1) #[.slice a6 (bs.length + 1) c6, .int .i64 S, .int .i64 40] 36 := t1
    have hb0' := (blk_row HCW.out.b0 HCW.out.row H6.out.2.1 (by decide)).kept t3 (by simp)
    have hgr := own_grown HCW.out.gr HCW.out.row (Nat.le_refl _) H6.out.2.1
    have hrow := row_kept H6.out.1 (Chg.one (S := fun i => i = q + 1) t3 rfl) H6.out.2.2 (by decide)
    have hgn := gnew hgr t3 (by have := HQW.out; omega)
    refine ⟨⟨j + 1, by simp, by omega, bs ++ [b], .slice a6 (bs.length + 1) c6, ⟨hb0', hb1', ?_, hgn⟩, by rw [List.length_append, HBL.out]; rfl, fun x hx => ?_⟩, by simp [intOf]; omega⟩
    ·simpa using hrow
    ·rcases List.mem_append.1 hx with hx | hx
     ·exact HBB.out x hx
     ·rw [List.mem_singleton.1 hx]; exact ⟨hb0, hb1⟩
  ·have hj6 : j = 6 := by omega
   subst hj6
   obtain ⟨wa, wcap, rfl, hwa, _⟩ := own_slice2 HCW.out.row
   obtain ⟨c0, c1, c2⟩ := HCW.out.b1.c3
   obtain ⟨e0, e1, e2⟩ := HCW.out.b0.c3
   obtain ⟨f0, f1, f2⟩ := HCW.out.b0.f3
   go_wp2_with fail
   obtain ⟨t1, _, t3⟩ := sto3 0 1 2 (.slice wa bs.length wcap) (.int .i64 S) (.int .i64 40) HCW.out.b0
   have hb0' : Blk _ q #[.slice wa bs.length wcap, .int .i64 S, .int .i64 40] 36 := t1
   have hgn := gnew HCW.out.gr t3 (by have := HQW.out; omega)
   have hrow := row_kept HCW.out.row (Chg.one (S := fun i => i = q) t3 rfl) HCW.out.b0 (by decide)
   have h6 := HBL.out
   refine bodyPost_ret (res_cell (cs := #[.slice wa bs.length wcap, .int .i64 S, .int .i64 40]) (r := q) rfl rfl (run_loadVar_blk (off := 0) hb0' _ Tryz.underlying36 rfl _ (by as_aux_lemma => kernel_rfl) rfl)) rfl ?_
   refine ⟨wa, wcap, bs, S, rfl, ?_, h6, ⟨by omega, by omega, hS1.1, hS1.2, by omega, by omega, fun i hi => ?_⟩, hgn⟩
   ·obtain ⟨g, rfl⟩ := hwa (by omega)
    exact ints_owned hrow
   ·have h := HBB.out (bs.getD i 0) (by rw [List.getD_eq_getElem?_getD, List.getElem?_eq_getElem hi]; simp)
    omega
end
end Go.Proofs.YtndfpmboanohcaaGreatDoor
