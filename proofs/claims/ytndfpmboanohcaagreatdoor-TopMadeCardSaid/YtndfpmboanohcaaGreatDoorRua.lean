/- Contract of replay.Run in the array engine, over any events. -/
import Derived.Test.YtndfpmboanohcaaGreatDoorFea
import Derived.Test.YtndfpmboanohcaaGreatDoorNub
import Derived.Test.YtndfpmboanohcaaGreatDoorRepToRun
namespace Go.Proofs.YtndfpmboanohcaaGreatDoor
set_option maxRecDepth 100000
open Go.RowKit Go.Maps SkipPure
theorem run_loadVar_at {P : Program} {w : World} {g off : Nat} {ty : TypeId} (cs : Array Value) (h : ∀ t v, cs[t]? = some v → w.cell? ⟨g, off + t, none⟩ = some v) (d : TypeDesc)
  (hu : P.underlying ty = some d) (hd : (match d with | .struct _ | .array _ _ => true | _ => false) = true) (hi : (P.info? ty).map (·.size) = some cs.size) : (loadVar ty ⟨g, off, none⟩).run P w = .ok (.agg cs) w := by
 have hl : (loadCells ⟨g, off, none⟩ cs.toList.length).run P w = .ok cs.toList.toArray w :=
  run_loadCells_list (P := P) (w := w) ⟨g, off, none⟩ cs.toList (fun j v hv => by
   have hadd : (⟨g, off, none⟩ : Addr).add j = ⟨g, off + j, none⟩ := by unfold Addr.add; split <;> simp_all
   rw [hadd]
   exact h j v (by simpa using hv))
 cases hq : P.info? ty with
 | none => simp [hq] at hi
 | some i =>
  have hs : i.size = cs.size := by simpa [hq] using hi
  have hagg : (isAgg ty).run P w = .ok true w := by
   unfold isAgg
   rw [Sem.run_bind, run_underlying hu w]
   cases d <;> simp_all
  simp only [Array.length_toList, Array.toArray_toList] at hl
  simp [loadVar, Sem.run_bind, hagg, sizeOf, typeInfo, hq, hs, hl]
theorem wpList_load_at {P : Program} {ops : Array Oper} {rest : List Oper} {o : Oper} {a : Act} {w : World} {Q : Exit → Act → World → Prop} {g off : Nat} {ty : TypeId} (cs : Array Value) (h : ∀ t v, cs[t]? = some v → w.cell? ⟨g, off + t, none⟩ = some v) (hgd : o.guard = none) (x : Operand) (ho : o.op = .load ty x) (hx : a.eval x = .pointer (some ⟨g, off, none⟩)) (d : TypeDesc)
  (hu : P.underlying ty = some d) (hd : (match d with | .struct _ | .array _ _ => true | _ => false) = true) (hi : (P.info? ty).map (·.size) = some cs.size)
  (hK : wpList P ops Q rest (a.put o.dst (.agg cs)) w) : wpList P ops Q (o :: rest) a w :=
 wpList_plain hgd fun K' hK' => by
  unfold Oper.wp execOp
  simp only [ho, hx, Instr.loadAt, Instr.sureAddr, Sem.run_bind, Sem.run_pure, Result.andThen_ok, run_loadVar_at cs h d hu hd hi]
  exact hK' _ _ hK
theorem key0 {bs : List Int} {S B r : Int} (h : ((st0 bs S B).F r).isSome = true) : r = 1 := by
 have h2 : (if r = 1 then some ((1 : Int), (0 : Int), (0 : Int)) else none).isSome = true := h
 split at h2
 ·assumption
 ·cases h2
theorem F0 (bs : List Int) (S B : Int) : (st0 bs S B).F 1 = some (1, 0, 0) := rfl
theorem ledBd1 (n : Nat) (e : Int) (he : e = 1) : LedBd (led0 n e) := by
 subst he
 exact ⟨⟨by simp [led0], by simp [led0], by simp [led0], by simp [led0], by simp [led0], by simp [led0], by simp [led0, inU], by simp [led0, inU], by simp [led0, inU]⟩, by simp [led0], by simp [led0]⟩
theorem inv0 {bs : List Int} {S B : Int} (hm : MayBe bs S B) : Inv (st0 bs S B) 1 := by
 have hF : ∀ r x, (st0 bs S B).F r = some x → r = 1 ∧ x = (1, 0, 0) := fun r x h => by
  have e := key0 (bs := bs) (S := S) (B := B) (r := r) (by rw [h]; rfl)
  subst e
  rw [F0] at h
  exact ⟨rfl, (Option.some.inj h).symm⟩
 refine ⟨⟨hm, ⟨rfl, fun r x h hr => absurd (hF r x h).1 hr, fun r x h => ?_, fun r x h => ?_, fun r x h => ?_⟩, by show 1 ≤ 1024; omega, ⟨[1], by show 1 ≤ 1; omega, fun k hk => by rw [key0 hk]; simp⟩, fun r => ?_, fun r x h => ?_, by show (0 : Int) ≤ 0; omega, by show (0 : Int) ≤ _; omega,
  by show inU 0; unfold inU; omega, by show (0 : Int) ≤ 0; omega, by show (0 : Int) ≤ _; omega, by show inU 1; unfold inU; omega, by show (0 : Int) ≤ 0; omega, by show (0 : Int) ≤ _; omega, by show inU 1; unfold inU; omega, fun i _ => by show inU 0 ∧ (0 : Int) ≤ 0 ∧ (0 : Int) ≤ _; unfold inU; omega⟩,
  fun r y h hr => absurd (hF r y h).1 hr, ⟨[1], by simp, fun r hr => ?_⟩, by show 1 ≤ 1; omega, fun r x h => ?_⟩
 ·rw [(hF r x h).1]; unfold inU; omega
 ·rw [(hF r x h).2]; simp
 ·rw [(hF r x h).2]; simp
 ·show (if r = 1 then some (led0 bs.length 1) else none).isSome = (if r = 1 then some ((1 : Int), (0 : Int), (0 : Int)) else none).isSome
  split <;> rfl
 ·have h2 : (if r = 1 then some (led0 bs.length 1) else none) = some x := h
  split at h2
  ·cases h2; exact ledBd1 _ _ rfl
  ·cases h2
 ·rcases hr with hr | hr
  ·rw [key0 hr]; simp
  ·exact absurd hr (fun h => h)
 ·rw [(hF r x h).2]; decide
theorem par0 (bs : List Int) (S B : Int) : ∀ r x, (st0 bs S B).F r = some x → inU x.1 := fun r x h => by
 have e := key0 (bs := bs) (S := S) (B := B) (r := r) (by rw [h]; rfl)
 subst e
 rw [F0] at h
 obtain rfl := Option.some.inj h
 unfold inU
 simp
theorem cov0 (bs : List Int) (S B : Int) : ACov arr0 (st0 bs S B) 1 := by
 refine ⟨fun i hi => ?_, fun i hi => ?_, Nat.le_refl _, Nat.le_refl _, fun r hr => ⟨0, by show 0 < 1; omega, ?_⟩⟩
 ·show -1 ≤ (-1 : Int) ∧ (-1 : Int) < i; omega
 ·show inU 1; unfold inU; omega
 ·rw [key0 hr]; rfl
def lnC (x : Int × Value) : List Value := [.int .i64 x.1, x.2]
def lnRow (es : List (Int × Value)) : List Value := es.flatMap lnC
theorem lnRow_snoc (es : List (Int × Value)) (x : Int × Value) : lnRow (es ++ [x]) = lnRow es ++ lnC x := by simp [lnRow]
theorem ACov.same {α α' : Arr} {σ : St} {M : Nat} (h : ACov α σ M) (hn : α'.n = α.n) (hp : ∀ i, (α'.X i).p = (α.X i).p) (hr : ∀ i, (α'.X i).r = (α.X i).r) : ACov α' σ M :=
 ⟨by rw [hn]; exact h.par.same hp, fun i hi => by rw [hr]; exact h.root i (by omega), by rw [hn]; exact h.n1, by rw [hn]; exact h.n2, fun r hr' => by
  obtain ⟨i, h1, h2⟩ := h.cov r hr'
  exact ⟨i, by omega, by rw [hr]; exact h2⟩⟩
theorem bestL_ok {may : Int → Prop} {X : Nat → Nd} {n : Nat} (hp : ParOk X n) : ∀ (m : Nat) (B : Nat → Int), m < n → BestOk B n → BestOk (bestL may X m B) n
 | 0, _, _, h => h
 | m + 1, B, hm, h => bestL_ok hp m _ (by omega) (h.step hp hm)
theorem headF_in {may : Int → Prop} {X : Nat → Nd} {n : Nat} {jr : Int} (hp : ParOk X n) (hr : RootOk X n) (hn : 1 ≤ n) (hj : inU jr) : inU (headF may X n jr) := by
 have hb := bestL_ok (may := may) hp (n - 1) (fun _ => -1) (by omega) (fun i _ => .inl rfl)
 have hf := fnd_lt X jr n
 have hw := walkB_bd hb n (fnd X jr n) hf.1 hf.2
 unfold headF
 split
 ·exact hj
 ·exact hr _ (by omega)
theorem number_err (E : Int) (w : World) (hg : w.cell? ⟨0, 0, none⟩ = some (.iface 199 (.agg #[.pointer (some ⟨1, 42, none⟩)]))) :
  Calls Tryz.prog 16 #[errV E] w fun e w' => e = .returned (.int .i64 E) ∧ w.grownBy w' none := by
 by_cases h : E = 0
 ·subst h
  exact number_nil w
 ·have e : errV E = .iface 46 (.int .i64 E) := by unfold errV; rw [if_neg h]
  rw [e]
  exact number_errno E w hg
def LnOk (x : Int × Value) : Prop := ErrOk x.1 ∧ ∃ a n c, x.2 = .slice a n c
def EvRow (w : World) (N0 : Nat) (ga : Option Addr) (evs : List Ev) : Prop :=
 evs = [] ∨ ∃ ge, ga = some ⟨ge, 0, none⟩ ∧ ge < N0 ∧ ∀ j e, evs[j]? = some e → ∃ cells, EvAt w (fun i => i < N0) e cells ∧ ∀ t v, cells[t]? = some v → w.cell? ⟨ge, j * 28 + t, none⟩ = some v
theorem EvAt.gg {w w' : World} {M : Nat → Prop} {e : Ev} {cells : Array Value} (h : EvAt w (fun i => i < w.heap.size ∧ ¬ M i) e cells) (hg : w.grownBy w' none) : EvAt w' (fun i => i < w'.heap.size ∧ ¬ M i) e cells :=
 h.chg (S := fun _ => False) (Chg.of hg) (fun _ _ h => h) (fun _ hi => ⟨Nat.lt_of_lt_of_le hi.1 hg.size, hi.2⟩)
theorem StoreAt.rowty {w : World} {I : Ids} {σ : St} (h : StoreAt w I σ) {b : Nat} {cur : Array Value} {e : TypeId} (hb : w.heap[b]? = some (.cells cur e (0, 0))) (h1 : e ≠ 78) (h2 : e ≠ 171) (h3 : e ≠ 147) : ¬ Mut I b := by
 have hmap : ∀ {n : Nat} {G : Int → Option Value} {k : Nat}, RawMap Tryz.prog 27 w k n G → k ≠ b := fun hm e => by
  obtain ⟨D, ⟨es, clock, h2, _⟩, _⟩ := hm
  rw [e, hb] at h2
  cases h2
 intro hm
 rcases hm with e | e | e | e | e | e
 ·have := h.blk
  unfold Blk at this
  rw [← e, hb] at this
  cases this
  exact h1 rfl
 ·have := h.tree.2.1
  rw [← e, hb] at this
  cases this
  exact h2 rfl
 ·exact hmap h.tree.2.2 e.symm
 ·obtain ⟨cs, hv, _⟩ := h.votes
  rw [← e, hb] at hv
  cases hv
  exact h3 rfl
 ·obtain ⟨_, _, _, hl, _⟩ := h.led
  exact hmap hl e.symm
 ·obtain ⟨_, _, hl, _⟩ := h.gone
  exact hmap hl e.symm
structure RW (w0 w : World) (I : Ids) (J : AIds) (c2 : Value) (t2 g c : Nat) (σ : St) (α : Arr) (k : Nat) (v : Value) (es : List (Int × Value)) : Prop where
 st : StoreAt w { I with ch := c2, tb := t2, ex := AOwn { J with g := g, c := c } } σ
 ar : ArrAt w { J with g := g, c := c } I.p α
 inv : Inv σ k
 cov : ACov α σ k
 par : ∀ r x, σ.F r = some x → inU x.1
 row : w.ownsRow w0.heap.size 48 2 v es.length (lnRow es)
 nil : es = [] → v = .slice none 0 0
 ba : ∀ ad, I.ba = some ad → v.ownBlock ≠ some ad.block
 ok : ∀ x ∈ es, LnOk x
 gr : w0.grownBy w none
 mx : ∀ i, Mut { I with ch := c2, tb := t2, ex := AOwn { J with g := g, c := c } } i → w0.heap.size ≤ i
 own : ∀ i, AOwn { J with g := g, c := c } i → w0.heap.size ≤ i
section
variable {w0 w w' : World} {I : Ids} {J : AIds} {c2 : Value} {t2 gn cn : Nat} {σ : St} {α : Arr} {k : Nat} {v : Value} {es : List (Int × Value)}
theorem RW.g (h : RW w0 w I J c2 t2 gn cn σ α k v es) (hg : w.grownBy w' none) : RW w0 w' I J c2 t2 gn cn σ α k v es :=
 ⟨h.st.g hg, h.ar.kept0 hg, h.inv, h.cov, h.par, ownsRow_g h.row hg, h.nil, h.ba, h.ok, g2 h.gr hg, h.mx, h.own⟩
theorem RW.out (h : RW w0 w I J c2 t2 gn cn σ α k v es) {b : Nat} (hb : v.ownBlock = some b) : ¬ (Mut { I with ch := c2, tb := t2, ex := AOwn { J with g := gn, c := cn } } b ∨ AOwn { J with g := gn, c := cn } b) := by
 obtain ⟨cur, hcur⟩ := ownsRow_ty h.row hb
 rintro (hm | hm)
 ·exact h.st.rowty hcur (by decide) (by decide) (by decide) hm
 ·exact h.ar.apart hcur (by decide) (by decide) hm
theorem RW.headed (h : RW w0 w I J c2 t2 gn cn σ α k v es) {a b : Int} (har : ArrAt w' { J with g := gn, c := cn } I.p (passF α a b)) (hc : Chg (AOwn { J with g := gn, c := cn }) w w') : RW w0 w' I J c2 t2 gn cn σ (passF α a b) k v es :=
 ⟨h.st.exch hc (fun _ hi => hi), har, h.inv, h.cov.same rfl (fun i => passF_p _ _ _ i) (fun i => passF_r _ _ _ i), h.par, rowChg h.row hc (fun _ hb hm => h.out hb (.inr hm)), h.nil, h.ba, h.ok,
  ((Chg.of h.gr).trans hc).non h.own, h.mx, h.own⟩
theorem RW.fed (h : RW w0 w I J c2 t2 gn cn σ α k v es) {c2' : Value} {t2' g' c' : Nat} {σ' : St} {α' : Arr} {cs' : List Cg} (hst : StoreAt w' { I with ch := c2', tb := t2', ex := AOwn { J with g := g', c := c' } } σ')
  (har : ArrAt w' { J with g := g', c := c' } I.p α') (hi : Inv σ' (k + 1)) (hcv : ACov α' σ' (k + 1)) (had : Adds σ σ' cs') (hc : Chg (fun i => Mut { I with ch := c2, tb := t2, ex := AOwn { J with g := gn, c := cn } } i ∨ AOwn { J with g := gn, c := cn } i) w w')
  (hg : g' = gn ∨ w.heap.size ≤ g') (ht : t2' = t2 ∨ w.heap.size ≤ t2') : RW w0 w' I J c2' t2' g' c' σ' α' (k + 1) v es := by
 have hsz := h.gr.size
 refine ⟨hst, har, hi, hcv, had.par h.par, rowChg h.row hc (fun b hb hm => h.out hb hm), h.nil, h.ba, h.ok, ((Chg.of h.gr).trans hc).non (fun i hi => hi.elim (h.mx i) (h.own i)), fun i hi => ?_, fun i hi => ?_⟩
 ·rcases hi with e | e | e | e | e | e
  ·exact h.mx i (.inl e)
  ·exact h.mx i (.inr (.inl e))
  ·rcases ht with h1 | h1
   ·exact h.mx i (.inr (.inr (.inl (e.trans h1))))
   ·have e2 : i = t2' := e
    omega
  ·exact h.mx i (.inr (.inr (.inr (.inl e))))
  ·exact h.mx i (.inr (.inr (.inr (.inr (.inl e)))))
  ·exact h.mx i (.inr (.inr (.inr (.inr (.inr e)))))
 ·rcases hi with e | e
  ·exact h.own i (.inl e)
  ·rcases hg with h1 | h1
   ·exact h.own i (.inr (e.trans h1))
   ·have e2 : i = g' := e
    omega
theorem StoreAt.addrow (h : StoreAt w I σ) (hN : 0 < σ.bs.length) (hv : ∀ b, v.ownBlock = some b → (∃ cur, w.heap[b]? = some (.cells cur 48 (0, 0))) ∧ ∃ E, w.cell? ⟨b, 0, none⟩ = some (.int .i64 E)) (hba : ∀ ad, I.ba = some ad → v.ownBlock ≠ some ad.block) :
  StoreAt w { I with ex := fun i => I.ex i ∨ v.ownBlock = some i } σ := by
 have hmut : ∀ b, v.ownBlock = some b → ¬ Mut I b := fun b hb => by
  obtain ⟨⟨cur, hcur⟩, _⟩ := hv b hb
  exact h.rowty hcur (by decide) (by decide) (by decide)
 obtain ⟨h1, h2, h3, h4, h5, h6, h7, h8, h9, h10⟩ := h
 refine ⟨h1, h2, h3, h4, ?_, h6, h7, fun ad had hf => ?_, fun i hi => ?_, fun i hi => hi.elim (h10 i) (hmut i)⟩
 ·obtain ⟨n, js, G, l1, l2, l3, l4, l5⟩ := h5
  refine ⟨n, js, G, l1, l2, l3, l4, fun r => ⟨(l5 r).1, fun x hx => ?_⟩⟩
  obtain ⟨y, hy, g, c, g2, d, he, k3, k4, k5, k6⟩ := (l5 r).2 x hx
  have hno : ∀ q xs, BRow w q σ.bs.length xs → ¬ v.ownBlock = some q := fun q xs hb he => by
   obtain ⟨_, E, hE⟩ := hv q he
   have h0 := hb.2 0 hN
   rw [hE] at h0
   cases h0
  refine ⟨y, hy, g, c, g2, d, he, k3, k4, fun hf => ?_, fun hf => ?_⟩
  ·rcases hf with hf | hf | hf
   ·exact k5 (.inl hf)
   ·exact k5 (.inr hf)
   ·exact hno g _ k3 hf
  ·rcases hf with hf | hf | hf
   ·exact k6 (.inl hf)
   ·exact k6 (.inr hf)
   ·exact hno g2 _ k4 hf
 ·rcases hf with hf | hf | hf
  ·exact h8 ad had (.inl hf)
  ·exact h8 ad had (.inr hf)
  ·exact hba ad had hf
 ·rcases hi with hi | hi
  ·exact h9 i hi
  ·obtain ⟨⟨cur, hcur⟩, _⟩ := hv i hi
   exact (Array.getElem?_eq_some_iff.1 hcur).1
theorem RW.push (h : RW w0 w I J c2 t2 gn cn σ α k v es) {g9 c9 : Nat} {x : Int × Value} (hrow : w'.ownsRow w0.heap.size 48 2 (.slice (some ⟨g9, 0, none⟩) (es.length + 1) c9) (es.length + 1) (lnRow es ++ lnC x)) (hg : w.grownBy w' v.ownBlock) (hat : v.ownBlock = some g9 ∨ g9 = w.heap.size) (hx : LnOk x) :
  RW w0 w' I J c2 t2 gn cn σ α k (.slice (some ⟨g9, 0, none⟩) (es.length + 1) c9) (es ++ [x]) := by
 have hN : 0 < σ.bs.length := by have := h.inv.wf.may.l1; omega
 have hno : ∀ b, v.ownBlock = some b → w0.heap.size ≤ b := fun b hb => (h.row.lt b hb).1
 have hc : Chg (fun i => v.ownBlock = some i) w w' := ⟨hg.os, hg.tape, hg.output, hg.size, fun i hi hn => hg.block i hi (fun e => hn e.symm)⟩
 have hcn : w0.grownBy w' none := ((Chg.of h.gr).trans hc).non hno
 have hv : ∀ b, v.ownBlock = some b → (∃ cur, w.heap[b]? = some (.cells cur 48 (0, 0))) ∧ ∃ E, w.cell? ⟨b, 0, none⟩ = some (.int .i64 E) := fun b hb => by
  refine ⟨ownsRow_ty h.row hb, ?_⟩
  cases es with
  | nil => rw [h.nil rfl] at hb; cases hb
  | cons y ys =>
   refine ⟨y.1, ?_⟩
   have h1 := h.row.cells hb 0 (.int .i64 y.1) rfl
   simpa [Addr.add] using h1
 have hst := ((h.st.addrow hN hv h.ba).exch hc (fun i hi => .inr hi)).lessex hN (ex := AOwn { J with g := gn, c := cn }) (fun i hi => .inl hi)
 have hoo : ∀ i, AOwn { J with g := gn, c := cn } i → ¬ v.ownBlock = some i := fun i hi hb => h.out hb (.inr hi)
 refine ⟨hst, h.ar.chg hc (hoo _ (.inl rfl)) (hoo _ (.inr rfl)), h.inv, h.cov, h.par, ?_, fun e => ?_, fun ad had e => ?_, fun y hy => ?_, hcn, h.mx, h.own⟩
 ·rw [lnRow_snoc]
  simpa using hrow
 ·simp at e
 ·have e2 : g9 = ad.block := by simpa [Value.ownBlock] using e
  rcases hat with h1 | h1
  ·exact h.ba ad had (by rw [h1, e2])
  ·have hb := h.st.bal
   rw [show ({ I with ch := c2, tb := t2, ex := AOwn { J with g := gn, c := cn } } : Ids).ba = I.ba from rfl, had] at hb
   have := Ints.lt hb hN
   omega
 ·rcases List.mem_append.1 hy with hy | hy
  ·exact h.ok y hy
  ·rw [List.mem_singleton.1 hy]; exact hx
end
section
variable {w0 : World} {ad : Option Addr} {c : Nat} {bs : List Int} {S B : Int}
set_option maxHeartbeats 16000000 in
theorem run_events (hb : Ints .u64 w0 ad bs) (hm : MayBe bs S B) (hE : w0.cell? ⟨0, 0, none⟩ = some (.iface 199 (.agg #[.pointer (some ⟨1, 42, none⟩)]))) {evs : List Ev} {ga : Option Addr} {ce : Nat} (hB : ∀ e ∈ evs, EvB e) (hr : EvRow w0 w0.heap.size ga evs) (hn : evs.length ≤ 500) :
  Calls Tryz.prog 14 #[.int .i64 1, cfgV ad bs.length c S B, .slice ga evs.length ce] w0 fun e w' => ∃ v es, e = .returned (.tuple #[v, .nilIface]) ∧ w'.ownsRow w0.heap.size 48 2 v es.length (lnRow es) ∧ es.length = evs.length ∧ (∀ x ∈ es, LnOk x) ∧ w0.grownBy w' none := by
 have HB := lh hb
 have h0lt : 0 < w0.heap.size := by
  rcases Nat.eq_zero_or_pos w0.heap.size with h0 | h
  ·simp [World.cell?, h0] at hE
  ·exact h
 have HE := lh hE
 have HR := lh hr
 have HEB := lh hB
 clear hE hr hB
 clear hb
 unfold cfgV
 go_enter Tryz.func14, Tryz.ntmps14
 go_upto_region 1 with (fail)
 refine nmC1 ?_
 intro W b0 hz hg
 obtain ⟨q, hq_q⟩ : ∃ q, q = w0.heap.size := ⟨_, rfl⟩
 rw [← hq_q] at b0 hz h0lt ⊢
 have HQ_q := lh hq_q
 clear hq_q
 have HQ := lh b0
 have HG := lh hg
 clear b0 hg
 replace HB := lh (Ints.kept HB.out HG.out)
 obtain ⟨c0, c1, c2⟩ := HQ.out.c3
 go_wp2_with fail
 refine (rof_array (bs := bs) HB.out hm).mono ?_
 rintro e w1 ⟨I, J, rfl, hst, ha, hex, hg, hm1, hm2⟩
 have hwW := HG.out.size
 replace HG := lh (g2 HG.out hg)
 have h1 : ∀ i, Mut I i → w0.heap.size ≤ i := fun i hi => Nat.le_trans hwW (hm1 i hi)
 have h2 : ∀ i, AOwn J i → w0.heap.size ≤ i := fun i hi => Nat.le_trans hwW (hm2 i hi)
 have hst2 : StoreAt w1 { I with ch := I.ch, tb := I.tb, ex := AOwn { J with g := J.g, c := J.c } } (st0 bs S B) := by
  rw [show AOwn { J with g := J.g, c := J.c } = I.ex from hex.symm]
  exact hst
 have hrw : RW w0 w1 I J I.ch I.tb J.g J.c (st0 bs S B) arr0 1 (.slice none 0 0) [] := ⟨hst2, ha, inv0 hm, cov0 bs S B, par0 bs S B, World.ownsRow_nil _ _ _ _, fun _ => rfl, fun ad _ e => (by cases e), (by simp), HG.out, h1, h2⟩
 have HRW := lh hrw
 clear hg c0 c1 c2 HB HQ hwW hm1 hm2 h1 h2 hst ha hex hst2 hrw HG
 go_wp2_with fail
 have mf := fun w => me_feedA J.q w
 have mh := fun w => me_headA J.q w
 go_loopw [27, 11] (fun v27 v11 wr => ∃ (j : Nat), v27 = .int .i64 (j : Int) ∧ j ≤ evs.length ∧ ∃ c2 t2 g c σ α es, RW w0 wr I J c2 t2 g c σ α (1 + j) v11 es ∧ es.length = j) (fun v27 _ _ => evs.length - (intOf v27).toNat)
 case atStart => exact ⟨0, rfl, by omega, _, _, _, _, _, _, _, HRW.out, rfl⟩
 case round =>
  obtain ⟨j, rfl, hj, c2, t2, g, c, σ, α, es, hrw, hel⟩ := hrel
  have HRW := lh hrw
  have HEL := lh hel
  clear hrw hel
  by_cases hlt : j < evs.length
  ·obtain ⟨x, hx⟩ : ∃ x, evs[j]? = some x := ⟨_, List.getElem?_eq_getElem hlt⟩
   obtain ⟨ge, rfl, hge, hre⟩ : ∃ ge, ga = some ⟨ge, 0, none⟩ ∧ ge < w0.heap.size ∧ ∀ j e, evs[j]? = some e → ∃ cells, EvAt w0 (fun i => i < w0.heap.size) e cells ∧ ∀ t v, cells[t]? = some v → w0.cell? ⟨ge, j * 28 + t, none⟩ = some v := by
    rcases HR.out with h | h
    ·rw [h] at hlt; simp at hlt
    ·exact h
   obtain ⟨cells, hev, hce⟩ := hre j x hx
   have hxB := HEB.out x (List.mem_of_getElem? hx)
   have hevr : EvAt wr (fun i => i < wr.heap.size ∧ ¬ Mut { I with ch := c2, tb := t2, ex := AOwn { J with g := g, c := c } } i) x cells :=
    hev.chg (S := fun _ => False) (Chg.of HRW.out.gr) (fun _ _ h => h) (fun i hi => ⟨Nat.lt_of_lt_of_le hi HRW.out.gr.size, fun hm => by have := HRW.out.mx i hm; omega⟩)
   have hcer : ∀ t v, cells[t]? = some v → wr.cell? ⟨ge, j * 28 + t, none⟩ = some v := fun t v h => cell_g (hce t v h) HRW.out.gr
   obtain ⟨va, vc, pa, pc, vw, vwc, aw, ac, bw, bc, rfl, _⟩ := id hevr
   have HEV := lh hevr
   have HCE := lh hcer
   have HXB := lh hxB
   clear hevr hcer hxB
   clear hev hce hre hx
   go_upto_region 7 with (fail)
   go_wp2_with (first
    | refine wpList_load_blk (off := 0) HBE.out rfl _ rfl rfl _ Tryz.underlying68 rfl (evC x va vc pa pc vw vwc aw ac bw bc) (by as_aux_lemma => kernel_rfl) rfl ?_
    | refine wpList_load_at (evC x va vc pa pc vw vwc aw ac bw bc) HCE.out rfl _ rfl rfl _ Tryz.underlying68 rfl (by as_aux_lemma => kernel_rfl) ?_
    | (refine wpList_store_new rfl (evC x va vc pa pc vw vwc aw ac bw bc) ⟨_, _, rfl, rfl, rfl⟩ (by as_aux_lemma => kernel_rfl) rfl (by simp [evC, Value.oneCell']) ?_; intro w2 hbE hgE; have HBE := lh hbE; replace HEV := lh (HEV.out.gg hgE); replace HRW := lh (HRW.out.g hgE); clear hbE hgE))
   refine (feed_calls HRW.out.st HRW.out.inv (by omega) HRW.out.ar rfl HRW.out.cov (by omega) HXB.out HEV.out).mono ?_
   rintro e w3 ⟨E, c3, t3, g3, k3, σ3, α3, cs3, rfl, hap, hst, har, hinv, hcov, hads, hchg, hgn, htn⟩
   have hE3 := hap.err (by have := HRW.out.inv.n; omega)
   have hrw := HRW.out.fed hst har hinv hcov hads hchg hgn htn
   clear HRW HBE HEV HCE hap hst har hinv hcov hads hchg hgn htn
   have HRW := lh hrw
   have HE3 := lh hE3
   clear hrw hE3
   go_wp2_with fail
   refine (number_err E w3 (cell_g HE.out HRW.out.gr)).mono ?_
   rintro e w4 ⟨rfl, hg⟩
   replace HRW := lh (HRW.out.g hg)
   clear hg
   go_wp2_with fail
   obtain ⟨ks, hks⟩ := rising_ex HRW.out.inv.wf
   have hkl := HRW.out.inv.klen hks
   have hn4 := HRW.out.inv.wf.n
   have HKS := lh hks
   clear hks
   refine (head_calls HRW.out.st HRW.out.inv.wf HRW.out.ar (fun i hi => hi) HRW.out.cov.par HRW.out.cov.root HRW.out.cov.n1 HKS.out (by omega) (sortUpTo_any _ (by omega))).mono ?_
   rintro e w5 ⟨rfl, har, hc⟩
   have hrw := HRW.out.headed har hc
   obtain ⟨hd, hhd⟩ : ∃ hd, hd = headF (MayLead σ3.F σ3.f ks (srcG σ3) σ3.je σ3.fr (eOf σ3.slot σ3.S)) (passF α3 (boostF σ3.bs σ3.S σ3.B) σ3.boosted).X α3.n σ3.jr := ⟨_, rfl⟩
   have hin : inU hd := by rw [hhd]; exact headF_in hrw.cov.par hrw.cov.root hrw.cov.n1 hrw.inv.wf.jr
   rw [← hhd]
   clear HRW har hc hhd
   have HRW := lh hrw
   have HIN := lh hin
   clear hrw hin
   go_wp2_with fail
   refine (canon_calls HRW.out.st HRW.out.inv.wf HRW.out.par HKS.out (sortUpTo_any _ (by omega)) HIN.out).mono ?_
   rintro e w6 ⟨s1, rfl, hs1, hg⟩
   replace HRW := lh (HRW.out.g hg)
   clear hg
   obtain ⟨sa, sc, rfl, _⟩ := own_slice hs1
   obtain ⟨L1, hL1⟩ : ∃ L1, L1 = (canonF σ3 ks hd).length := ⟨_, rfl⟩
   rw [← hL1]
   clear hs1 hL1
   obtain ⟨i0, hi0⟩ := elem_line
   have HI := lh hi0
   clear hi0
   have hsz6 := HRW.out.gr.size
   have hel2 := HEL.out
   go_wp2_with (at_builtin; refine wpList_append_lies _ rfl _ _ 40 rfl w0.heap.size 48 i0 (.agg #[.int .i64 0, .slice none 0 0]) 2 32 Tryz.underlying40 HI.out.1 HI.out.2.1 HI.out.2.2.1 HI.out.2.2.2 rfl (by decide) _ es.length (lnRow es) rfl (HRW.out.row.alloc _) ⟨w6.heap.size, 0, none⟩ 1 1 [.int .i64 E, .slice sa L1 sc] rfl rfl (World.news_of_block (MapKept.heap_alloc _ _).1) (by simp [Value.oneCell']) (by decide) (by unfold maxLen; omega) (by omega) (by simp; omega) _ rfl ?_; intro gl cl w7 hl hgl7 hatl hltl; have HL := lh (And.intro hl (And.intro hgl7 hatl)); clear hl hgl7 hatl hltl)
   have hrw := (HRW.out.g (World.grownBy_alloc w6 _ none)).push (x := (E, .slice sa L1 sc)) HL.out.1 HL.out.2.1 HL.out.2.2 ⟨HE3.out, _, _, _, rfl⟩
   rw [hel2] at hrw
   exact ⟨⟨j + 1, by simp, by omega, _, _, _, _, _, _, es ++ [(E, .slice sa L1 sc)], hrw, by rw [List.length_append, hel2]; rfl⟩, by simp [intOf]; omega⟩
  ·have hje : j = evs.length := by omega
   go_wp2_with fail
   go_ret2
   exact ⟨_, es, rfl, HRW.out.row, by rw [HEL.out]; exact hje, HRW.out.ok, HRW.out.gr⟩
end
end Go.Proofs.YtndfpmboanohcaaGreatDoor
