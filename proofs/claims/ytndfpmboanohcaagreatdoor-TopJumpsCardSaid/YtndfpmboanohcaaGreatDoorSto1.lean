/- The store in memory; contract of (*store.Store).tick. -/
import Derived.Test.YtndfpmboanohcaaGreatDoorVia2
namespace Go.Proofs.YtndfpmboanohcaaGreatDoor
set_option maxRecDepth 100000
open Go.RowKit Go.Maps SkipPure

/-- What a store is. -/
structure St where
  bs : List Int
  S : Int
  B : Int
  f : Int
  F : Int → Option (Int × Int × Int)
  n : Nat
  V : Nat → Ent
  slot : Int
  boosted : Int
  je : Int
  jr : Int
  fe : Int
  fr : Int
  L : Int → Option Led
  gone : Int → Prop

/-- Where it lies. -/
structure Ids where
  p : Nat
  tp : Nat
  tb : Nat
  vb : Nat
  lm : Nat
  gm : Nat
  ba : Option Addr
  bc : Nat
  ch : Value
  ex : Nat → Prop
/-- The blocks that it turns. -/
def Mut (I : Ids) (i : Nat) : Prop := i = I.p ∨ i = I.tp ∨ i = I.tb ∨ i = I.vb ∨ i = I.lm ∨ i = I.gm
/-- Those and the blocks of whoever holds the store. -/
def Far (I : Ids) (i : Nat) : Prop := Mut I i ∨ I.ex i

/-- Block b is a map to ledgers. -/
def LMap (w : World) (ok : Nat → Prop) (b N : Nat) (L : Int → Option Led) : Prop :=
  ∃ (n : Nat) (js : List Int) (G : Int → Option Value), RawMap Tryz.prog 27 w b n G ∧ js.Nodup ∧ js.length = n ∧ (∀ k ∈ js, (L k).isSome = true) ∧
    ∀ r, (L r = none → G r = none) ∧ ∀ x, L r = some x → ∃ v, G r = some v ∧ LedAt w ok N x v
theorem LMap.chg {S : Nat → Prop} {w w' : World} {ok : Nat → Prop} {b N : Nat} {L : Int → Option Led} (h : LMap w ok b N L) (hg : Chg S w w') (hb : ¬ S b) (ho : ∀ i, ok i → ¬ S i) : LMap w' ok b N L := by
  obtain ⟨n, js, G, h1, h2, h3, h4, h5⟩ := h
  refine ⟨n, js, G, hg.raw h1 hb, h2, h3, h4, fun r => ⟨(h5 r).1, fun x hx => ?_⟩⟩
  obtain ⟨v, hv, hl⟩ := (h5 r).2 x hx
  exact ⟨v, hv, hl.chg hg ho⟩
theorem LMap.g {w w' : World} {ok : Nat → Prop} {b N : Nat} {L : Int → Option Led} (h : LMap w ok b N L) (hg : w.grownBy w' none) : LMap w' ok b N L :=
  h.chg (S := fun _ => False) (Chg.of hg) (fun h => h) (fun _ _ h => h)
theorem LMap.imp {w : World} {ok ok' : Nat → Prop} {b N : Nat} {L : Int → Option Led} (h : LMap w ok b N L) (ho : ∀ i, ok i → ok' i) : LMap w ok' b N L := by
  obtain ⟨n, js, G, h1, h2, h3, h4, h5⟩ := h
  refine ⟨n, js, G, h1, h2, h3, h4, fun r => ⟨(h5 r).1, fun x hx => ?_⟩⟩
  obtain ⟨v, hv, hl⟩ := (h5 r).2 x hx
  exact ⟨v, hv, hl.imp ho⟩

structure StoreAt (w : World) (I : Ids) (σ : St) : Prop where
  blk : Blk w I.p #[.slice I.ba σ.bs.length I.bc, .int .i64 σ.S, .int .i64 σ.B, .pointer (some ⟨I.tp, 0, none⟩), .slice (some ⟨I.vb, 0, none⟩) σ.bs.length σ.bs.length, .int .i64 σ.slot, .int .u64 σ.boosted,
    .int .i64 σ.je, .int .u64 σ.jr, .int .i64 σ.fe, .int .u64 σ.fr, .map (some I.lm), .map (some I.gm), I.ch] 78
  bal : Ints .u64 w I.ba σ.bs
  tree : TreeAt w I.tp I.tb σ.n σ.f σ.F
  votes : VAt w I.vb σ.bs.length σ.V
  led : LMap w (fun i => ¬ Far I i) I.lm σ.bs.length σ.L
  gone : BSet w I.gm σ.gone
  dist : [I.p, I.tp, I.tb, I.vb, I.lm, I.gm].Nodup
  apart : ∀ ad, I.ba = some ad → ¬ Far I ad.block
  exlt : ∀ i, I.ex i → i < w.heap.size
  exd : ∀ i, I.ex i → ¬ Mut I i

/-- What a store keeps to. -/
structure StWf (σ : St) : Prop where
  may : MayBe σ.bs σ.S σ.B
  tree : WellT σ.f σ.F
  n : σ.n ≤ 1024
  ks : ∃ ks : List Int, ks.length ≤ σ.n ∧ ∀ k, (σ.F k).isSome = true → k ∈ ks
  led : ∀ r, (σ.L r).isSome = (σ.F r).isSome
  ledbd : ∀ r x, σ.L r = some x → LedBd x
  s0 : 0 ≤ σ.slot
  s1 : σ.slot ≤ 1099511627776
  bo : inU σ.boosted
  j0 : 0 ≤ σ.je
  j1 : σ.je ≤ 1099511627776
  jr : inU σ.jr
  f0 : 0 ≤ σ.fe
  f1 : σ.fe ≤ 1099511627776
  fr : inU σ.fr
  vr : ∀ i, i < σ.bs.length → inU (σ.V i).r ∧ 0 ≤ (σ.V i).e ∧ (σ.V i).e ≤ 1099511627776

section
variable {w w' : World} {I : Ids} {σ : St}
theorem StoreAt.g (h : StoreAt w I σ) (hg : w.grownBy w' none) : StoreAt w' I σ :=
  ⟨h.blk.g hg, h.bal.g hg, h.tree.kept hg (by simp), h.votes.kept hg (by simp), h.led.g hg, h.gone.g hg, h.dist, h.apart, fun i hi => Nat.lt_of_lt_of_le (h.exlt i hi) hg.size, h.exd⟩
/-- What turns no block of its own leaves it as it is. -/
theorem StoreAt.chg {S : Nat → Prop} (h : StoreAt w I σ) (hg : Chg S w w') (hs : ∀ i, S i → i < w.heap.size → False) : StoreAt w' I σ := h.g (Chg.non hg (fun i hi => Nat.le_of_not_lt (fun hl => hs i hi hl)))

/-- An error's value. -/
def errV (k : Int) : Value := if k = 0 then .nilIface else .iface 46 (.int .i64 k)

/-- What tick answers, and leaves. -/
def tickE (σ : St) (s : Int) : Int := if s ≤ σ.slot then 3 else if 1099511627776 < s then 4 else 0
def tickF (σ : St) (s : Int) : St := if tickE σ s = 0 then { σ with slot := s, boosted := 0 } else σ
theorem Mut.p {I : Ids} : Mut I I.p := .inl rfl
/-- Cells of the store's own block are written. -/
theorem StoreAt.put (h : StoreAt w I σ) {w' : World} {I' : Ids} {σ' : St} (hg : w.grownBy w' (some I.p))
    (hb : Blk w' I.p #[.slice I.ba σ.bs.length I.bc, .int .i64 σ.S, .int .i64 σ.B, .pointer (some ⟨I.tp, 0, none⟩), .slice (some ⟨I.vb, 0, none⟩) σ.bs.length σ.bs.length, .int .i64 σ'.slot, .int .u64 σ'.boosted,
      .int .i64 σ'.je, .int .u64 σ'.jr, .int .i64 σ'.fe, .int .u64 σ'.fr, .map (some I.lm), .map (some I.gm), I'.ch] 78)
    (hi : I' = { I with ch := I'.ch }) (hs : σ' = { σ with slot := σ'.slot, boosted := σ'.boosted, je := σ'.je, jr := σ'.jr, fe := σ'.fe, fr := σ'.fr }) : StoreAt w' I' σ' := by
  obtain ⟨p, tp, tb, vb, lm, gm, ba, bc, ch, ex⟩ := I
  obtain ⟨h1, h2, h3, h4, h5, h6, h7, h8, h9, h10⟩ := h
  rw [hi, hs]
  simp only at *
  have hc : Chg (fun i => i = p) w w' := Chg.one hg rfl
  simp only [List.nodup_cons, List.mem_cons, List.not_mem_nil, or_false, not_or] at h7
  obtain ⟨⟨n1, n2, n3, n4, n5⟩, h7'⟩ := h7
  refine ⟨hb, h2.chg hc (fun ad ha e => h8 ad ha (.inl (.inl e))), hc.tree h3 (Ne.symm n1) (Ne.symm n2), hc.votes h4 (Ne.symm n3), h5.chg hc (Ne.symm n4) (fun i hi e => hi (.inl (.inl e))), h6.chg hc (Ne.symm n5), ?_, h8, fun i hi => Nat.lt_of_lt_of_le (h9 i hi) hg.size, h10⟩
  simp only [List.nodup_cons, List.mem_cons, List.not_mem_nil, or_false, not_or]
  exact ⟨⟨n1, n2, n3, n4, n5⟩, h7'⟩

theorem tick_calls (h : StoreAt w I σ) (s : Int) :
    Calls Tryz.prog 35 #[.pointer (some ⟨I.p, 0, none⟩), .int .i64 s] w fun e w' => e = .returned (errV (tickE σ s)) ∧ StoreAt w' I (tickF σ s) ∧ Chg (Mut I) w w' := by
  have HH := Lib.hid h
  obtain ⟨_, _, _, _, _, c5, c6, _, _, _, _, _, _, _⟩ := h.blk.c14
  obtain ⟨_, _, _, _, _, f5, f6, _, _, _, _, _, _, _⟩ := h.blk.f14
  clear h
  by_cases h1 : s ≤ σ.slot
  · have e1 : tickE σ s = 3 := by unfold tickE; rw [if_pos h1]
    have e2 : tickF σ s = σ := by unfold tickF; rw [e1]; rfl
    rw [e1, e2]
    clear e1 e2
    go_enter Tryz.func35, Tryz.ntmps35
    go_wp2
    go_ret
    exact ⟨rfl, HH.out, Chg.refl _ _⟩
  · by_cases h2 : 1099511627776 < s
    · have e1 : tickE σ s = 4 := by unfold tickE; rw [if_neg h1, if_pos h2]
      have e2 : tickF σ s = σ := by unfold tickF; rw [e1]; rfl
      rw [e1, e2]
      clear e1 e2
      go_enter Tryz.func35, Tryz.ntmps35
      go_wp2
      go_ret
      exact ⟨rfl, HH.out, Chg.refl _ _⟩
    · have e1 : tickE σ s = 0 := by unfold tickE; rw [if_neg h1, if_neg h2]
      have e2 : tickF σ s = { σ with slot := s, boosted := 0 } := by unfold tickF; rw [e1]; rfl
      rw [e1, e2]
      clear e1 e2
      go_enter Tryz.func35, Tryz.ntmps35
      go_wp2
      go_ret
      obtain ⟨t1, _, t3⟩ := sto2 5 6 (.int .i64 s) (.int .u64 0) HH.out.blk
      simp only [List.setIfInBounds_toArray, List.set_cons_zero, List.set_cons_succ] at t1
      exact ⟨rfl, HH.out.put t3 t1 rfl rfl, Chg.one t3 Mut.p⟩
end
end Go.Proofs.YtndfpmboanohcaaGreatDoor
