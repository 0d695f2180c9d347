/- Contract of (*skip.List).At: the ancestor of a height, and in how many jumps it is come to. -/
import Derived.Test.YtndfpmboanohcaaGreatDoorSkip1
import Derived.Deep.LoopGhost
namespace Go.Proofs.YtndfpmboanohcaaGreatDoor
set_option maxRecDepth 100000
open Go.RowKit Go.Maps SkipPure

theorem RowAt.kept {w w' : World} {ok : Nat → Prop} {a : Option Addr} {c : Nat} {xs : List Int} {row : Option Nat} (h : RowAt w ok a c xs) (hg : w.grownBy w' row) (hr : ∀ k, row = some k → ¬ ok k) : RowAt w' ok a c xs := by
  rcases h with h | ⟨g, e, h0, hc, hok, hx⟩
  · exact Or.inl h
  · exact Or.inr ⟨g, e, h0, hc, hok, fun i hi => hg.cell (hx i hi) (fun e => hr g e.symm hok)⟩

theorem RowAt.keptBlock {w w' : World} {ok : Nat → Prop} {a : Option Addr} {c : Nat} {xs : List Int} {b : Nat} (h : RowAt w ok a c xs) (hg : w.grownBy w' (some b)) (hb : ∃ es cl, w.heap[b]? = some (.map es cl)) : RowAt w' ok a c xs := by
  rcases h with h | ⟨g, e, h0, hc, hok, hx⟩
  · exact Or.inl h
  · refine Or.inr ⟨g, e, h0, hc, hok, fun i hi => hg.cell (hx i hi) (fun e => ?_)⟩
    cases e
    obtain ⟨es, cl, hb⟩ := hb
    have := hx 0 h0
    simp [World.cell?, hb] at this

theorem RowAt.imp {w : World} {ok ok' : Nat → Prop} {a : Option Addr} {c : Nat} {xs : List Int} (h : RowAt w ok a c xs) (ho : ∀ k, ok k → ok' k) : RowAt w ok' a c xs := by
  rcases h with h | ⟨g, e, h0, hc, hok, hx⟩
  · exact Or.inl h
  · exact Or.inr ⟨g, e, h0, hc, ho g hok, hx⟩

theorem NodeAt.kept {w w' : World} {ok : Nat → Prop} {hgt : Int → Option Nat} {par : Int → Int} {r : Int} {f : Option Value} {row : Option Nat} (h : NodeAt w ok hgt par r f) (hg : w.grownBy w' row) (hr : ∀ k, row = some k → ¬ ok k) : NodeAt w' ok hgt par r f := by
  unfold NodeAt at *
  split at h
  · exact h
  · obtain ⟨a, c, h1, h2⟩ := h
    exact ⟨a, c, h1, h2.kept hg hr⟩

theorem SkipAt.kept {w w' : World} {ok : Nat → Prop} {p b n : Nat} {hgt : Int → Option Nat} {par : Int → Int} {row : Option Nat} (h : SkipAt w ok p b n hgt par) (hg : w.grownBy w' row) (hr : ∀ k, row = some k → ¬ ok k) : SkipAt w' ok p b n hgt par := by
  obtain ⟨h1, h2, h3, h4, F, h5, h6⟩ := h
  have hlt : p < w.heap.size := (Array.getElem?_eq_some_iff.1 h4).1
  exact ⟨h1, h2, h3, (hg.block p hlt (fun e => hr p e.symm h1)).trans h4, F, h5.kept hg (fun e => hr b e.symm h2), fun r hx => (h6 r hx).kept hg hr⟩

theorem SkipAt.imp {w : World} {ok ok' : Nat → Prop} {p b n : Nat} {hgt : Int → Option Nat} {par : Int → Int} (h : SkipAt w ok p b n hgt par) (ho : ∀ k, ok k → ok' k) : SkipAt w ok' p b n hgt par := by
  obtain ⟨h1, h2, h3, h4, F, h5, h6⟩ := h
  refine ⟨ho _ h1, ho _ h2, h3, h4, F, h5, fun r hx => ?_⟩
  have := h6 r hx
  unfold NodeAt at *
  split at this
  · exact this
  · obtain ⟨a, c, h1, h2⟩ := this
    exact ⟨a, c, h1, h2.imp ho⟩

/-- The look-up of a block that is there. -/
theorem SkipAt.node {w : World} {ok : Nat → Prop} {p b n : Nat} {hgt : Int → Option Nat} {par : Int → Int} (h : SkipAt w ok p b n hgt par) {r : Int} (hr : inU r) {k : Nat} (hk : hgt r = some k) :
    ∃ a c, RowAt w ok a c (js par r k) ∧ (Instr.lookup 84 (.map (some b)) (.int .u64 r) true).run Tryz.prog w = .ok (.tuple #[.agg #[.int .i64 (k : Int), .slice a (blen k) c], .bool true]) w ∧
      (Instr.lookup 84 (.map (some b)) (.int .u64 r) false).run Tryz.prog w = .ok (.agg #[.int .i64 (k : Int), .slice a (blen k) c]) w := by
  obtain ⟨_, _, _, _, F, hF, hN⟩ := h
  have hn := hN r hr
  unfold NodeAt at hn
  rw [hk] at hn
  obtain ⟨a, c, e, hR⟩ := hn
  have h1 := hF.look_ok Tryz.underlying27 Tryz.underlying84 (zero52 w) hr
  have h2 := hF.look Tryz.underlying27 Tryz.underlying84 (zero52 w) hr
  rw [e] at h1 h2
  exact ⟨a, c, hR, h1, h2⟩
theorem SkipAt.noNode {w : World} {ok : Nat → Prop} {p b n : Nat} {hgt : Int → Option Nat} {par : Int → Int} (h : SkipAt w ok p b n hgt par) {r : Int} (hr : inU r) (hk : hgt r = none) :
    (Instr.lookup 84 (.map (some b)) (.int .u64 r) true).run Tryz.prog w = .ok (.tuple #[.agg #[.int .i64 0, .slice none 0 0], .bool false]) w := by
  obtain ⟨_, _, _, _, F, hF, hN⟩ := h
  have hn := hN r hr
  unfold NodeAt at hn
  rw [hk] at hn
  have h1 := hF.look_ok Tryz.underlying27 Tryz.underlying84 (zero52 w) hr
  have hn : F r = none := hn
  rw [hn] at h1
  exact h1

theorem drewN_grown (w : World) (n : Nat) : w.grownBy (w.drewN n) none := ⟨rfl, rfl, rfl, Nat.le_refl _, fun _ _ _ => rfl⟩

theorem SkipAt.nodeN {w : World} {ok : Nat → Prop} {p b n : Nat} {hgt : Int → Option Nat} {par : Int → Int} (h : SkipAt w ok p b n hgt par) {r : Int} (hr : inU r) {k : Nat} (hk : hgt r = some k) :
    ∃ a c, RowAt w ok a c (js par r k) ∧ ∀ nq, (Instr.lookup 84 (.map (some b)) (.int .u64 r) false).run Tryz.prog (w.drewN nq) = .ok (.agg #[.int .i64 (k : Int), .slice a (blen k) c]) (w.drewN nq) := by
  obtain ⟨_, _, _, _, F, hF, hN⟩ := h
  have hn := hN r hr
  unfold NodeAt at hn
  rw [hk] at hn
  obtain ⟨a, c, e, hR⟩ := hn
  refine ⟨a, c, hR, fun nq => ?_⟩
  have h2 := (hF.kept (drewN_grown w nq) (by simp)).look Tryz.underlying27 Tryz.underlying84 (zero52 (w.drewN nq)) hr
  rw [e] at h2
  exact h2

theorem wrap_pow (j : Nat) (h : j ≤ 60) : wrap64 (2 ^ j) = ((2 ^ j : Nat) : Int) := by
  have h1 : (2 : Nat) ^ j ≤ 2 ^ 60 := Nat.pow_le_pow_right (by omega) h
  have e : ((2 : Int) ^ j) = ((2 ^ j : Nat) : Int) := by norm_cast
  rw [e]
  have h2 : (2 : Nat) ^ 60 = 1152921504606846976 := by decide
  rw [h2] at h1
  clear e h2
  generalize (2 : Nat) ^ j = x at *
  unfold wrap64
  omega

theorem sub_lt_cast {m a x : Nat} (h : m - a < x) (ha : a ≤ m) : (m : Int) - (a : Int) < (x : Int) := by omega
theorem sub_ge_cast {m a x : Nat} (h : x ≤ m - a) (ha : a ≤ m) : ¬ (m : Int) - (a : Int) < (x : Int) := by omega

def Keys (hgt : Int → Option Nat) : Prop := ∀ r h, hgt r = some h → inU r ∧ h < 1099511627776

theorem at_none {w : World} {ok : Nat → Prop} {p b n : Nat} {hgt : Int → Option Nat} {par : Int → Int} (h : SkipAt w ok p b n hgt par) {r at_ : Int} (hr : inU r) (hn : hgt r = none) :
    Calls Tryz.prog 10 #[.pointer (some ⟨p, 0, none⟩), .int .u64 r, .int .i64 at_] w fun e w' => e = .returned (.tuple #[.int .u64 0, .int .i64 0, .bool false]) ∧ w.grownBy w' none := by
  have c0 := cell_p h
  have hl := h.noNode hr hn
  clear h hn
  go_enter Tryz.func10, Tryz.ntmps10
  go_wp2
  go_ret3
  exact ⟨rfl, World.grownBy_alloc _ _ _⟩

theorem at_out {w : World} {ok : Nat → Prop} {p b n : Nat} {hgt : Int → Option Nat} {par : Int → Int} (h : SkipAt w ok p b n hgt par) {r at_ : Int} (hr : inU r) {k : Nat} (hn : hgt r = some k) (ho : at_ < 0 ∨ (k : Int) < at_) :
    Calls Tryz.prog 10 #[.pointer (some ⟨p, 0, none⟩), .int .u64 r, .int .i64 at_] w fun e w' => e = .returned (.tuple #[.int .u64 0, .int .i64 0, .bool false]) ∧ w.grownBy w' none := by
  have c0 := cell_p h
  obtain ⟨a, c, _, hl, _⟩ := h.node hr hn
  clear h hn
  by_cases h0 : at_ < 0
  · clear ho
    have g0 : decide (at_ < 0) = true := decide_eq_true h0
    go_enter Tryz.func10, Tryz.ntmps10
    go_wp2
    go_ret3
    exact ⟨rfl, World.grownBy_alloc _ _ _⟩
  · have g0 : decide (at_ < 0) = false := decide_eq_false h0
    have h1 : (k : Int) < at_ := by omega
    have g1 : decide ((k : Int) < at_) = true := decide_eq_true h1
    clear ho
    go_enter Tryz.func10, Tryz.ntmps10
    go_wp2
    go_ret3
    exact ⟨rfl, World.grownBy_alloc _ _ _⟩

/-- What is known at each round's head of At: d blocks below r. -/
def Cur (w0 : World) (q : Nat) (ok : Nat → Prop) (par : Int → Int) (r : Int) (h d : Nat) (w : World) : Prop :=
  ∃ a c, w.heap[q]? = some (.cells #[.int .i64 ((h - d : Nat) : Int), .slice a (blen (h - d)) c] 83 (0, 0)) ∧ RowAt w ok a c (js par (anc par r d) (h - d)) ∧ w0.grownBy w none

theorem pair_store {w0 w1 : World} {q : Nat} {x y x' y' : Value} {T : TypeId} (hq : w0.heap.size ≤ q) (hb : w1.heap[q]? = some (.cells #[x, y] T (0, 0))) (hg : w0.grownBy w1 none) :
    ((w1.setCell ⟨q, 0, none⟩ x').setCell ⟨q, 1, none⟩ y').heap[q]? = some (.cells #[x', y'] T (0, 0)) ∧ w1.grownBy ((w1.setCell ⟨q, 0, none⟩ x').setCell ⟨q, 1, none⟩ y') (some q) ∧ w0.grownBy ((w1.setCell ⟨q, 0, none⟩ x').setCell ⟨q, 1, none⟩ y') none := by
  have h1 := heap_setCell_same w1 q 0 _ T x' hb
  have h2 := heap_setCell_same (w1.setCell ⟨q, 0, none⟩ x') q 1 _ T y' h1
  have h3 : w1.grownBy ((w1.setCell ⟨q, 0, none⟩ x').setCell ⟨q, 1, none⟩ y') (some q) :=
    ⟨rfl, rfl, rfl, by simp, fun i _ hne => by
      have : i ≠ q := fun e => hne (by rw [e])
      rw [heap_setCell_other _ _ _ _ this, heap_setCell_other _ _ _ _ this]⟩
  exact ⟨h2, h3, hg.andThen h3 (fun j e => Or.inl (by cases e; exact hq))⟩

theorem pop_round {P p1 p2 : Nat} (h1 : p1 ≤ P) (h2 : p1 = 1 + p2) (hP : P ≤ 64) : wrap64 ((↑(P - p1) : Int) + 1) = ((P - p2 : Nat) : Int) := by
  unfold wrap64; omega

set_option maxRecDepth 100000 in
set_option maxHeartbeats 1000000 in
theorem at_in {w : World} {ok : Nat → Prop} {p b n : Nat} {hgt : Int → Option Nat} {par : Int → Int} (h : SkipAt w ok p b n hgt par) (hok : ∀ j, ok j → j < w.heap.size) (T : Tree hgt par) (K : Keys hgt) {r : Int} {at_ : Nat} {k : Nat} (hn : hgt r = some k) (ho : at_ ≤ k) :
    Calls Tryz.prog 10 #[.pointer (some ⟨p, 0, none⟩), .int .u64 r, .int .i64 at_] w fun e w' => e = .returned (.tuple #[.int .u64 (anc par r (k - at_)), .int .i64 (pop (k - at_) : Nat), .bool true]) ∧ w.grownBy w' none := by
  have hr := (K r k hn).1
  have hkb := (K r k hn).2
  have c0 := cell_p h
  obtain ⟨a, c, hR, hl, _⟩ := h.node hr hn
  have HH := Lib.hid h
  clear h
  have g0 : decide ((at_ : Int) < 0) = false := decide_eq_false (by omega)
  have g1 : decide (k < at_) = false := decide_eq_false (by omega)
  go_enter Tryz.func10, Tryz.ntmps10
  go_wp2
  obtain ⟨q, hq⟩ : ∃ q, q = w.heap.size := ⟨_, rfl⟩
  go_loopw [1, 11] (fun v1 v11 wr => ∃ d : Nat, d ≤ k - at_ ∧ v1 = .int .u64 (anc par r d) ∧ v11 = .int .i64 ((pop (k - at_) - pop (k - at_ - d) : Nat) : Int) ∧ pop (k - at_ - d) ≤ pop (k - at_) ∧ Cur w q ok par r k d wr)
    (fun _ v11 _ => pop (k - at_) - (intOf v11).toNat)
  case atStart => exact ⟨0, by omega, rfl, by simp, by simp, a, c, by rw [hq]; exact (MapKept.heap_alloc w _).1, hR.kept (World.grownBy_alloc w _ none) (fun j e => by cases e), World.grownBy_alloc w _ none⟩
  case round =>
    obtain ⟨d, hd, rfl, rfl, hpl, a1, c1, hq1, hR1, hg1⟩ := hrel
    obtain ⟨wo, rfl⟩ : ∃ wo : World, wo = wr := ⟨_, rfl⟩
    clear hR hl
    have HS := Lib.hid (HH.out.kept hg1 (fun j e => by cases e))
    have c0' := cell_p HS.out
    have q0 : wo.cell? ⟨q, 0, none⟩ = some (.int .i64 ((k - d : Nat) : Int)) := by simp [World.cell?, hq1]
    have q1 : wo.cell? ⟨q, 1, none⟩ = some (.slice a1 (blen (k - d)) c1) := by simp [World.cell?, hq1]
    have HQ := Lib.hid hq
    have HQ1 := Lib.hid hq1
    have HG1 := Lib.hid hg1
    have HR1 := Lib.hid hR1
    have HT := Lib.hid T
    have HK := Lib.hid K
    have HN := Lib.hid hn
    have HD := Lib.hid hd
    have HPL := Lib.hid hpl
    by_cases hlt : at_ < k - d
    · clear hq hq1 hg1 hR1 T K hn hd hpl
      obtain ⟨m, hm⟩ : ∃ m, m = k - d := ⟨_, rfl⟩
      rw [← hm] at q0 q1 hlt
      have hmb : m < 1099511627776 := by omega
      have HM := Lib.hid hm
      clear hm
      have hb1 : 1 ≤ blen m := blen_pos (by omega)
      have hb2 : blen m ≤ 40 := blen_le.2 (by simpa using hmb)
      have g2 : decide ((at_ : Int) < (m : Int)) = true := decide_eq_true (by omega)
      have g3 : decide (at_ < m) = true := decide_eq_true (by omega)
      rw [← HQ.out]
      go_wp2
      go_loopw [12] (fun v12 wi => ∃ j : Nat, v12 = .int .i64 (j : Int) ∧ j < blen m ∧ m - at_ < 2 ^ (j + 1) ∧ Cur w q ok par r k d wi) (fun v12 _ => (intOf v12).toNat)
      case atStart =>
        exact ⟨blen m - 1, by congr 1; omega, by omega, by rw [show blen m - 1 + 1 = blen m from by omega]; exact Nat.lt_of_le_of_lt (Nat.sub_le _ _) (lt_pow_blen m), a1, c1, HQ1.out, HR1.out, HG1.out⟩
      case round =>
        obtain ⟨j, rfl, hj, hjr, a2, c2, hq2, hR2, hg2⟩ := hrel
        have q0' : wr.cell? ⟨q, 0, none⟩ = some (.int .i64 (m : Int)) := by simp [World.cell?, hq2, HM.out]
        have q1' : wr.cell? ⟨q, 1, none⟩ = some (.slice a2 (blen m) c2) := by simp [World.cell?, hq2, HM.out]
        have hr1 : 1 ≤ m - at_ := by omega
        by_cases hj2 : m - at_ < 2 ^ j
        · have h2 := wrap_pow j (by omega)
          have g4 : decide ((m : Int) - (at_ : Int) < wrap64 (2 ^ j)) = true := decide_eq_true (by rw [h2]; exact sub_lt_cast hj2 (by omega))
          have hj0 : 1 ≤ j := by
            rcases Nat.eq_zero_or_pos j with e | e
            · rw [e] at hj2; simp at hj2; omega
            · exact e
          clear h2
          go_wp2
          go_quiet (fail)
          go_wp2
          exact ⟨⟨j - 1, by congr 1; omega, by omega, by rw [show j - 1 + 1 = j by omega]; exact hj2, a2, c2, hq2, hR2.kept (drewN_grown wr nq) (fun j e => by cases e), hg2.andThen (drewN_grown wr nq) (fun j e => by cases e)⟩, by simp [intOf]; omega⟩
        · have h2 := wrap_pow j (by omega)
          have g4 : decide ((m : Int) - (at_ : Int) < wrap64 (2 ^ j)) = false := decide_eq_false (by rw [h2]; exact sub_ge_cast (Nat.le_of_not_lt hj2) (by omega))
          clear h2
          have hjm : 2 ^ j ≤ m := by omega
          have hlen : (js par (anc par r d) m).length = blen m := js_length _ _ _
          rw [← HM.out] at hR2
          rcases hR2 with ⟨he, _⟩ | ⟨g, rfl, hp0, hpc, hgk, hcell⟩
          · rw [he] at hlen; simp at hlen; omega
          rw [hlen] at hp0 hpc hcell
          have cj := hcell j hj
          rw [js_getD _ _ _ _ hj, anc_add] at cj
          have hnext : hgt (anc par r (d + 2 ^ j)) = some (k - (d + 2 ^ j)) := hgt_anc HT.out HN.out _ (by have := HM.out; have := HD.out; omega)
          have hUn := (HK.out _ _ hnext).1
          obtain ⟨a3, c3, hR3, hl3⟩ := (HH.out.kept hg2 (fun j e => by cases e)).nodeN hUn hnext
          have hf0 : wr.frozen? ⟨q, 0, none⟩ = false := by simp [World.frozen?, hq2]
          have hf1 : wr.frozen? ⟨q, 1, none⟩ = false := by simp [World.frozen?, hq2]
          have c0'' := cell_p (HH.out.kept hg2 (fun j e => by cases e))
          have HL := Lib.hid hlen
          have HNX := Lib.hid hnext
          clear hlen hcell hnext
          go_wp2
          go_quiet (fail)
          go_wp2
          have hd1 : d + 2 ^ j ≤ k - at_ := by have := HD.out; have := HM.out; omega
          have hp1 : pop (k - at_ - d) = 1 + pop (k - at_ - (d + 2 ^ j)) := by
            rw [show k - at_ - (d + 2 ^ j) = k - at_ - d - 2 ^ j by omega]
            have e : k - at_ - d = m - at_ := by have := HM.out; omega
            rw [e]
            exact pop_top j _ (Nat.le_of_not_lt hj2) hjr
          have hP : pop (k - at_) ≤ 64 := Nat.le_trans (pop_le (k - at_) 40 (by simp; omega)) (by omega)
          have hqs : w.heap.size ≤ q := Nat.le_of_eq HQ.out.symm
          have hps := pair_store (x' := .int .i64 ((k - (d + 2 ^ j) : Nat) : Int)) (y' := .slice a3 (blen (k - (d + 2 ^ j))) c3) hqs hq2 hg2
          have hps := pair_store (w1 := wr.drewN nq) (x' := .int .i64 ((k - (d + 2 ^ j) : Nat) : Int)) (y' := .slice a3 (blen (k - (d + 2 ^ j))) c3) hqs hq2 (hg2.andThen (drewN_grown wr nq) (fun j e => by cases e))
          refine ⟨⟨d + 2 ^ j, hd1, rfl, congrArg (Value.int .i64) (pop_round HPL.out hp1 hP), by have := HPL.out; omega, a3, c3, hps.1, ?_, hps.2.2⟩, ?_⟩
          · refine (hR3.kept (drewN_grown wr nq) (fun j e => by cases e)).kept hps.2.1 (fun j e ho => ?_)
            cases e
            have := hok _ ho
            omega
          · rw [pop_round HPL.out hp1 hP]
            have := HPL.out
            simp [intOf]; omega
    · have hdk : d = k - at_ := by omega
      have g2 : decide ((at_ : Int) < ((k - d : Nat) : Int)) = false := decide_eq_false (by omega)
      have g3 : decide (at_ < k - d) = false := decide_eq_false (by omega)
      clear hq hq1 hR1 T K hn hd hpl
      have HDK := Lib.hid hdk
      clear hdk
      rw [← HQ.out]
      go_wp2
      go_ret3
      refine ⟨?_, HG1.out⟩
      have := HDK.out
      subst this
      simp [pop_zero]
end Go.Proofs.YtndfpmboanohcaaGreatDoor
