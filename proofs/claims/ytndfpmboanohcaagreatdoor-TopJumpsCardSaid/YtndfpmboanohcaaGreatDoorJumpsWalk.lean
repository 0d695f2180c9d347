/- The walk of TopJumps: it answers true, if the two engines agree on a block. -/
import Derived.Test.YtndfpmboanohcaaGreatDoorSkip4
namespace Go.Proofs.YtndfpmboanohcaaGreatDoor
set_option maxRecDepth 100000
open Go.RowKit Go.Maps SkipPure

theorem small_inU {k : Int} (h0 : 0 ≤ k) (h1 : k ≤ 1000000000) : inU k := ⟨h0, by omega⟩
theorem Holds.grown {w0 w : World} {p b n : Nat} {hgt : Int → Option Nat} {par : Int → Int} (h : Holds w0 w p b n hgt par) : w0.grownBy w none := by obtain ⟨_, _, _, _, _, h⟩ := h; exact h
theorem grown_lt {w w' : World} (h : w.grownBy w' none) : Below w.heap.size w w' := ⟨h.os, h.tape, h.output, h.size, fun i hi => h.block i hi (by simp)⟩
def ArgU8 (w : World) (a : Option Addr) (len : Nat) : Prop := ∀ i, i < len → ∃ ad x, a = some ad ∧ w.cell? (ad.add i) = some (.int .u8 x) ∧ 0 ≤ x ∧ x ≤ 255

/-- Blocks 1 .. i - 1, each lower than its root. -/
def Lows (hgt : Int → Option Nat) (i : Int) : Prop := (∀ j, 1 ≤ j → j < i → ∃ h : Nat, hgt j = some h ∧ (h : Int) < j) ∧ ∀ j, i ≤ j → hgt j = none
theorem Lows.one : Lows (hgtOne 1) 2 := by
  refine ⟨fun j h1 h2 => ⟨0, ?_, by omega⟩, fun j h => ?_⟩
  · unfold hgtOne; rw [if_pos (by omega)]
  · unfold hgtOne; rw [if_neg (by omega)]
theorem Lows.next {hgt : Int → Option Nat} {i : Int} (h : Lows hgt i) {q : Nat} (hq : (q : Int) < i - 1) : Lows (setHgt hgt i (q + 1)) (i + 1) := by
  refine ⟨fun j h1 h2 => ?_, fun j hj => ?_⟩
  · unfold setHgt
    by_cases e : j = i
    · rw [if_pos e]; exact ⟨q + 1, rfl, by omega⟩
    · rw [if_neg e]; exact h.1 j h1 (by omega)
  · unfold setHgt
    rw [if_neg (by omega)]
    exact h.2 j (by omega)
def Low (w0 w : World) (p b : Nat) (i : Int) : Prop := ∃ hgt par, Holds w0 w p b (i - 1).toNat hgt par ∧ Lows hgt i
theorem Low.grown {w0 w : World} {p b : Nat} {i : Int} (h : Low w0 w p b i) : w0.grownBy w none := by obtain ⟨_, _, h, _⟩ := h; exact h.grown
theorem Low.kept {w0 w w' : World} {p b : Nat} {i : Int} (h : Low w0 w p b i) (hg : w.grownBy w' none) : Low w0 w' p b i := by obtain ⟨x, y, h, z⟩ := h; exact ⟨x, y, h.kept hg, z⟩
theorem Low.add {w0 w : World} {p b : Nat} {i q : Int} (h : Low w0 w p b i) (hi : 2 ≤ i) (hb : i ≤ 100000) (hq1 : 1 ≤ q) (hq2 : q < i) :
    Calls Tryz.prog 8 #[.pointer (some ⟨p, 0, none⟩), .int .u64 i, .int .u64 q] w fun e w' => e = .returned (.bool true) ∧ Low w0 w' p b (i + 1) := by
  obtain ⟨hgt, par, hh, hl⟩ := h
  obtain ⟨m, hm, hml⟩ := hl.1 q hq1 hq2
  refine (add_H hh (by omega) (small_inU (by omega) (by omega)) (k := m) (by omega) hm (hl.2 i (by omega))).mono ?_
  rintro e w' ⟨rfl, h', _⟩
  have e : (i + 1 - 1).toNat = (i - 1).toNat + 1 := by omega
  exact ⟨rfl, _, _, by rw [e]; exact h', hl.next (q := m) (by omega)⟩

theorem atF_low {w0 w : World} {p b n : Nat} {hgt : Int → Option Nat} {par : Int → Int} (hh : Holds w0 w p b n hgt par) {k : Int} {h at_ : Nat} (hk : hgt k = some h) (ha : at_ ≤ h) :
    ∃ r : Int, atF hgt par k (at_ : Int) = (r, pop (h - at_), true) ∧ inU r ∧ hgt r = some at_ ∧ belowF hgt par k r = true := by
  obtain ⟨_, _, _, T, K, _⟩ := hh
  have e : hgt (SkipPure.anc par k (h - at_)) = some at_ := by
    rw [hgt_anc T hk (h - at_) (by omega)]
    congr 1
    omega
  have f : atF hgt par k (at_ : Int) = (SkipPure.anc par k (h - at_), pop (h - at_), true) := by
    unfold atF
    rw [hk]
    simp only [Int.toNat_natCast]
    rw [if_pos ⟨by omega, by omega⟩]
  refine ⟨_, f, (K _ _ e).1, e, ?_⟩
  unfold belowF
  rw [e]
  simp only
  rw [f]
  simp

set_option maxHeartbeats 2000000 in
theorem jumps_walk (w : World) (a : Option Addr) (len cap : Nat) (n at_ : Int) (ha : ArgU8 w a len) (hlen : len ≤ 140737488351232) (hn0 : 0 ≤ n) (hn : n ≤ 65535) (ha0 : 0 ≤ at_) (ha1 : at_ ≤ 65535)
    (AW : Calls Tryz.prog 6 #[] w fun e w' => e = .returned (.bool true) ∧ w.grownBy w' none) :
    Calls Tryz.prog 3 #[.int .u16 n, .slice a len cap, .int .u16 at_] w fun e w' => e = .returned (.bool true) ∧ w.grownBy w' none := by
  have HA := Lib.hid ha
  clear ha
  go_enter Tryz.func3, Tryz.ntmps3
  go_wp2_with fail
  refine AW.mono ?_
  rintro e w0 ⟨rfl, hg0⟩
  have HG0 := Lib.hid hg0
  clear hg0
  go_wp2_with fail
  refine (of_H HG0.out (small_inU (by omega) (by omega))).mono ?_
  rintro e w1 ⟨p, b, rfl, hs, hg⟩
  have HS := Lib.hid (show Low w w1 p b 2 from ⟨_, _, hs, Lows.one⟩)
  clear hs hg
  obtain ⟨k, hk⟩ : ∃ k, k = 1 + n % 1023 := ⟨_, rfl⟩
  have hk0 : 1 ≤ k := by omega
  have hk1 : k ≤ 1023 := by omega
  have HK := Lib.hid hk
  clear hk
  go_wp2
  rw [← HK.out]
  go_loopw [9] (fun v9 wr => ∃ i : Int, v9 = .int .u64 i ∧ 2 ≤ i ∧ i ≤ k + 1 ∧ Low w wr p b i) (fun v9 _ => (k + 1 - intOf v9).toNat)
  case atStart => exact ⟨2, rfl, by omega, by omega, HS.out⟩
  case round =>
    obtain ⟨i, rfl, h2, h9, hs⟩ := hrel
    have HL := Lib.hid hs
    clear hs
    by_cases hlt : i ≤ k
    · by_cases hb : 0 < len ∧ 20 < i
      · obtain ⟨hb0, hb1⟩ := hb
        have hm0 := Int.emod_nonneg i (show (len : Int) ≠ 0 by omega)
        have hm1 := Int.emod_lt_of_pos i (show 0 < (len : Int) by omega)
        obtain ⟨ad, x, rfl, hc, hx0, hx1⟩ := HA.out (i % (len : Int)).toNat (by omega)
        have hcw := HL.out.grown.cell hc (by simp)
        have hp5 : x % 5 ≤ 4 := by omega
        have hp50 : 0 ≤ x % 5 := by omega
        clear hc
        go_wp2_with fail
        refine (HL.out.add (by omega) (by omega) (by omega) (by omega)).mono ?_
        rintro e w2 ⟨rfl, hs3⟩
        have HS3 := Lib.hid hs3
        clear hs3
        go_wp2
        exact ⟨⟨i + 1, rfl, by omega, by omega, HS3.out⟩, by simp [intOf]; omega⟩
      · have hq : ∀ q : Int, q = i - 1 → Calls Tryz.prog 8 #[.pointer (some ⟨p, 0, none⟩), .int .u64 i, .int .u64 q] wr fun e w' => e = .returned (.bool true) ∧ Low w w' p b (i + 1) := by
          rintro q rfl
          exact HL.out.add (by omega) (by omega) (by omega) (by omega)
        have HQ := Lib.hid hq
        clear hq
        by_cases h0 : 0 < len
        · have h20 : ¬ 20 < i := fun h => hb ⟨h0, h⟩
          clear hb
          go_wp2_with fail
          refine (HQ.out _ rfl).mono ?_
          rintro e w2 ⟨rfl, hs3⟩
          have HS3 := Lib.hid hs3
          clear hs3
          go_wp2
          exact ⟨⟨i + 1, rfl, by omega, by omega, HS3.out⟩, by simp [intOf]; omega⟩
        · clear hb
          go_wp2_with fail
          refine (HQ.out _ rfl).mono ?_
          rintro e w2 ⟨rfl, hs3⟩
          have HS3 := Lib.hid hs3
          clear hs3
          go_wp2
          exact ⟨⟨i + 1, rfl, by omega, by omega, HS3.out⟩, by simp [intOf]; omega⟩
    · have hik : i = k + 1 := by omega
      subst hik
      obtain ⟨hgt, par, hh, hl⟩ := HL.out
      obtain ⟨h, hkh, hklt⟩ := hl.1 k hk0 (by omega)
      obtain ⟨m, hm⟩ : ∃ m : Nat, (m : Int) = at_ % ((h : Int) + 1) := ⟨(at_ % ((h : Int) + 1)).toNat, by have := Int.emod_nonneg at_ (show (h : Int) + 1 ≠ 0 by omega); omega⟩
      have hmh : m ≤ h := by have := Int.emod_lt_of_pos at_ (show 0 < (h : Int) + 1 by omega); omega
      obtain ⟨r, hA1, hA2, hA3, hA4⟩ := atF_low hh hkh hmh
      have hpop := pop_le (h - m) 10 (by show _ < 1024; omega)
      have hgd : (decide (((pop (h - m) : Nat) : Int) ≤ 10)) = true := decide_eq_true (by omega)
      have HH := Lib.hid hh
      have HKH := Lib.hid hkh
      have HM := Lib.hid hm
      have H1 := Lib.hid hA1
      have H3 := Lib.hid hA3
      have H4 := Lib.hid hA4
      have hkl : (h : Int) ≤ 1022 := by omega
      clear hl hh hkh hm hA1 hA3 hA4 hpop
      have hku : inU k := small_inU (by omega) (by omega)
      go_wp2_with fail
      refine (height_H HH.out hku).mono ?_
      rintro e w2 ⟨rfl, hs2, _⟩
      rw [HKH.out]
      have HH2 := Lib.hid hs2
      clear hs2
      go_wp2_with fail
      rw [← HM.out]
      refine (at_H HH2.out hku (m : Int)).mono ?_
      rintro e w3 ⟨rfl, hs3, _⟩
      rw [H1.out]
      have HH3 := Lib.hid hs3
      clear hs3
      go_wp2_with fail
      refine (height_H HH3.out hA2).mono ?_
      rintro e w4 ⟨rfl, hs4, _⟩
      rw [H3.out]
      have HH4 := Lib.hid hs4
      clear hs4
      go_wp2_with fail
      refine (below_H HH4.out hku hA2).mono ?_
      rintro e w5 ⟨rfl, hs5, _⟩
      rw [H4.out]
      have HH5 := Lib.hid hs5
      clear hs5
      go_wp2
      go_ret
      exact ⟨by simp, HH5.out.grown⟩

theorem arg_of_row {w : World} {a : Option Addr} {len cap : Nat} {zs : List Int} (h : (a = none ∧ len = 0 ∧ cap = 0 ∧ zs = []) ∨ ∃ x, a = some x ∧ len ≤ cap ∧ cap ≤ maxLen ∧ zs.length = cap ∧ (∀ i, i < zs.length → w.cell? (x.add i) = some (.int .u8 (zs.getD i 0))) ∧ ∀ n ∈ zs, (Lit.int .u8 n).wf = true) : ArgU8 w a len := by
  intro i hi
  rcases h with ⟨_, h, _⟩ | ⟨x, e, h1, _, h3, h4, h5⟩
  · omega
  · have hz : i < zs.length := by omega
    have hb := h5 (zs.getD i 0) (by rw [List.getD_eq_getElem?_getD, List.getElem?_eq_getElem hz]; simp)
    have h6 : 0 ≤ zs.getD i 0 ∧ zs.getD i 0 ≤ 255 := by simpa [Lit.wf, IntKind.min, IntKind.max, IntKind.signed, IntKind.bits] using hb
    exact ⟨x, _, e, h4 i hz, h6⟩
end Go.Proofs.YtndfpmboanohcaaGreatDoor
