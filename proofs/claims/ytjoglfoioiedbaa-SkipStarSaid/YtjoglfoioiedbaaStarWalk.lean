/- The walk of SkipStar. -/
import Derived.Test.YtjoglfoioiedbaaSkip5
namespace Go.Proofs.Ytjoglfoioiedbaa
open Go.RowKit Go.Maps SkipPure

/-- Blocks 2 .. below k all stand on block 1. -/
def Star (hgt : Int → Option Nat) (par : Int → Int) (k : Int) : Prop :=
  (∀ x, hgt x = if x = 1 then some 0 else if 2 ≤ x ∧ x < k then some 1 else none) ∧ ∀ x, 2 ≤ x → x < k → par x = 1

theorem star_one : Star (hgtOne 1) (fun x => x) 2 := by
  refine ⟨fun x => ?_, fun x h1 h2 => by omega⟩
  unfold hgtOne
  by_cases e : x = 1
  · rw [if_pos e, if_pos e]
  · rw [if_neg e, if_neg e, if_neg (by omega)]

theorem Star.next {hgt : Int → Option Nat} {par : Int → Int} {k : Int} (h : Star hgt par k) (hk : 2 ≤ k) : Star (setHgt hgt k (0 + 1)) (setPar par k 1) (k + 1) := by
  refine ⟨fun x => ?_, fun x h1 h2 => ?_⟩
  · unfold setHgt
    by_cases e : x = k
    · rw [if_pos e, if_neg (by omega), if_pos (by omega)]
    · rw [if_neg e, h.1 x]
      by_cases c : x = 1
      · rw [if_pos c, if_pos c]
      · rw [if_neg c, if_neg c]
        by_cases c2 : 2 ≤ x ∧ x < k
        · rw [if_pos c2, if_pos (by omega)]
        · rw [if_neg c2, if_neg (by omega)]
  · unfold setPar
    by_cases e : x = k
    · rw [if_pos e]
    · rw [if_neg e, h.2 x h1 (by omega)]

def SomeStar (w0 w : World) (p b : Nat) (k : Int) : Prop := ∃ hgt par, Holds w0 w p b (k - 1).toNat hgt par ∧ Star hgt par k

theorem SomeStar.add {w0 w : World} {p b : Nat} {k : Int} (h : SomeStar w0 w p b k) (hk : 2 ≤ k) (hb : k ≤ 1000000) :
    Calls Try.prog 11 #[.pointer (some ⟨p, 0, none⟩), .int .u64 k, .int .u64 1] w fun e w' => e = .returned (.bool true) ∧ SomeStar w0 w' p b (k + 1) := by
  obtain ⟨hgt, par, h, hl⟩ := h
  refine (add_H h (by omega) (small_inU (by omega) (by omega)) (k := 0) (by omega) (by rw [hl.1, if_pos rfl]) (by rw [hl.1, if_neg (by omega), if_neg (by omega)])).mono ?_
  rintro e w' ⟨rfl, h', hg⟩
  refine ⟨rfl, ⟨_, _, ?_, hl.next hk⟩⟩
  rw [show (k + 1 - 1).toNat = (k - 1).toNat + 1 by omega]
  exact h'

theorem SomeStar.height {w0 w : World} {p b : Nat} {k : Int} (h : SomeStar w0 w p b k) (hk : k ≤ 1000000) {x : Int} (h1 : 2 ≤ x) (h2 : x < k) :
    Calls Try.prog 14 #[.pointer (some ⟨p, 0, none⟩), .int .u64 x] w fun e w' => e = .returned (.tuple #[.int .i64 1, .bool true]) ∧ SomeStar w0 w' p b k := by
  obtain ⟨hgt, par, h, hl⟩ := h
  refine (height_H h (small_inU (by omega) (by omega))).mono ?_
  rintro e w' ⟨rfl, h', hg⟩
  rw [hl.1 x, if_neg (by omega), if_pos ⟨h1, h2⟩]
  exact ⟨rfl, ⟨_, _, h', hl⟩⟩

def starAt (x at_ : Int) : Int × Nat × Bool := if at_ = 0 then (1, 1, true) else if at_ = 1 then (x, 0, true) else (0, 0, false)

theorem pop_one : pop 1 = 1 := by rw [pop_step (by omega), pop_zero]

theorem star_atF {hgt : Int → Option Nat} {par : Int → Int} {k : Int} (hl : Star hgt par k) {x : Int} (h1 : 2 ≤ x) (h2 : x < k) (at_ : Int) : atF hgt par x at_ = starAt x at_ := by
  unfold atF starAt
  rw [hl.1 x, if_neg (by omega), if_pos ⟨h1, h2⟩]
  simp only
  by_cases e0 : at_ = 0
  · subst e0
    simp [SkipPure.anc, pop_one, hl.2 x h1 h2]
  · rw [if_neg e0]
    by_cases e1 : at_ = 1
    · subst e1
      simp [SkipPure.anc, pop_zero]
    · rw [if_neg e1, if_neg (by omega)]

theorem SomeStar.at_ {w0 w : World} {p b : Nat} {k : Int} (h : SomeStar w0 w p b k) (hk : k ≤ 1000000) {x : Int} (h1 : 2 ≤ x) (h2 : x < k) (at_ : Int) :
    Calls Try.prog 12 #[.pointer (some ⟨p, 0, none⟩), .int .u64 x, .int .i64 at_] w fun e w' => e = .returned (.tuple #[.int .u64 (starAt x at_).1, .int .i64 ((starAt x at_).2.1 : Nat), .bool (starAt x at_).2.2]) ∧ SomeStar w0 w' p b k := by
  obtain ⟨hgt, par, h, hl⟩ := h
  refine (at_H h (small_inU (by omega) (by omega)) at_).mono ?_
  rintro e w' ⟨rfl, h', hg⟩
  rw [star_atF hl h1 h2]
  exact ⟨rfl, ⟨_, _, h', hl⟩⟩

theorem SomeStar.belowOne {w0 w : World} {p b : Nat} {k : Int} (h : SomeStar w0 w p b k) (hk : k ≤ 1000000) {x : Int} (h1 : 2 ≤ x) (h2 : x < k) :
    Calls Try.prog 16 #[.pointer (some ⟨p, 0, none⟩), .int .u64 x, .int .u64 1] w fun e w' => e = .returned (.bool true) ∧ SomeStar w0 w' p b k := by
  obtain ⟨hgt, par, h, hl⟩ := h
  refine (below_H h (small_inU (by omega) (by omega)) (small_inU (by omega) (by omega))).mono ?_
  rintro e w' ⟨rfl, h', hg⟩
  refine ⟨?_, ⟨_, _, h', hl⟩⟩
  unfold belowF
  rw [hl.1 1, if_pos rfl]
  simp only
  rw [star_atF hl h1 h2]
  rfl

theorem SomeStar.belowNext {w0 w : World} {p b : Nat} {k : Int} (h : SomeStar w0 w p b k) (hk : k ≤ 1000000) {x : Int} (h1 : 2 ≤ x) (h2 : x < k) :
    Calls Try.prog 16 #[.pointer (some ⟨p, 0, none⟩), .int .u64 x, .int .u64 (x + 1)] w fun e w' => e = .returned (.bool false) ∧ SomeStar w0 w' p b k := by
  obtain ⟨hgt, par, h, hl⟩ := h
  refine (below_H h (small_inU (by omega) (by omega)) (small_inU (by omega) (by omega))).mono ?_
  rintro e w' ⟨rfl, h', hg⟩
  refine ⟨?_, ⟨_, _, h', hl⟩⟩
  unfold belowF
  rw [hl.1 (x + 1), if_neg (by omega)]
  by_cases c : 2 ≤ x + 1 ∧ x + 1 < k
  · rw [if_pos c]
    simp only
    rw [star_atF hl h1 h2]
    simp [starAt]
    omega
  · rw [if_neg c]

theorem SomeStar.len {w0 w : World} {p b : Nat} {k : Int} (h : SomeStar w0 w p b k) (hk : 2 ≤ k) :
    Calls Try.prog 15 #[.pointer (some ⟨p, 0, none⟩)] w fun e w' => e = .returned (.int .i64 (k - 1)) ∧ w = w' := by
  obtain ⟨hgt, par, h, hl⟩ := h
  refine (len_H h).mono ?_
  rintro e w' ⟨rfl, rfl⟩
  exact ⟨by congr 2; omega, rfl⟩

theorem SomeStar.grown {w0 w : World} {p b : Nat} {k : Int} (h : SomeStar w0 w p b k) : w0.grownBy w none := by obtain ⟨_, _, h, _⟩ := h; exact h.grown

set_option maxRecDepth 100000 in
set_option maxHeartbeats 4000000 in
theorem star_walk (n h : Int) (w : World) (hn0 : 0 ≤ n) (hn : n ≤ 255) (hh0 : -128 ≤ h) (hh : h ≤ 127) :
    Calls Try.prog 5 #[.int .u8 n, .int .i8 h] w fun e w' => e = .returned (.bool true) ∧ w.grownBy w' none := by
  go_enter Try.func5, Try.ntmps5
  go_wp2_with fail
  refine (awake_calls w).mono ?_
  rintro e w0 ⟨rfl, hg0⟩
  have HG0 := Lib.hid hg0
  clear hg0
  go_wp2_with fail
  refine (of_H HG0.out (small_inU (by omega) (by omega))).mono ?_
  rintro e w1 ⟨p, b, rfl, hs, hg⟩
  have HS := Lib.hid (show SomeStar w w1 p b 2 from ⟨_, _, hs, star_one⟩)
  clear hs hg
  go_wp2
  obtain ⟨k, hk⟩ : ∃ k, k = n % 50 := ⟨_, rfl⟩
  rw [← hk]
  have hk0 : 0 ≤ k := by omega
  have hk1 : k ≤ 49 := by omega
  clear hk
  go_loopw [7] (fun v7 wr => ∃ i : Int, v7 = .int .u64 i ∧ 2 ≤ i ∧ i ≤ 2 + k ∧ SomeStar w wr p b i) (fun v7 _ => (2 + k - intOf v7).toNat)
  case atStart => exact ⟨2, rfl, by omega, by omega, HS.out⟩
  case round =>
    obtain ⟨i, rfl, h2, h9, hs⟩ := hrel
    have HS2 := Lib.hid hs
    clear hs
    by_cases hlt : i < 2 + k
    · go_wp2_with fail
      refine (HS2.out.add (by omega) (by omega)).mono ?_
      rintro e w2 ⟨rfl, hs3⟩
      have HS3 := Lib.hid hs3
      clear hs3
      go_wp2
      exact ⟨⟨i + 1, rfl, by omega, by omega, HS3.out⟩, by simp [intOf]; omega⟩
    · have hik : i = 2 + k := by omega
      subst hik
      go_wp2
      go_loopw [8] (fun v8 wr => ∃ i : Int, v8 = .int .u64 i ∧ 2 ≤ i ∧ i ≤ 2 + k ∧ SomeStar w wr p b (2 + k)) (fun v8 _ => (2 + k - intOf v8).toNat)
      case atStart => exact ⟨2, rfl, by omega, by omega, HS2.out⟩
      case round =>
        obtain ⟨i, rfl, h2, h9, hs⟩ := hrel
        have HS3 := Lib.hid hs
        clear hs
        by_cases hlt : i < 2 + k
        · go_wp2_with fail
          refine (HS3.out.height (by omega) h2 hlt).mono ?_
          rintro e w2 ⟨rfl, hs⟩
          have HS4 := Lib.hid hs
          clear hs
          go_wp2_with fail
          refine (HS4.out.at_ (by omega) h2 hlt h).mono ?_
          rintro e w2 ⟨rfl, hs⟩
          have HS5 := Lib.hid hs
          clear hs
          have g1 : (i == i) = true := beq_self_eq_true i
          by_cases e0 : h = 0
          · subst e0
            rw [show starAt i 0 = (1, 1, true) from rfl]
            go_wp2_with fail
            refine (HS5.out.belowOne (by omega) h2 hlt).mono ?_
            rintro e w3 ⟨rfl, hs⟩
            have HS6 := Lib.hid hs
            clear hs
            go_wp2_with fail
            refine (HS6.out.belowNext (by omega) h2 hlt).mono ?_
            rintro e w4 ⟨rfl, hs⟩
            have HS7 := Lib.hid hs
            clear hs
            go_wp2
            exact ⟨⟨i + 1, rfl, by omega, by omega, HS7.out⟩, by simp [intOf]; omega⟩
          · by_cases e1 : h = 1
            · subst e1
              rw [show starAt i 1 = (i, 0, true) from rfl]
              go_wp2_with fail
              refine (HS5.out.belowOne (by omega) h2 hlt).mono ?_
              rintro e w3 ⟨rfl, hs⟩
              have HS6 := Lib.hid hs
              clear hs
              go_wp2_with fail
              refine (HS6.out.belowNext (by omega) h2 hlt).mono ?_
              rintro e w4 ⟨rfl, hs⟩
              have HS7 := Lib.hid hs
              clear hs
              go_wp2
              exact ⟨⟨i + 1, rfl, by omega, by omega, HS7.out⟩, by simp [intOf]; omega⟩
            · rw [show starAt i h = (0, 0, false) from by simp [starAt, e0, e1]]
              have g2 : (h == 0) = false := beq_eq_false_iff_ne.2 e0
              have g3 : (h == 1) = false := beq_eq_false_iff_ne.2 e1
              clear e0 e1
              go_wp2_with fail
              refine (HS5.out.belowOne (by omega) h2 hlt).mono ?_
              rintro e w3 ⟨rfl, hs⟩
              have HS6 := Lib.hid hs
              clear hs
              go_wp2_with fail
              refine (HS6.out.belowNext (by omega) h2 hlt).mono ?_
              rintro e w4 ⟨rfl, hs⟩
              have HS7 := Lib.hid hs
              clear hs
              go_wp2
              exact ⟨⟨i + 1, rfl, by omega, by omega, HS7.out⟩, by simp [intOf]; omega⟩
        · go_wp2_with fail
          refine (HS3.out.len (by omega)).mono ?_
          rintro e w2 ⟨rfl, rfl⟩
          have g1 : (2 + k - 1 == k + 1) = true := beq_iff_eq.2 (by omega)
          go_wp2
          go_ret
          exact ⟨by simp, HS3.out.grown⟩

theorem star_row (n h : Int) (w : World) (hn : (Lit.int .u8 n).wf = true) (hh : (Lit.int .i8 h).wf = true) :
    Calls Try.prog 5 #[.int .u8 n, .int .i8 h] w fun e w' => e = .returned (.bool true) ∧ Below w.heap.size w w' := by
  have h1 : 0 ≤ n ∧ n ≤ 255 := by simpa [Lit.wf, IntKind.min, IntKind.max, IntKind.signed, IntKind.bits] using hn
  have h2 : -128 ≤ h ∧ h ≤ 127 := by simpa [Lit.wf, IntKind.min, IntKind.max, IntKind.signed, IntKind.bits] using hh
  exact (star_walk n h w h1.1 h1.2 h2.1 h2.2).mono fun _ _ ⟨h1, h2⟩ => ⟨h1, grown_lt h2⟩
end Go.Proofs.Ytjoglfoioiedbaa
