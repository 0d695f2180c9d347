/- The law's own example: a line of eight blocks. -/
import Derived.Test.YtjoglfoioiedbaaSkip4
namespace Go.Proofs.Ytjoglfoioiedbaa
open Go.RowKit Go.Maps SkipPure

theorem atF_line {hgt : Int → Option Nat} {par : Int → Int} {a k : Int} (h : Line hgt par a k) {x : Int} (h1 : a ≤ x) (h2 : x < k) {at_ : Int} (h3 : 0 ≤ at_) (h4 : at_ ≤ x - a) :
    atF hgt par x at_ = (a + at_, pop (x - a - at_).toNat, true) := by
  unfold atF
  rw [h.1 x, if_pos ⟨h1, h2⟩]
  simp only
  rw [if_pos (by omega)]
  rw [h.anc h2 _ (by omega)]
  have e : (x - a).toNat - at_.toNat = (x - a - at_).toNat := by omega
  rw [e]
  congr 1
  omega

theorem small_inU {k : Int} (h0 : 0 ≤ k) (h1 : k ≤ 1000000000) : inU k := ⟨h0, by omega⟩

def SomeLine (w0 w : World) (p b : Nat) (a k : Int) : Prop := ∃ hgt par, Holds w0 w p b (k - a).toNat hgt par ∧ Line hgt par a k

theorem SomeLine.add {w0 w : World} {p b : Nat} {a k : Int} (h : SomeLine w0 w p b a k) (ha : 0 ≤ a) (hk : a < k) (hb : k ≤ 1000000) :
    Calls Try.prog 11 #[.pointer (some ⟨p, 0, none⟩), .int .u64 k, .int .u64 (k - 1)] w fun e w' => e = .returned (.bool true) ∧ SomeLine w0 w' p b a (k + 1) ∧ w.grownBy w' (some b) := by
  obtain ⟨hgt, par, h, hl⟩ := h
  refine (add_H h (by omega) (small_inU (by omega) (by omega)) (k := (k - 1 - a).toNat) (by omega) (by rw [hl.1, if_pos (by omega)]) (by rw [hl.1, if_neg (by omega)])).mono ?_
  rintro e w' ⟨rfl, h', hg⟩
  refine ⟨rfl, ⟨_, _, ?_, hl.next hk⟩, hg⟩
  rw [show (k + 1 - a).toNat = (k - a).toNat + 1 by omega]
  exact h'

theorem SomeLine.at_ {w0 w : World} {p b : Nat} {a k : Int} (h : SomeLine w0 w p b a k) (ha : 0 ≤ a) {x : Int} (h1 : a ≤ x) (h2 : x < k) (hk : k ≤ 1000000) {at_ : Int} (h3 : 0 ≤ at_) (h4 : at_ ≤ x - a) :
    Calls Try.prog 12 #[.pointer (some ⟨p, 0, none⟩), .int .u64 x, .int .i64 at_] w fun e w' => e = .returned (.tuple #[.int .u64 (a + at_), .int .i64 (pop (x - a - at_).toNat : Nat), .bool true]) ∧ w.grownBy w' none := by
  obtain ⟨hgt, par, h, hl⟩ := h
  refine (at_H h (small_inU (by omega) (by omega)) at_).mono ?_
  rintro e w' ⟨rfl, _, hg⟩
  rw [atF_line hl h1 h2 h3 h4]
  exact ⟨rfl, hg⟩

theorem Holds.grown {w0 w : World} {p b n : Nat} {hgt : Int → Option Nat} {par : Int → Int} (h : Holds w0 w p b n hgt par) : w0.grownBy w none := by obtain ⟨_, _, _, _, _, h⟩ := h; exact h
theorem SomeLine.grown {w0 w : World} {p b : Nat} {a k : Int} (h : SomeLine w0 w p b a k) : w0.grownBy w none := by obtain ⟨_, _, h, _⟩ := h; exact h.grown

theorem grown_lt {w w' : World} (h : w.grownBy w' none) : Below w.heap.size w w' := ⟨h.os, h.tape, h.output, h.size, fun i hi => h.block i hi (by simp)⟩

theorem pop_seven : pop 7 = 3 := by
  rw [pop_step (by omega), pop_step (by omega), pop_step (by omega), pop_zero]

set_option maxHeartbeats 1000000 in
theorem awake_calls (w : World) : Calls Try.prog 9 #[] w fun e w' => e = .returned (.bool true) ∧ w.grownBy w' none := by
  go_enter Try.func9, Try.ntmps9
  go_wp2_with fail
  refine (of_H (World.grownBy.refl w none) (small_inU (by omega) (by omega))).mono ?_
  rintro e w1 ⟨p, b, rfl, hs, hg⟩
  have HS := Lib.hid (show SomeLine w w1 p b 1 (1 + 1) from ⟨_, _, hs, line_one 1⟩)
  have HG := Lib.hid hg
  clear hs hg
  go_wp2
  go_loopw [2] (fun v2 wr => ∃ k : Int, v2 = .int .u64 k ∧ 2 ≤ k ∧ k ≤ 9 ∧ SomeLine w wr p b 1 k) (fun v2 _ => (9 - intOf v2).toNat)
  case atStart => exact ⟨2, rfl, by omega, by omega, HS.out⟩
  case round =>
    obtain ⟨k, rfl, h2, h9, hs⟩ := hrel
    have HS2 := Lib.hid hs
    clear hs
    by_cases hlt : k ≤ 8
    · go_wp2_with fail
      refine (HS2.out.add (by omega) (by omega) (by omega)).mono ?_
      rintro e w2 ⟨rfl, hs3, hg3⟩
      have HS3 := Lib.hid hs3
      clear hs3 hg3
      go_wp2
      exact ⟨⟨k + 1, rfl, by omega, by omega, HS3.out⟩, by simp [intOf]; omega⟩
    · go_wp2_with fail
      have hk9 : k = 9 := by omega
      subst hk9
      refine (HS2.out.at_ (by omega) (by omega) (by omega) (by omega) (by omega) (by omega)).mono ?_
      rintro e w2 ⟨rfl, hg3⟩
      have hg4 := HS2.out.grown.andThen hg3 (fun j e => by cases e)
      have HG4 := Lib.hid hg4
      clear hg4 hg3
      rw [show ((8 : Int) - 1 - 0).toNat = 7 from rfl, pop_seven]
      go_wp2
      go_ret
      exact ⟨rfl, HG4.out⟩
end Go.Proofs.Ytjoglfoioiedbaa
