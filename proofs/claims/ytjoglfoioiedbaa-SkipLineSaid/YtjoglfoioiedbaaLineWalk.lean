/- The walk of SkipLine. -/
import Derived.Test.YtjoglfoioiedbaaSkip5
namespace Go.Proofs.Ytjoglfoioiedbaa
open Go.RowKit Go.Maps SkipPure

theorem blen_half {x : Nat} (h : 0 < x) : blen x = blen (x / 2) + 1 := by
  have h1 := blen_pos h
  have a := pow_blen h
  have b := lt_pow_blen x
  have e : 2 ^ blen x = 2 * 2 ^ (blen x - 1) := by rw [← Nat.pow_succ']; congr 1; omega
  have c : blen (x / 2) ≤ blen x - 1 := blen_le.2 (by omega)
  rcases Nat.eq_zero_or_pos (blen x - 1) with z | z
  · omega
  · have e2 : 2 ^ (blen x - 1) = 2 * 2 ^ (blen x - 2) := by rw [← Nat.pow_succ']; congr 1; omega
    have d : blen x - 2 < blen (x / 2) := lt_blen.2 (by omega)
    omega

set_option maxHeartbeats 2000000 in
theorem line_walk (n at_ : Int) (w : World) (hn0 : 0 ≤ n) (hn : n ≤ 65535) (ha0 : 0 ≤ at_) (ha : at_ ≤ 65535) :
    Calls Try.prog 3 #[.int .u16 n, .int .u16 at_] w fun e w' => e = .returned (.bool true) ∧ w.grownBy w' none := by
  go_enter Try.func3, Try.ntmps3
  go_wp2_with fail
  refine (awake_calls w).mono ?_
  rintro e w0 ⟨rfl, hg0⟩
  have HG0 := Lib.hid hg0
  clear hg0
  go_wp2_with fail
  refine (of_H HG0.out (small_inU (by omega) (by omega))).mono ?_
  rintro e w1 ⟨p, b, rfl, hs, hg⟩
  have HS := Lib.hid (show SomeLine w w1 p b 0 (0 + 1) from ⟨_, _, hs, line_one 0⟩)
  clear hs hg
  go_wp2
  obtain ⟨k, hk⟩ : ∃ k, k = n % 1000 := ⟨_, rfl⟩
  rw [← hk]
  have hk0 : 0 ≤ k := by omega
  have hk1 : k ≤ 999 := by omega
  clear hk
  go_loopw [7] (fun v7 wr => ∃ i : Int, v7 = .int .i64 i ∧ 1 ≤ i ∧ i ≤ k + 1 ∧ SomeLine w wr p b 0 i) (fun v7 _ => (k + 1 - intOf v7).toNat)
  case atStart => exact ⟨1, rfl, by omega, by omega, HS.out⟩
  case round =>
    obtain ⟨i, rfl, h2, h9, hs⟩ := hrel
    have HS2 := Lib.hid hs
    clear hs
    by_cases hlt : i ≤ k
    · go_wp2_with fail
      refine (HS2.out.add (by omega) (by omega) (by omega)).mono ?_
      rintro e w2 ⟨rfl, hs3, hg3⟩
      have HS3 := Lib.hid hs3
      clear hs3 hg3
      go_wp2
      exact ⟨⟨i + 1, rfl, by omega, by omega, HS3.out⟩, by simp [intOf]; omega⟩
    · have hik : i = k + 1 := by omega
      subst hik
      have hm0 := Int.emod_nonneg at_ (show k + 1 ≠ 0 by omega)
      have hm1 := Int.emod_lt_of_pos at_ (show 0 < k + 1 by omega)
      go_wp2_with fail
      obtain ⟨h, hh⟩ : ∃ h, h = at_ % (k + 1) := ⟨_, rfl⟩
      rw [← hh] at hm0 hm1 ⊢
      clear hh
      refine (HS2.out.at_ (by omega) (by omega) (by omega) (by omega) (by omega) (by omega)).mono ?_
      rintro e w2 ⟨rfl, hg3⟩
      have HG3 := Lib.hid (HS2.out.grown.andThen hg3 (fun j e => by cases e))
      clear hg3
      obtain ⟨m, hm⟩ : ∃ m : Nat, m = (k - 0 - h).toNat := ⟨_, rfl⟩
      rw [← hm, Int.zero_add]
      have hmk : (m : Int) = k - h := by omega
      clear hm
      have HM := Lib.hid hmk
      have hm999 : m ≤ 999 := by omega
      have hP := pop_le m (blen m) (lt_pow_blen m)
      have hB : blen m ≤ 10 := blen_le.2 (by omega)
      clear hmk
      go_wp2
      rw [show k - h = (m : Int) from HM.out.symm]
      go_loopw [12, 13] (fun v12 v13 wr => ∃ x d : Nat, v13 = .int .i64 (x : Int) ∧ v12 = .int .i64 (d : Int) ∧ d + blen x = blen m ∧ x ≤ m ∧ wr = w2) (fun _ v13 _ => (intOf v13).toNat)
      case atStart => exact ⟨m, 0, rfl, rfl, by omega, Nat.le_refl _, rfl⟩
      case round =>
        obtain ⟨x, d, rfl, rfl, hd, hx, rfl⟩ := hrel
        by_cases h0 : 0 < x
        · have hs := blen_half h0
          have HJ := Lib.hid hd
          have HSS := Lib.hid hs
          have hj2 : d ≤ 10 := by omega
          clear hd hs
          go_wp2
          exact ⟨⟨x / 2, d + 1, by simp, by simp, by have := HJ.out; have := HSS.out; omega, by omega, trivial⟩, by simp [intOf]; omega⟩
        · have h00 : x = 0 := by omega
          subst h00
          rw [blen_zero, Nat.add_zero] at hd
          subst hd
          have hle : decide (pop m ≤ blen m) = true := decide_eq_true hP
          go_wp2_with fail
          rw [show k - h = (m : Int) from HM.out.symm]
          refine (ones_calls m _ (by omega)).mono ?_
          rintro e w3 ⟨rfl, rfl⟩
          go_wp2
          go_ret
          exact ⟨by simp, HG3.out⟩

theorem u16_bd {a : Int} (h : (Lit.int .u16 a).wf = true) : 0 ≤ a ∧ a ≤ 65535 := by
  simpa [Lit.wf, IntKind.min, IntKind.max, IntKind.signed, IntKind.bits] using h

theorem line_row (n at_ : Int) (w : World) (hn : (Lit.int .u16 n).wf = true) (ha : (Lit.int .u16 at_).wf = true) :
    Calls Try.prog 3 #[.int .u16 n, .int .u16 at_] w fun e w' => e = .returned (.bool true) ∧ Below w.heap.size w w' :=
  (line_walk n at_ w (u16_bd hn).1 (u16_bd hn).2 (u16_bd ha).1 (u16_bd ha).2).mono fun _ _ ⟨h1, h2⟩ => ⟨h1, grown_lt h2⟩
end Go.Proofs.Ytjoglfoioiedbaa
