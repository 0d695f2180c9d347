/- The plain law of QuorumEnough: quorum.Enough and quorum.Third answer what three times some against two times (one time) all says over the whole numbers; for all arguments of their kinds. -/
import Derived.Test.YtopkmjicahgmaaaPQuorumEnoughx1
namespace Go.Proofs.Ytopkmjicahgmaaa.Pure
open Go.RowKit Go.Proofs.Ytopkmjicahgmaaa.PQuorumEnough Go.Proofs.YtopkmjicahgmaaaW.PrintWords Go.Proofs.YtopkmjicahgmaaaW.PrintLast
namespace QuorumEnoughLemmas

theorem u64_bd {a : Int} (h : (Lit.int .u64 a).wf = true) : 0 ≤ a ∧ a ≤ 18446744073709551615 := by
  simpa [Lit.wf, IntKind.min, IntKind.max, IntKind.signed, IntKind.bits] using h

theorem u32_bd {a : Int} (h : (Lit.int .u32 a).wf = true) : 0 ≤ a ∧ a ≤ 4294967295 := by
  simpa [Lit.wf, IntKind.min, IntKind.max, IntKind.signed, IntKind.bits] using h

theorem wr (a : Int) (h0 : 0 ≤ a) (h1 : a ≤ 18446744073709551615) : IntKind.u64.wrap a = a := by
  simp only [IntKind.wrap, IntKind.bits, IntKind.signed]
  simp only [Bool.false_and, Bool.false_eq_true, if_false]
  omega

theorem enough_eq (s a : Int) (_ : 0 ≤ s) (_ : s ≤ 18446744073709551615) (ha0 : 0 ≤ a) (ha : a ≤ 18446744073709551615) :
    quorum_Enough.f s a = some (decide (a > 0 ∧ 3 * s ≥ 2 * a)) := by
  unfold quorum_Enough.f
  rw [Int.tdiv_eq_ediv_of_nonneg ha0, Int.tmod_eq_emod_of_nonneg ha0]
  rw [wr (a / 3) (by omega) (by omega), wr (2 * (a / 3)) (by omega) (by omega), wr (2 * (a % 3)) (by omega) (by omega), wr (2 * (a % 3) + 2) (by omega) (by omega)]
  rw [Int.tdiv_eq_ediv_of_nonneg (by omega)]
  rw [wr ((2 * (a % 3) + 2) / 3) (by omega) (by omega), wr _ (by omega) (by omega)]
  by_cases h : a > 0
  · rw [if_pos h]; congr 1; rw [decide_eq_decide]; omega
  · rw [if_neg h]; congr 1; symm; rw [decide_eq_false_iff_not]; omega

theorem third_eq (s a : Int) (_ : 0 ≤ s) (_ : s ≤ 18446744073709551615) (ha0 : 0 ≤ a) (ha : a ≤ 18446744073709551615) :
    quorum_Third.f s a = some (decide (a > 0 ∧ 3 * s ≥ a)) := by
  unfold quorum_Third.f
  rw [Int.tdiv_eq_ediv_of_nonneg ha0, Int.tmod_eq_emod_of_nonneg ha0]
  rw [wr (a / 3) (by omega) (by omega), wr (a % 3 + 2) (by omega) (by omega)]
  rw [Int.tdiv_eq_ediv_of_nonneg (by omega)]
  rw [wr ((a % 3 + 2) / 3) (by omega) (by omega), wr _ (by omega) (by omega)]
  by_cases h : a > 0
  · rw [if_pos h]; congr 1; rw [decide_eq_decide]; omega
  · rw [if_neg h]; congr 1; symm; rw [decide_eq_false_iff_not]; omega

theorem meet_eq (a b n : Int) (ha0 : 0 ≤ a) (ha : a ≤ 18446744073709551615) (hb0 : 0 ≤ b) (hb : b ≤ 18446744073709551615) (hn0 : 0 ≤ n) (hn : n ≤ 18446744073709551615) :
    quorum_Meet.f a b n = some (if a ≤ n ∧ b ≤ n ∧ n - b ≤ a then a - (n - b) else 0) := by
  unfold quorum_Meet.f
  by_cases h1 : a > n
  · rw [if_pos h1, if_neg (by omega)]
  by_cases h2 : b > n
  · rw [if_neg h1, if_pos h2, if_neg (by omega)]
  rw [if_neg h1, if_neg h2, wr (n - b) (by omega) (by omega)]
  by_cases h3 : a < n - b
  · rw [if_pos h3, if_neg (by omega)]
  · rw [if_neg h3, if_pos (by omega), wr _ (by omega) (by omega)]

theorem awake_eq : psephoslaw07_awake.f = some true := by
  unfold psephoslaw07_awake.f
  rw [enough_eq 2 3 (by omega) (by omega) (by omega) (by omega), enough_eq 1 2 (by omega) (by omega) (by omega) (by omega),
    third_eq 1 3 (by omega) (by omega) (by omega) (by omega), meet_eq 2 2 3 (by omega) (by omega) (by omega) (by omega) (by omega) (by omega)]
  rfl

theorem times_eq (n k : Int) (h0 : 0 ≤ n) (h : n ≤ 18446744073709551615) (k0 : 0 ≤ k) (k3 : k ≤ 3) :
    psephoslaw07_times.f n k = some (k * n / 4294967296, k * n % 4294967296) := by
  unfold psephoslaw07_times.f
  rw [Int.tmod_eq_emod_of_nonneg h0]
  have hk : k = 0 ∨ k = 1 ∨ k = 2 ∨ k = 3 := by omega
  rcases hk with rfl | rfl | rfl | rfl
  all_goals
    rw [wr (n / 4294967296 * _) (by omega) (by omega), wr (n % 4294967296 * _) (by omega) (by omega)]
    rw [Int.tmod_eq_emod_of_nonneg (by omega), wr _ (by omega) (by omega)]
    congr 2 <;> omega

theorem atLeast_eq (a i b k : Int) (ha0 : 0 ≤ a) (ha : a ≤ 18446744073709551615) (hb0 : 0 ≤ b) (hb : b ≤ 18446744073709551615) (i0 : 0 ≤ i) (i3 : i ≤ 3) (k0 : 0 ≤ k) (k3 : k ≤ 3) :
    psephoslaw07_atLeast.f a i b k = some (decide (i * a ≥ k * b)) := by
  unfold psephoslaw07_atLeast.f
  rw [times_eq a i ha0 ha i0 i3]; simp only [Option.bind_some]
  rw [times_eq b k hb0 hb k0 k3]; simp only [Option.bind_some]
  generalize i * a = x
  generalize k * b = y
  by_cases h1 : x / 4294967296 > y / 4294967296
  · rw [if_pos h1]; congr 1; symm; rw [decide_eq_true_iff]; omega
  rw [if_neg h1]
  by_cases h2 : x / 4294967296 = y / 4294967296
  · rw [if_pos h2]; congr 1; rw [decide_eq_decide]; omega
  · rw [if_neg h2]; congr 1; symm; rw [decide_eq_false_iff_not]; omega

end QuorumEnoughLemmas
open QuorumEnoughLemmas

theorem QuorumEnough : psephoslaw07_QuorumEnough.Pure := by
  intro s a hs ha
  obtain ⟨hs0, hs⟩ := u64_bd hs
  obtain ⟨ha0, ha⟩ := u64_bd ha
  unfold psephoslaw07_QuorumEnough.f
  rw [awake_eq]; simp only [Option.bind_some, if_true]
  rw [enough_eq s a hs0 hs ha0 ha, third_eq s a hs0 hs ha0 ha]; simp only [Option.bind_some]
  by_cases h : a > 0
  · rw [if_pos h, atLeast_eq s 3 a 2 hs0 hs ha0 ha (by omega) (by omega) (by omega) (by omega), atLeast_eq s 3 a 1 hs0 hs ha0 ha (by omega) (by omega) (by omega) (by omega)]
    simp [h]
  · rw [if_neg h]
    simp [h]

end Go.Proofs.Ytopkmjicahgmaaa.Pure
