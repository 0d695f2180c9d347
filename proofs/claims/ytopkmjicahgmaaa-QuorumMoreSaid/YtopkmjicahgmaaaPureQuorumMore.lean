/- The plain law of QuorumMore: more are enough where fewer were; all are; for all arguments of their kinds. -/
import Derived.Test.YtopkmjicahgmaaaPQuorumMorex1
namespace Go.Proofs.Ytopkmjicahgmaaa.Pure
open Go.RowKit Go.Proofs.Ytopkmjicahgmaaa.PQuorumMore Go.Proofs.YtopkmjicahgmaaaW.PrintWords Go.Proofs.YtopkmjicahgmaaaW.PrintLast
namespace QuorumMoreLemmas

theorem u64_bd {a : Int} (h : (Lit.int .u64 a).wf = true) : 0 ≤ a ∧ a ≤ 18446744073709551615 := by
  simpa [Lit.wf, IntKind.min, IntKind.max, IntKind.signed, IntKind.bits] using h

theorem u32_bd {a : Int} (h : (Lit.int .u32 a).wf = true) : 0 ≤ a ∧ a ≤ 4294967295 := by
  simpa [Lit.wf, IntKind.min, IntKind.max, IntKind.signed, IntKind.bits] using h

theorem wr (a : Int) (h0 : 0 ≤ a) (h1 : a ≤ 18446744073709551615) : IntKind.u64.wrap a = a := by
  simp only [IntKind.wrap, IntKind.bits, IntKind.signed]
  simp only [Bool.false_and, Bool.false_eq_true, if_false]
  omega

theorem enough_eq (s a : Int) (_ : 0 ≤ s) (_ : s ≤ 18446744073709551615) (ha0 : 0 ≤ a) (ha : a ≤ 18446744073709551615) :
    quorum_Enough.f s a = some (decide (a > 0 ∧ 3 * s ≥ 2 * a)) := by
  unfold quorum_Enough.f
  rw [Int.tdiv_eq_ediv_of_nonneg ha0, Int.tmod_eq_emod_of_nonneg ha0]
  rw [wr (a / 3) (by omega) (by omega), wr (2 * (a / 3)) (by omega) (by omega), wr (2 * (a % 3)) (by omega) (by omega), wr (2 * (a % 3) + 2) (by omega) (by omega)]
  rw [Int.tdiv_eq_ediv_of_nonneg (by omega)]
  rw [wr ((2 * (a % 3) + 2) / 3) (by omega) (by omega), wr _ (by omega) (by omega)]
  by_cases h : a > 0
  · rw [if_pos h]; congr 1; rw [decide_eq_decide]; omega
  · rw [if_neg h]; congr 1; symm; rw [decide_eq_false_iff_not]; omega

theorem third_eq (s a : Int) (_ : 0 ≤ s) (_ : s ≤ 18446744073709551615) (ha0 : 0 ≤ a) (ha : a ≤ 18446744073709551615) :
    quorum_Third.f s a = some (decide (a > 0 ∧ 3 * s ≥ a)) := by
  unfold quorum_Third.f
  rw [Int.tdiv_eq_ediv_of_nonneg ha0, Int.tmod_eq_emod_of_nonneg ha0]
  rw [wr (a / 3) (by omega) (by omega), wr (a % 3 + 2) (by omega) (by omega)]
  rw [Int.tdiv_eq_ediv_of_nonneg (by omega)]
  rw [wr ((a % 3 + 2) / 3) (by omega) (by omega), wr _ (by omega) (by omega)]
  by_cases h : a > 0
  · rw [if_pos h]; congr 1; rw [decide_eq_decide]; omega
  · rw [if_neg h]; congr 1; symm; rw [decide_eq_false_iff_not]; omega

theorem meet_eq (a b n : Int) (ha0 : 0 ≤ a) (ha : a ≤ 18446744073709551615) (hb0 : 0 ≤ b) (hb : b ≤ 18446744073709551615) (hn0 : 0 ≤ n) (hn : n ≤ 18446744073709551615) :
    quorum_Meet.f a b n = some (if a ≤ n ∧ b ≤ n ∧ n - b ≤ a then a - (n - b) else 0) := by
  unfold quorum_Meet.f
  by_cases h1 : a > n
  · rw [if_pos h1, if_neg (by omega)]
  by_cases h2 : b > n
  · rw [if_neg h1, if_pos h2, if_neg (by omega)]
  rw [if_neg h1, if_neg h2, wr (n - b) (by omega) (by omega)]
  by_cases h3 : a < n - b
  · rw [if_pos h3, if_neg (by omega)]
  · rw [if_neg h3, if_pos (by omega), wr _ (by omega) (by omega)]

theorem awake_eq : psephoslaw07_awake.f = some true := by
  unfold psephoslaw07_awake.f
  rw [enough_eq 2 3 (by omega) (by omega) (by omega) (by omega), enough_eq 1 2 (by omega) (by omega) (by omega) (by omega),
    third_eq 1 3 (by omega) (by omega) (by omega) (by omega), meet_eq 2 2 3 (by omega) (by omega) (by omega) (by omega) (by omega) (by omega)]
  rfl

end QuorumMoreLemmas
open QuorumMoreLemmas

theorem QuorumMore : psephoslaw07_QuorumMore.Pure := by
  intro s a m hs ha hm
  obtain ⟨hs0, hs⟩ := u64_bd hs
  obtain ⟨ha0, ha⟩ := u64_bd ha
  obtain ⟨hm0, hm⟩ := u64_bd hm
  unfold psephoslaw07_QuorumMore.f
  rw [awake_eq]; simp only [Option.bind_some, if_true]
  rw [Int.tdiv_eq_ediv_of_nonneg hs0, Int.tdiv_eq_ediv_of_nonneg hm0, wr (s / 2) (by omega) (by omega), wr (m / 2) (by omega) (by omega), wr (s / 2 + m / 2) (by omega) (by omega)]
  rw [enough_eq (s / 2) a (by omega) (by omega) ha0 ha, enough_eq (s / 2 + m / 2) a (by omega) (by omega) ha0 ha, enough_eq a a ha0 ha ha0 ha, enough_eq s a hs0 hs ha0 ha, third_eq s a hs0 hs ha0 ha]
  simp only [Option.bind_some]
  have e : (decide (a > 0 ∧ 3 * a ≥ 2 * a) == decide (a > 0)) = true := by
    rw [beq_iff_eq, decide_eq_decide]; omega
  rw [if_pos e]
  have t : (if decide (a > 0 ∧ 3 * s ≥ 2 * a) = true then some (decide (a > 0 ∧ 3 * s ≥ a)) else some true) = some true := by
    by_cases h : a > 0 ∧ 3 * s ≥ 2 * a
    · rw [decide_eq_true h, if_pos rfl]; congr 1; rw [decide_eq_true_iff]; omega
    · rw [decide_eq_false h, if_neg (by decide)]
  rw [t]
  by_cases h : a > 0 ∧ 3 * (s / 2) ≥ 2 * a
  · rw [decide_eq_true h, if_pos rfl, decide_eq_true (by omega), if_pos rfl]
  · rw [decide_eq_false h, if_neg (by decide)]

end Go.Proofs.Ytopkmjicahgmaaa.Pure
