/- The plain law of QuorumNone: of nothing nothing is enough, nobody is enough of something, and parts that are all share what the other has; for all arguments of their kinds. -/
import Derived.Test.YtopkmjicahgmaaaPQuorumNonex1
namespace Go.Proofs.Ytopkmjicahgmaaa.Pure
open Go.RowKit Go.Proofs.Ytopkmjicahgmaaa.PQuorumNone Go.Proofs.YtopkmjicahgmaaaW.PrintWords Go.Proofs.YtopkmjicahgmaaaW.PrintLast
namespace QuorumNoneLemmas

theorem u64_bd {a : Int} (h : (Lit.int .u64 a).wf = true) : 0 ≤ a ∧ a ≤ 18446744073709551615 := by
  simpa [Lit.wf, IntKind.min, IntKind.max, IntKind.signed, IntKind.bits] using h

theorem u32_bd {a : Int} (h : (Lit.int .u32 a).wf = true) : 0 ≤ a ∧ a ≤ 4294967295 := by
  simpa [Lit.wf, IntKind.min, IntKind.max, IntKind.signed, IntKind.bits] using h

theorem wr (a : Int) (h0 : 0 ≤ a) (h1 : a ≤ 18446744073709551615) : IntKind.u64.wrap a = a := by
  simp only [IntKind.wrap, IntKind.bits, IntKind.signed]
  simp only [Bool.false_and, Bool.false_eq_true, if_false]
  omega

theorem enough_eq (s a : Int) (_ : 0 ≤ s) (_ : s ≤ 18446744073709551615) (ha0 : 0 ≤ a) (ha : a ≤ 18446744073709551615) :
    quorum_Enough.f s a = some (decide (a > 0 ∧ 3 * s ≥ 2 * a)) := by
  unfold quorum_Enough.f
  rw [Int.tdiv_eq_ediv_of_nonneg ha0, Int.tmod_eq_emod_of_nonneg ha0]
  rw [wr (a / 3) (by omega) (by omega), wr (2 * (a / 3)) (by omega) (by omega), wr (2 * (a % 3)) (by omega) (by omega), wr (2 * (a % 3) + 2) (by omega) (by omega)]
  rw [Int.tdiv_eq_ediv_of_nonneg (by omega)]
  rw [wr ((2 * (a % 3) + 2) / 3) (by omega) (by omega), wr _ (by omega) (by omega)]
  by_cases h : a > 0
  · rw [if_pos h]; congr 1; rw [decide_eq_decide]; omega
  · rw [if_neg h]; congr 1; symm; rw [decide_eq_false_iff_not]; omega

theorem third_eq (s a : Int) (_ : 0 ≤ s) (_ : s ≤ 18446744073709551615) (ha0 : 0 ≤ a) (ha : a ≤ 18446744073709551615) :
    quorum_Third.f s a = some (decide (a > 0 ∧ 3 * s ≥ a)) := by
  unfold quorum_Third.f
  rw [Int.tdiv_eq_ediv_of_nonneg ha0, Int.tmod_eq_emod_of_nonneg ha0]
  rw [wr (a / 3) (by omega) (by omega), wr (a % 3 + 2) (by omega) (by omega)]
  rw [Int.tdiv_eq_ediv_of_nonneg (by omega)]
  rw [wr ((a % 3 + 2) / 3) (by omega) (by omega), wr _ (by omega) (by omega)]
  by_cases h : a > 0
  · rw [if_pos h]; congr 1; rw [decide_eq_decide]; omega
  · rw [if_neg h]; congr 1; symm; rw [decide_eq_false_iff_not]; omega

theorem meet_eq (a b n : Int) (ha0 : 0 ≤ a) (ha : a ≤ 18446744073709551615) (hb0 : 0 ≤ b) (hb : b ≤ 18446744073709551615) (hn0 : 0 ≤ n) (hn : n ≤ 18446744073709551615) :
    quorum_Meet.f a b n = some (if a ≤ n ∧ b ≤ n ∧ n - b ≤ a then a - (n - b) else 0) := by
  unfold quorum_Meet.f
  by_cases h1 : a > n
  · rw [if_pos h1, if_neg (by omega)]
  by_cases h2 : b > n
  · rw [if_neg h1, if_pos h2, if_neg (by omega)]
  rw [if_neg h1, if_neg h2, wr (n - b) (by omega) (by omega)]
  by_cases h3 : a < n - b
  · rw [if_pos h3, if_neg (by omega)]
  · rw [if_neg h3, if_pos (by omega), wr _ (by omega) (by omega)]

theorem awake_eq : psephoslaw07_awake.f = some true := by
  unfold psephoslaw07_awake.f
  rw [enough_eq 2 3 (by omega) (by omega) (by omega) (by omega), enough_eq 1 2 (by omega) (by omega) (by omega) (by omega),
    third_eq 1 3 (by omega) (by omega) (by omega) (by omega), meet_eq 2 2 3 (by omega) (by omega) (by omega) (by omega) (by omega) (by omega)]
  rfl

end QuorumNoneLemmas
open QuorumNoneLemmas

theorem QuorumNone : psephoslaw07_QuorumNone.Pure := by
  intro n hn
  obtain ⟨hn0, hn⟩ := u64_bd hn
  unfold psephoslaw07_QuorumNone.f
  rw [awake_eq]; simp only [Option.bind_some, if_true]
  rw [Int.tdiv_eq_ediv_of_nonneg hn0, wr (n / 2) (by omega) (by omega)]
  rw [enough_eq n 0 hn0 hn (by omega) (by omega), third_eq n 0 hn0 hn (by omega) (by omega), enough_eq 0 n (by omega) (by omega) hn0 hn, third_eq n n hn0 hn hn0 hn,
    meet_eq n n n hn0 hn hn0 hn hn0 hn, meet_eq n 0 n hn0 hn (by omega) (by omega) hn0 hn, meet_eq n (n / 2) n hn0 hn (by omega) (by omega) hn0 hn]
  simp only [Option.bind_some]
  rw [decide_eq_false (show ¬ ((0 : Int) > 0 ∧ 3 * n ≥ 2 * 0) by omega), decide_eq_false (show ¬ ((0 : Int) > 0 ∧ 3 * n ≥ 0) by omega), if_neg (by decide), if_neg (by decide),
    if_pos (show n ≤ n ∧ n ≤ n ∧ n - n ≤ n by omega), if_pos (show n ≤ n ∧ 0 ≤ n ∧ n - 0 ≤ n by omega), if_pos (show n ≤ n ∧ n / 2 ≤ n ∧ n - n / 2 ≤ n by omega)]
  rw [if_pos (show n - (n - n) = n by omega), if_pos (show n - (n - 0) = 0 by omega), show n - (n - n / 2) = n / 2 by omega]
  by_cases h : n = 0
  · rw [if_pos h]; simp
  · rw [if_neg h, decide_eq_false (by omega), decide_eq_true (by omega)]; simp

end Go.Proofs.Ytopkmjicahgmaaa.Pure
