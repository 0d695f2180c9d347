/- The plain law of QuorumThird: two parts of all that are enough share a third of it; for all arguments of their kinds. -/
import Derived.Test.YtopkmjicahgmaaaPQuorumThirdx1
namespace Go.Proofs.Ytopkmjicahgmaaa.Pure
open Go.RowKit Go.Proofs.Ytopkmjicahgmaaa.PQuorumThird Go.Proofs.YtopkmjicahgmaaaW.PrintWords Go.Proofs.YtopkmjicahgmaaaW.PrintLast
namespace QuorumThirdLemmas

theorem u64_bd {a : Int} (h : (Lit.int .u64 a).wf = true) : 0 ≤ a ∧ a ≤ 18446744073709551615 := by
  simpa [Lit.wf, IntKind.min, IntKind.max, IntKind.signed, IntKind.bits] using h

theorem u32_bd {a : Int} (h : (Lit.int .u32 a).wf = true) : 0 ≤ a ∧ a ≤ 4294967295 := by
  simpa [Lit.wf, IntKind.min, IntKind.max, IntKind.signed, IntKind.bits] using h

theorem wr (a : Int) (h0 : 0 ≤ a) (h1 : a ≤ 18446744073709551615) : IntKind.u64.wrap a = a := by
  simp only [IntKind.wrap, IntKind.bits, IntKind.signed]
  simp only [Bool.false_and, Bool.false_eq_true, if_false]
  omega

theorem enough_eq (s a : Int) (_ : 0 ≤ s) (_ : s ≤ 18446744073709551615) (ha0 : 0 ≤ a) (ha : a ≤ 18446744073709551615) :
    quorum_Enough.f s a = some (decide (a > 0 ∧ 3 * s ≥ 2 * a)) := by
  unfold quorum_Enough.f
  rw [Int.tdiv_eq_ediv_of_nonneg ha0, Int.tmod_eq_emod_of_nonneg ha0]
  rw [wr (a / 3) (by omega) (by omega), wr (2 * (a / 3)) (by omega) (by omega), wr (2 * (a % 3)) (by omega) (by omega), wr (2 * (a % 3) + 2) (by omega) (by omega)]
  rw [Int.tdiv_eq_ediv_of_nonneg (by omega)]
  rw [wr ((2 * (a % 3) + 2) / 3) (by omega) (by omega), wr _ (by omega) (by omega)]
  by_cases h : a > 0
  · rw [if_pos h]; congr 1; rw [decide_eq_decide]; omega
  · rw [if_neg h]; congr 1; symm; rw [decide_eq_false_iff_not]; omega

theorem third_eq (s a : Int) (_ : 0 ≤ s) (_ : s ≤ 18446744073709551615) (ha0 : 0 ≤ a) (ha : a ≤ 18446744073709551615) :
    quorum_Third.f s a = some (decide (a > 0 ∧ 3 * s ≥ a)) := by
  unfold quorum_Third.f
  rw [Int.tdiv_eq_ediv_of_nonneg ha0, Int.tmod_eq_emod_of_nonneg ha0]
  rw [wr (a / 3) (by omega) (by omega), wr (a % 3 + 2) (by omega) (by omega)]
  rw [Int.tdiv_eq_ediv_of_nonneg (by omega)]
  rw [wr ((a % 3 + 2) / 3) (by omega) (by omega), wr _ (by omega) (by omega)]
  by_cases h : a > 0
  · rw [if_pos h]; congr 1; rw [decide_eq_decide]; omega
  · rw [if_neg h]; congr 1; symm; rw [decide_eq_false_iff_not]; omega

theorem meet_eq (a b n : Int) (ha0 : 0 ≤ a) (ha : a ≤ 18446744073709551615) (hb0 : 0 ≤ b) (hb : b ≤ 18446744073709551615) (hn0 : 0 ≤ n) (hn : n ≤ 18446744073709551615) :
    quorum_Meet.f a b n = some (if a ≤ n ∧ b ≤ n ∧ n - b ≤ a then a - (n - b) else 0) := by
  unfold quorum_Meet.f
  by_cases h1 : a > n
  · rw [if_pos h1, if_neg (by omega)]
  by_cases h2 : b > n
  · rw [if_neg h1, if_pos h2, if_neg (by omega)]
  rw [if_neg h1, if_neg h2, wr (n - b) (by omega) (by omega)]
  by_cases h3 : a < n - b
  · rw [if_pos h3, if_neg (by omega)]
  · rw [if_neg h3, if_pos (by omega), wr _ (by omega) (by omega)]

theorem awake_eq : psephoslaw07_awake.f = some true := by
  unfold psephoslaw07_awake.f
  rw [enough_eq 2 3 (by omega) (by omega) (by omega) (by omega), enough_eq 1 2 (by omega) (by omega) (by omega) (by omega),
    third_eq 1 3 (by omega) (by omega) (by omega) (by omega), meet_eq 2 2 3 (by omega) (by omega) (by omega) (by omega) (by omega) (by omega)]
  rfl

theorem j1_false (k : Nat) (n x y : Int) (hx : 0 < x) (hxn : x ≤ n) (hy : 0 < y) (hyn : y ≤ n) (hn : n ≤ 18446744073709551615) (h1 : 3 * x ≥ 2 * n) (h2 : 3 * y ≥ 2 * n) :
    psephoslaw07_QuorumThird.j1 (k + 1) n x y false = some true := by
  simp only [psephoslaw07_QuorumThird.j1]
  rw [if_neg (by decide), meet_eq x y n (by omega) (by omega) (by omega) (by omega) (by omega) (by omega)]
  simp only [Option.bind_some]
  rw [if_pos (by omega), third_eq _ _ (by omega) (by omega) (by omega) (by omega)]
  simp only [Option.bind_some]
  congr 1; rw [decide_eq_true_iff]; omega

theorem j1_true (k : Nat) (n x y : Int) (hx : 0 ≤ x) (hx' : x ≤ 18446744073709551615) :
    psephoslaw07_QuorumThird.j1 (k + 1) n x y true = some true := by
  simp only [psephoslaw07_QuorumThird.j1]
  rw [if_pos trivial, enough_eq x 0 (by omega) (by omega) (by omega) (by omega)]
  simp

end QuorumThirdLemmas
open QuorumThirdLemmas

theorem QuorumThird : psephoslaw07_QuorumThird.Pure := by
  intro a b n ha hb hn
  obtain ⟨ha0, ha⟩ := u64_bd ha
  obtain ⟨hb0, hb⟩ := u64_bd hb
  obtain ⟨hn0, hn⟩ := u64_bd hn
  refine ⟨2, ?_⟩
  unfold psephoslaw07_QuorumThird.f
  rw [awake_eq]; simp only [Option.bind_some, if_true]
  by_cases h : n > 0
  · rw [if_pos h, if_neg (by omega), Int.tmod_eq_emod_of_nonneg ha0, Int.tmod_eq_emod_of_nonneg hb0]
    have p1 := Int.emod_nonneg a (show n ≠ 0 by omega)
    have p2 := Int.emod_lt_of_pos a h
    have q1 := Int.emod_nonneg b (show n ≠ 0 by omega)
    have q2 := Int.emod_lt_of_pos b h
    generalize a % n = x at *
    generalize b % n = y at *
    simp only [psephoslaw07_QuorumThird.j0]
    rw [if_neg (by omega), wr (n - x) (by omega) (by omega), wr (n - y) (by omega) (by omega), enough_eq (n - x) n (by omega) (by omega) (by omega) (by omega)]
    simp only [Option.bind_some]
    by_cases h1 : n > 0 ∧ 3 * (n - x) ≥ 2 * n
    · rw [decide_eq_true h1, if_pos rfl, enough_eq (n - y) n (by omega) (by omega) (by omega) (by omega)]
      simp only [Option.bind_some]
      by_cases h2 : n > 0 ∧ 3 * (n - y) ≥ 2 * n
      · rw [decide_eq_true h2]
        exact j1_false 0 n (n - x) (n - y) (by omega) (by omega) (by omega) (by omega) hn h1.2 h2.2
      · rw [decide_eq_false h2]
        exact j1_true 0 n (n - x) (n - y) (by omega) (by omega)
    · rw [decide_eq_false h1, if_neg (by decide)]
      exact j1_true 0 n (n - x) (n - y) (by omega) (by omega)
  · obtain rfl : n = 0 := by omega
    rw [if_neg h]
    simp only [psephoslaw07_QuorumThird.j0]
    rw [if_pos trivial]
    have w1 : ∀ z : Int, 0 ≤ IntKind.u64.wrap z ∧ IntKind.u64.wrap z ≤ 18446744073709551615 := by
      intro z
      simp only [IntKind.wrap, IntKind.bits, IntKind.signed]
      simp only [Bool.false_and, Bool.false_eq_true, if_false]
      omega
    exact j1_true 0 0 _ _ (w1 _).1 (w1 _).2

end Go.Proofs.Ytopkmjicahgmaaa.Pure
