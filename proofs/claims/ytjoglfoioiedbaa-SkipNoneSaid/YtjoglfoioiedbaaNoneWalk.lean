/- The walk of SkipNone. -/
import Derived.Test.YtjoglfoioiedbaaSkip5
namespace Go.Proofs.Ytjoglfoioiedbaa
open Go.RowKit Go.Maps SkipPure

theorem atF_one {r : Int} (h : Int) : atF (hgtOne 5) (fun x => x) r h = if r = 5 ∧ h = 0 then (5, 0, true) else (0, 0, false) := by
  unfold atF hgtOne
  by_cases e : r = 5
  · subst e
    simp only [if_true]
    by_cases e2 : h = 0
    · subst e2; simp [SkipPure.anc, pop_zero]
    · rw [if_neg (by omega), if_neg (by simp [e2])]
  · simp only [e, if_false, false_and]

set_option maxHeartbeats 2000000 in
theorem none_walk (r h : Int) (w : World) (hr : inU r) :
    Calls Try.prog 4 #[.int .u64 r, .int .i64 h] w fun e w' => e = .returned (.bool true) ∧ w.grownBy w' none := by
  by_cases e5 : r = 5
  · by_cases e0 : h = 0
    · subst e5 e0
      go_enter Try.func4, Try.ntmps4
      go_wp2_with fail
      refine (awake_calls w).mono ?_
      rintro e w0 ⟨rfl, hg0⟩
      have HG0 := Lib.hid hg0
      clear hg0
      go_wp2_with fail
      refine (of_H HG0.out (small_inU (by omega) (by omega))).mono ?_
      rintro e w1 ⟨p, b, rfl, hs, _⟩
      have HS := Lib.hid hs
      clear hs
      go_wp2_with fail
      refine (at_H HS.out hr 0).mono ?_
      rintro e w2 ⟨rfl, hs, _⟩
      have HS2 := Lib.hid hs
      clear hs
      rw [atF_one, if_pos ⟨rfl, rfl⟩]
      go_wp2_with fail
      refine (height_H HS2.out hr).mono ?_
      rintro e w3 ⟨rfl, hs, _⟩
      have HS3 := Lib.hid hs
      clear hs
      rw [show hgtOne 5 5 = some 0 from rfl]
      simp only [Option.getD_some, Option.isSome_some]
      go_wp2
      go_ret
      exact ⟨by simp, HS3.out.grown⟩
    · have g0 : (h == 0) = false := beq_eq_false_iff_ne.2 e0
      subst e5
      go_enter Try.func4, Try.ntmps4
      go_wp2_with fail
      refine (awake_calls w).mono ?_
      rintro e w0 ⟨rfl, hg0⟩
      have HG0 := Lib.hid hg0
      clear hg0
      go_wp2_with fail
      refine (of_H HG0.out (small_inU (by omega) (by omega))).mono ?_
      rintro e w1 ⟨p, b, rfl, hs, _⟩
      have HS := Lib.hid hs
      clear hs
      go_wp2_with fail
      refine (at_H HS.out hr h).mono ?_
      rintro e w2 ⟨rfl, hs, _⟩
      have HS2 := Lib.hid hs
      clear hs
      rw [atF_one, if_neg (by simp [e0])]
      go_wp2_with fail
      refine (height_H HS2.out hr).mono ?_
      rintro e w3 ⟨rfl, hs, _⟩
      have HS3 := Lib.hid hs
      clear hs
      rw [show hgtOne 5 5 = some 0 from rfl]
      simp only [Option.getD_some, Option.isSome_some]
      go_wp2_with fail
      refine (len_H HS3.out).mono ?_
      rintro e w4 ⟨rfl, rfl⟩
      go_wp2
      go_ret
      exact ⟨by simp, HS3.out.grown⟩
  · have g0 : (r == 5) = false := beq_eq_false_iff_ne.2 e5
    go_enter Try.func4, Try.ntmps4
    go_wp2_with fail
    refine (awake_calls w).mono ?_
    rintro e w0 ⟨rfl, hg0⟩
    have HG0 := Lib.hid hg0
    clear hg0
    go_wp2_with fail
    refine (of_H HG0.out (small_inU (by omega) (by omega))).mono ?_
    rintro e w1 ⟨p, b, rfl, hs, _⟩
    have HS := Lib.hid hs
    clear hs
    go_wp2_with fail
    refine (at_H HS.out hr h).mono ?_
    rintro e w2 ⟨rfl, hs, _⟩
    have HS2 := Lib.hid hs
    clear hs
    rw [atF_one, if_neg (by simp [e5])]
    go_wp2_with fail
    refine (height_H HS2.out hr).mono ?_
    rintro e w3 ⟨rfl, hs, _⟩
    have HS3 := Lib.hid hs
    clear hs
    rw [show hgtOne 5 r = none from by simp [hgtOne, e5]]
    simp only [Option.getD_none, Option.isSome_none]
    go_wp2_with fail
    refine (len_H HS3.out).mono ?_
    rintro e w4 ⟨rfl, rfl⟩
    go_wp2
    go_ret
    exact ⟨by simp, HS3.out.grown⟩

theorem u64_inU {a : Int} (h : (Lit.int .u64 a).wf = true) : inU a := by
  simpa [inU, Lit.wf, IntKind.min, IntKind.max, IntKind.signed, IntKind.bits] using h

theorem none_row (r h : Int) (w : World) (hr : (Lit.int .u64 r).wf = true) (_ : (Lit.int .i64 h).wf = true) :
    Calls Try.prog 4 #[.int .u64 r, .int .i64 h] w fun e w' => e = .returned (.bool true) ∧ Below w.heap.size w w' :=
  (none_walk r h w (u64_inU hr)).mono fun _ _ ⟨h1, h2⟩ => ⟨h1, grown_lt h2⟩
end Go.Proofs.Ytjoglfoioiedbaa
