-- PRINTED BY print.sh 35421559b90ae4d0a3588c463048766b98c2df88dd9212a6774a882060cdf62d: not written by this session
import Derived.Test.YtopkmjicahgmaaaPQuorumExactx0
namespace Go.Proofs.Ytopkmjicahgmaaa.PQuorumExact
open Go.RowKit Go.Proofs.YtopkmjicahgmaaaW.PrintWords Go.Proofs.YtopkmjicahgmaaaW.PrintLast Go.Proofs.YtopkmjicahgmaaaW.PrintMore
attribute [local go_sem] max2_int min2_int max_two min_two max_three min_three max_four min_four   -- for this text's walks alone
set_option linter.unusedVariables false
set_option linter.unusedSimpArgs false

/-! ### quorum_Enough: function 11 -/
def quorum_Enough.f (a0 : Int) (a1 : Int) : Option (Bool) := if a1 > 0 then (some (decide (a0 ≥ (IntKind.u64.wrap ((IntKind.u64.wrap (2 * (IntKind.u64.wrap (Int.tdiv a1 3)))) + (IntKind.u64.wrap (Int.tdiv (IntKind.u64.wrap ((IntKind.u64.wrap (2 * (Int.tmod a1 3))) + 2)) 3))))))) else (some false)
set_option maxHeartbeats 8000000 in
set_option maxRecDepth 100000 in
theorem quorum_Enough.calls (a0 : Int) (a1 : Int) (r : Bool) (w : World) (h : quorum_Enough.f a0 a1 = some r) :
    Calls Try.prog 11 #[.int .u64 a0, .int .u64 a1] w fun e w' => e = .returned (.bool r) ∧ Drawn0 w w' := by
  have H : (if a1 > 0 then (some (decide (a0 ≥ (IntKind.u64.wrap ((IntKind.u64.wrap (2 * (IntKind.u64.wrap (Int.tdiv a1 3)))) + (IntKind.u64.wrap (Int.tdiv (IntKind.u64.wrap ((IntKind.u64.wrap (2 * (Int.tmod a1 3))) + 2)) 3))))))) else (some false)) = some r := h
  clear h
  by_cases c3 : a1 > 0
  · rw [if_pos c3] at H
    have c3b0 : decide (0 < a1) = true := decide_eq_true c3
    clear c3
    obtain rfl := Option.some.inj H
    go_enter Try.func11, Try.ntmps11
    go_wp2
    go_ret
    exact ⟨by first | rfl | (simp; done) | (simp [*]; done), by repeat (first | exact Drawn0.refl _ | apply Drawn0.step)⟩
  · rw [if_neg c3] at H
    have c3b0 : decide (0 < a1) = false := decide_eq_false c3
    clear c3
    obtain rfl := Option.some.inj H
    go_enter Try.func11, Try.ntmps11
    go_wp2
    go_ret
    exact ⟨by first | rfl | (simp; done) | (simp [*]; done), by repeat (first | exact Drawn0.refl _ | apply Drawn0.step)⟩

/-! ### quorum_Third: function 13 -/
def quorum_Third.f (a0 : Int) (a1 : Int) : Option (Bool) := if a1 > 0 then (some (decide (a0 ≥ (IntKind.u64.wrap ((IntKind.u64.wrap (Int.tdiv a1 3)) + (IntKind.u64.wrap (Int.tdiv (IntKind.u64.wrap ((Int.tmod a1 3) + 2)) 3))))))) else (some false)
set_option maxHeartbeats 8000000 in
set_option maxRecDepth 100000 in
theorem quorum_Third.calls (a0 : Int) (a1 : Int) (r : Bool) (w : World) (h : quorum_Third.f a0 a1 = some r) :
    Calls Try.prog 13 #[.int .u64 a0, .int .u64 a1] w fun e w' => e = .returned (.bool r) ∧ Drawn0 w w' := by
  have H : (if a1 > 0 then (some (decide (a0 ≥ (IntKind.u64.wrap ((IntKind.u64.wrap (Int.tdiv a1 3)) + (IntKind.u64.wrap (Int.tdiv (IntKind.u64.wrap ((Int.tmod a1 3) + 2)) 3))))))) else (some false)) = some r := h
  clear h
  by_cases c3 : a1 > 0
  · rw [if_pos c3] at H
    have c3b0 : decide (0 < a1) = true := decide_eq_true c3
    clear c3
    obtain rfl := Option.some.inj H
    go_enter Try.func13, Try.ntmps13
    go_wp2
    go_ret
    exact ⟨by first | rfl | (simp; done) | (simp [*]; done), by repeat (first | exact Drawn0.refl _ | apply Drawn0.step)⟩
  · rw [if_neg c3] at H
    have c3b0 : decide (0 < a1) = false := decide_eq_false c3
    clear c3
    obtain rfl := Option.some.inj H
    go_enter Try.func13, Try.ntmps13
    go_wp2
    go_ret
    exact ⟨by first | rfl | (simp; done) | (simp [*]; done), by repeat (first | exact Drawn0.refl _ | apply Drawn0.step)⟩

/-! ### quorum_Meet: function 14 -/
def quorum_Meet.f (a0 : Int) (a1 : Int) (a2 : Int) : Option (Int) := if a0 > a2 then (some 0) else (if a1 > a2 then (some 0) else (if a0 < (IntKind.u64.wrap (a2 - a1)) then (some 0) else (some (IntKind.u64.wrap (a0 - (IntKind.u64.wrap (a2 - a1)))))))
set_option maxHeartbeats 8000000 in
set_option maxRecDepth 100000 in
theorem quorum_Meet.calls (a0 : Int) (a1 : Int) (a2 : Int) (r : Int) (w : World) (h : quorum_Meet.f a0 a1 a2 = some r) :
    Calls Try.prog 14 #[.int .u64 a0, .int .u64 a1, .int .u64 a2] w fun e w' => e = .returned (.int .u64 r) ∧ Drawn0 w w' := by
  have H : (if a0 > a2 then (some 0) else (if a1 > a2 then (some 0) else (if a0 < (IntKind.u64.wrap (a2 - a1)) then (some 0) else (some (IntKind.u64.wrap (a0 - (IntKind.u64.wrap (a2 - a1)))))))) = some r := h
  clear h
  by_cases c4 : a0 > a2
  · rw [if_pos c4] at H
    have c4b0 : decide (a2 < a0) = true := decide_eq_true c4
    clear c4
    obtain rfl := Option.some.inj H
    go_enter Try.func14, Try.ntmps14
    go_wp2
    go_ret
    exact ⟨by first | rfl | (simp; done) | (simp [*]; done), by repeat (first | exact Drawn0.refl _ | apply Drawn0.step)⟩
  · rw [if_neg c4] at H
    have c4b0 : decide (a2 < a0) = false := decide_eq_false c4
    clear c4
    by_cases c5 : a1 > a2
    · rw [if_pos c5] at H
      have c5b0 : decide (a2 < a1) = true := decide_eq_true c5
      clear c5
      obtain rfl := Option.some.inj H
      go_enter Try.func14, Try.ntmps14
      go_wp2
      go_ret
      exact ⟨by first | rfl | (simp; done) | (simp [*]; done), by repeat (first | exact Drawn0.refl _ | apply Drawn0.step)⟩
    · rw [if_neg c5] at H
      have c5b0 : decide (a2 < a1) = false := decide_eq_false c5
      clear c5
      by_cases c6 : a0 < (IntKind.u64.wrap (a2 - a1))
      · rw [if_pos c6] at H
        have c6b0 : decide (a0 < (IntKind.u64.wrap (a2 - a1))) = true := decide_eq_true c6
        clear c6
        obtain rfl := Option.some.inj H
        go_enter Try.func14, Try.ntmps14
        go_wp2
        go_ret
        exact ⟨by first | rfl | (simp; done) | (simp [*]; done), by repeat (first | exact Drawn0.refl _ | apply Drawn0.step)⟩
      · rw [if_neg c6] at H
        have c6b0 : decide (a0 < (IntKind.u64.wrap (a2 - a1))) = false := decide_eq_false c6
        clear c6
        obtain rfl := Option.some.inj H
        go_enter Try.func14, Try.ntmps14
        go_wp2
        go_ret
        exact ⟨by first | rfl | (simp; done) | (simp [*]; done), by repeat (first | exact Drawn0.refl _ | apply Drawn0.step)⟩

/-! ### psephoslaw07_awake: function 10 -/
def psephoslaw07_awake.f  : Option (Bool) := (quorum_Enough.f 2 3).bind fun t101 => (if t101 = true then ((quorum_Enough.f 1 2).bind fun t102 => (if t102 = true then (some false) else ((quorum_Third.f 1 3).bind fun t103 => (if t103 = true then ((quorum_Meet.f 2 2 3).bind fun t104 => (some (t104 == 1))) else (some false))))) else (some false))
set_option maxHeartbeats 8000000 in
set_option maxRecDepth 100000 in
theorem psephoslaw07_awake.calls  (r : Bool) (w : World) (h : psephoslaw07_awake.f  = some r) :
    Calls Try.prog 10 #[] w fun e w' => e = .returned (.bool r) ∧ Drawn0 w w' := by
  have H : ((quorum_Enough.f 2 3).bind fun t101 => (if t101 = true then ((quorum_Enough.f 1 2).bind fun t102 => (if t102 = true then (some false) else ((quorum_Third.f 1 3).bind fun t103 => (if t103 = true then ((quorum_Meet.f 2 2 3).bind fun t104 => (some (t104 == 1))) else (some false))))) else (some false))) = some r := h
  clear h
  replace H := Option.bind_eq_some_iff.mp H
  obtain ⟨t101, A10, H⟩ := H
  replace H : (if t101 = true then ((quorum_Enough.f 1 2).bind fun t102 => (if t102 = true then (some false) else ((quorum_Third.f 1 3).bind fun t103 => (if t103 = true then ((quorum_Meet.f 2 2 3).bind fun t104 => (some (t104 == 1))) else (some false))))) else (some false)) = some r := H
  have A1 := Aside0.mk A10
  clear A10
  by_cases c2 : t101 = true
  · subst c2
    have H1 : ((quorum_Enough.f 1 2).bind fun t102 => (if t102 = true then (some false) else ((quorum_Third.f 1 3).bind fun t103 => (if t103 = true then ((quorum_Meet.f 2 2 3).bind fun t104 => (some (t104 == 1))) else (some false))))) = some r := by rw [if_pos rfl] at H; exact H
    clear H
    have H := H1
    clear H1
    replace H := Option.bind_eq_some_iff.mp H
    obtain ⟨t102, A30, H⟩ := H
    replace H : (if t102 = true then (some false) else ((quorum_Third.f 1 3).bind fun t103 => (if t103 = true then ((quorum_Meet.f 2 2 3).bind fun t104 => (some (t104 == 1))) else (some false)))) = some r := H
    have A3 := Aside0.mk A30
    clear A30
    by_cases c4 : t102 = true
    · subst c4
      have H1 : (some false) = some r := by rw [if_pos rfl] at H; exact H
      clear H
      have H := H1
      clear H1
      obtain rfl := Option.some.inj H
      go_enter Try.func10, Try.ntmps10
      go_wp2_with (first | ((with_reducible refine gate_callee (f := 11) rfl ?_); refine goesL_ (some 1) rfl rfl Try.func11 (by kernel_rfl) rfl #[.int .u64 2, .int .u64 3] rfl (by (try simp only [List.map_toArray, List.map_cons, List.map_nil]); first | done | rfl | (simp only [List.length_drop, List.length_take]; rfl)) ?_; (with_reducible refine (quorum_Enough.calls 2 3 true _ A1.out).mono ?_); rintro e w' ⟨rfl, ⟨nd, rfl⟩⟩; refine ⟨_, rfl, ?_⟩) | (go_at_call 11; (with_reducible refine (quorum_Enough.calls 1 2 true _ A3.out).mono ?_); rintro e w' ⟨rfl, ⟨nd, rfl⟩⟩))
      go_ret
      exact ⟨by first | rfl | (simp; done) | (simp [*]; done), by repeat (first | exact Drawn0.refl _ | apply Drawn0.step)⟩
    · replace c4 := Bool.eq_false_iff.mpr c4
      subst c4
      have H1 : ((quorum_Third.f 1 3).bind fun t103 => (if t103 = true then ((quorum_Meet.f 2 2 3).bind fun t104 => (some (t104 == 1))) else (some false))) = some r := by rw [if_neg (show ¬ (false = true) by decide)] at H; exact H
      clear H
      have H := H1
      clear H1
      replace H := Option.bind_eq_some_iff.mp H
      obtain ⟨t103, A50, H⟩ := H
      replace H : (if t103 = true then ((quorum_Meet.f 2 2 3).bind fun t104 => (some (t104 == 1))) else (some false)) = some r := H
      have A5 := Aside0.mk A50
      clear A50
      by_cases c6 : t103 = true
      · subst c6
        have H1 : ((quorum_Meet.f 2 2 3).bind fun t104 => (some (t104 == 1))) = some r := by rw [if_pos rfl] at H; exact H
        clear H
        have H := H1
        clear H1
        replace H := Option.bind_eq_some_iff.mp H
        obtain ⟨t104, A70, H⟩ := H
        replace H : (some (t104 == 1)) = some r := H
        have A7 := Aside0.mk A70
        clear A70
        obtain rfl := Option.some.inj H
        go_enter Try.func10, Try.ntmps10
        go_wp2_with (first | ((with_reducible refine gate_callee (f := 11) rfl ?_); refine goesL_ (some 1) rfl rfl Try.func11 (by kernel_rfl) rfl #[.int .u64 2, .int .u64 3] rfl (by (try simp only [List.map_toArray, List.map_cons, List.map_nil]); first | done | rfl | (simp only [List.length_drop, List.length_take]; rfl)) ?_; (with_reducible refine (quorum_Enough.calls 2 3 true _ A1.out).mono ?_); rintro e w' ⟨rfl, ⟨nd, rfl⟩⟩; refine ⟨_, rfl, ?_⟩) | (go_at_call 11; (with_reducible refine (quorum_Enough.calls 1 2 false _ A3.out).mono ?_); rintro e w' ⟨rfl, ⟨nd, rfl⟩⟩) | (go_at_call 13; (with_reducible refine (quorum_Third.calls 1 3 true _ A5.out).mono ?_); rintro e w' ⟨rfl, ⟨nd, rfl⟩⟩) | (go_at_call 14; (with_reducible refine (quorum_Meet.calls 2 2 3 t104 _ A7.out).mono ?_); rintro e w' ⟨rfl, ⟨nd, rfl⟩⟩))
        go_ret
        exact ⟨by first | rfl | (simp; done) | (simp [*]; done), by repeat (first | exact Drawn0.refl _ | apply Drawn0.step)⟩
      · replace c6 := Bool.eq_false_iff.mpr c6
        subst c6
        have H1 : (some false) = some r := by rw [if_neg (show ¬ (false = true) by decide)] at H; exact H
        clear H
        have H := H1
        clear H1
        obtain rfl := Option.some.inj H
        go_enter Try.func10, Try.ntmps10
        go_wp2_with (first | ((with_reducible refine gate_callee (f := 11) rfl ?_); refine goesL_ (some 1) rfl rfl Try.func11 (by kernel_rfl) rfl #[.int .u64 2, .int .u64 3] rfl (by (try simp only [List.map_toArray, List.map_cons, List.map_nil]); first | done | rfl | (simp only [List.length_drop, List.length_take]; rfl)) ?_; (with_reducible refine (quorum_Enough.calls 2 3 true _ A1.out).mono ?_); rintro e w' ⟨rfl, ⟨nd, rfl⟩⟩; refine ⟨_, rfl, ?_⟩) | (go_at_call 11; (with_reducible refine (quorum_Enough.calls 1 2 false _ A3.out).mono ?_); rintro e w' ⟨rfl, ⟨nd, rfl⟩⟩) | (go_at_call 13; (with_reducible refine (quorum_Third.calls 1 3 false _ A5.out).mono ?_); rintro e w' ⟨rfl, ⟨nd, rfl⟩⟩))
        go_ret
        exact ⟨by first | rfl | (simp; done) | (simp [*]; done), by repeat (first | exact Drawn0.refl _ | apply Drawn0.step)⟩
  · replace c2 := Bool.eq_false_iff.mpr c2
    subst c2
    have H1 : (some false) = some r := by rw [if_neg (show ¬ (false = true) by decide)] at H; exact H
    clear H
    have H := H1
    clear H1
    obtain rfl := Option.some.inj H
    go_enter Try.func10, Try.ntmps10
    go_wp2_with (first | ((with_reducible refine gate_callee (f := 11) rfl ?_); refine goesL_ (some 1) rfl rfl Try.func11 (by kernel_rfl) rfl #[.int .u64 2, .int .u64 3] rfl (by (try simp only [List.map_toArray, List.map_cons, List.map_nil]); first | done | rfl | (simp only [List.length_drop, List.length_take]; rfl)) ?_; (with_reducible refine (quorum_Enough.calls 2 3 false _ A1.out).mono ?_); rintro e w' ⟨rfl, ⟨nd, rfl⟩⟩; refine ⟨_, rfl, ?_⟩))
    go_ret
    exact ⟨by first | rfl | (simp; done) | (simp [*]; done), by repeat (first | exact Drawn0.refl _ | apply Drawn0.step)⟩

/-! ### psephoslaw07_QuorumExact: function 7 -/
def psephoslaw07_QuorumExact.f (a0 : Int) (a1 : Int) : Option (Bool) := (psephoslaw07_awake.f).bind fun t105 => (if t105 = true then ((quorum_Enough.f (IntKind.u64.wrap (Int.tmod a1 1200)) (IntKind.u64.wrap (Int.tmod a0 1000))).bind fun t106 => (if (IntKind.u64.wrap (Int.tmod a0 1000)) > 0 then (if (t106 == (decide ((IntKind.u64.wrap (3 * (IntKind.u64.wrap (Int.tmod a1 1200)))) ≥ (IntKind.u64.wrap (2 * (IntKind.u64.wrap (Int.tmod a0 1000))))))) = true then ((quorum_Third.f (IntKind.u64.wrap (Int.tmod a1 1200)) (IntKind.u64.wrap (Int.tmod a0 1000))).bind fun t107 => (some (t107 == (decide ((IntKind.u64.wrap (3 * (IntKind.u64.wrap (Int.tmod a1 1200)))) ≥ (IntKind.u64.wrap (Int.tmod a0 1000))))))) else (some false)) else (if (t106 == false) = true then ((quorum_Third.f (IntKind.u64.wrap (Int.tmod a1 1200)) (IntKind.u64.wrap (Int.tmod a0 1000))).bind fun t108 => (some (t108 == false))) else (some false)))) else (some false))
set_option maxHeartbeats 8000000 in
set_option maxRecDepth 100000 in
theorem psephoslaw07_QuorumExact.calls (a0 : Int) (a1 : Int) (r : Bool) (w : World) (h : psephoslaw07_QuorumExact.f a0 a1 = some r) :
    Calls Try.prog 7 #[.int .u32 a0, .int .u32 a1] w fun e w' => e = .returned (.bool r) ∧ Drawn0 w w' := by
  have H : ((psephoslaw07_awake.f).bind fun t105 => (if t105 = true then ((quorum_Enough.f (IntKind.u64.wrap (Int.tmod a1 1200)) (IntKind.u64.wrap (Int.tmod a0 1000))).bind fun t106 => (if (IntKind.u64.wrap (Int.tmod a0 1000)) > 0 then (if (t106 == (decide ((IntKind.u64.wrap (3 * (IntKind.u64.wrap (Int.tmod a1 1200)))) ≥ (IntKind.u64.wrap (2 * (IntKind.u64.wrap (Int.tmod a0 1000))))))) = true then ((quorum_Third.f (IntKind.u64.wrap (Int.tmod a1 1200)) (IntKind.u64.wrap (Int.tmod a0 1000))).bind fun t107 => (some (t107 == (decide ((IntKind.u64.wrap (3 * (IntKind.u64.wrap (Int.tmod a1 1200)))) ≥ (IntKind.u64.wrap (Int.tmod a0 1000))))))) else (some false)) else (if (t106 == false) = true then ((quorum_Third.f (IntKind.u64.wrap (Int.tmod a1 1200)) (IntKind.u64.wrap (Int.tmod a0 1000))).bind fun t108 => (some (t108 == false))) else (some false)))) else (some false))) = some r := h
  clear h
  replace H := Option.bind_eq_some_iff.mp H
  obtain ⟨t105, A30, H⟩ := H
  replace H : (if t105 = true then ((quorum_Enough.f (IntKind.u64.wrap (Int.tmod a1 1200)) (IntKind.u64.wrap (Int.tmod a0 1000))).bind fun t106 => (if (IntKind.u64.wrap (Int.tmod a0 1000)) > 0 then (if (t106 == (decide ((IntKind.u64.wrap (3 * (IntKind.u64.wrap (Int.tmod a1 1200)))) ≥ (IntKind.u64.wrap (2 * (IntKind.u64.wrap (Int.tmod a0 1000))))))) = true then ((quorum_Third.f (IntKind.u64.wrap (Int.tmod a1 1200)) (IntKind.u64.wrap (Int.tmod a0 1000))).bind fun t107 => (some (t107 == (decide ((IntKind.u64.wrap (3 * (IntKind.u64.wrap (Int.tmod a1 1200)))) ≥ (IntKind.u64.wrap (Int.tmod a0 1000))))))) else (some false)) else (if (t106 == false) = true then ((quorum_Third.f (IntKind.u64.wrap (Int.tmod a1 1200)) (IntKind.u64.wrap (Int.tmod a0 1000))).bind fun t108 => (some (t108 == false))) else (some false)))) else (some false)) = some r := H
  have A3 := Aside0.mk A30
  clear A30
  by_cases c4 : t105 = true
  · subst c4
    have H1 : ((quorum_Enough.f (IntKind.u64.wrap (Int.tmod a1 1200)) (IntKind.u64.wrap (Int.tmod a0 1000))).bind fun t106 => (if (IntKind.u64.wrap (Int.tmod a0 1000)) > 0 then (if (t106 == (decide ((IntKind.u64.wrap (3 * (IntKind.u64.wrap (Int.tmod a1 1200)))) ≥ (IntKind.u64.wrap (2 * (IntKind.u64.wrap (Int.tmod a0 1000))))))) = true then ((quorum_Third.f (IntKind.u64.wrap (Int.tmod a1 1200)) (IntKind.u64.wrap (Int.tmod a0 1000))).bind fun t107 => (some (t107 == (decide ((IntKind.u64.wrap (3 * (IntKind.u64.wrap (Int.tmod a1 1200)))) ≥ (IntKind.u64.wrap (Int.tmod a0 1000))))))) else (some false)) else (if (t106 == false) = true then ((quorum_Third.f (IntKind.u64.wrap (Int.tmod a1 1200)) (IntKind.u64.wrap (Int.tmod a0 1000))).bind fun t108 => (some (t108 == false))) else (some false)))) = some r := by rw [if_pos rfl] at H; exact H
    clear H
    have H := H1
    clear H1
    replace H := Option.bind_eq_some_iff.mp H
    obtain ⟨t106, A50, H⟩ := H
    replace H : (if (IntKind.u64.wrap (Int.tmod a0 1000)) > 0 then (if (t106 == (decide ((IntKind.u64.wrap (3 * (IntKind.u64.wrap (Int.tmod a1 1200)))) ≥ (IntKind.u64.wrap (2 * (IntKind.u64.wrap (Int.tmod a0 1000))))))) = true then ((quorum_Third.f (IntKind.u64.wrap (Int.tmod a1 1200)) (IntKind.u64.wrap (Int.tmod a0 1000))).bind fun t107 => (some (t107 == (decide ((IntKind.u64.wrap (3 * (IntKind.u64.wrap (Int.tmod a1 1200)))) ≥ (IntKind.u64.wrap (Int.tmod a0 1000))))))) else (some false)) else (if (t106 == false) = true then ((quorum_Third.f (IntKind.u64.wrap (Int.tmod a1 1200)) (IntKind.u64.wrap (Int.tmod a0 1000))).bind fun t108 => (some (t108 == false))) else (some false))) = some r := H
    have A5 := Aside0.mk A50
    clear A50
    by_cases c6 : (IntKind.u64.wrap (Int.tmod a0 1000)) > 0
    · rw [if_pos c6] at H
      have c6b0 : decide (0 < (IntKind.u64.wrap (Int.tmod a0 1000))) = true := decide_eq_true c6
      clear c6
      by_cases c7 : (t106 == (decide ((IntKind.u64.wrap (3 * (IntKind.u64.wrap (Int.tmod a1 1200)))) ≥ (IntKind.u64.wrap (2 * (IntKind.u64.wrap (Int.tmod a0 1000))))))) = true
      · rw [if_pos c7] at H
        have c7b0 : (t106 == (decide ((IntKind.u64.wrap (3 * (IntKind.u64.wrap (Int.tmod a1 1200)))) ≥ (IntKind.u64.wrap (2 * (IntKind.u64.wrap (Int.tmod a0 1000))))))) = true := c7
        (try (have c7b1 : decide (t106 = (decide ((IntKind.u64.wrap (3 * (IntKind.u64.wrap (Int.tmod a1 1200)))) ≥ (IntKind.u64.wrap (2 * (IntKind.u64.wrap (Int.tmod a0 1000))))))) = true := by simpa using c7))
        (try (have c7b2 : (t106 == (decide ((IntKind.u64.wrap (3 * (IntKind.u64.wrap (Int.tmod a1 1200)))) ≥ (IntKind.u64.wrap (2 * (IntKind.u64.wrap (Int.tmod a0 1000))))))) = true := by simpa using c7))
        clear c7
        replace H := Option.bind_eq_some_iff.mp H
        obtain ⟨t107, A80, H⟩ := H
        replace H : (some (t107 == (decide ((IntKind.u64.wrap (3 * (IntKind.u64.wrap (Int.tmod a1 1200)))) ≥ (IntKind.u64.wrap (Int.tmod a0 1000)))))) = some r := H
        have A8 := Aside0.mk A80
        clear A80
        obtain rfl := Option.some.inj H
        go_enter Try.func7, Try.ntmps7
        go_wp2_with (first | ((with_reducible refine gate_callee (f := 10) rfl ?_); refine goesL_ (some 7) rfl rfl Try.func10 (by kernel_rfl) rfl #[] rfl (by (try simp only [List.map_toArray, List.map_cons, List.map_nil]); first | done | rfl | (simp only [List.length_drop, List.length_take]; rfl)) ?_; (with_reducible refine (psephoslaw07_awake.calls  true _ A3.out).mono ?_); rintro e w' ⟨rfl, ⟨nd, rfl⟩⟩; refine ⟨_, rfl, ?_⟩) | ((with_reducible refine gate_callee (f := 11) rfl ?_); refine goesL_ (some 17) rfl rfl Try.func11 (by kernel_rfl) rfl #[.int .u64 (IntKind.u64.wrap (Int.tmod a1 1200)), .int .u64 (IntKind.u64.wrap (Int.tmod a0 1000))] rfl (by (try simp only [List.map_toArray, List.map_cons, List.map_nil]); first | done | rfl | (simp only [List.length_drop, List.length_take]; rfl)) ?_; (with_reducible refine (quorum_Enough.calls (IntKind.u64.wrap (Int.tmod a1 1200)) (IntKind.u64.wrap (Int.tmod a0 1000)) t106 _ A5.out).mono ?_); rintro e w' ⟨rfl, ⟨nd, rfl⟩⟩; refine ⟨_, rfl, ?_⟩) | (go_at_call 13; (with_reducible refine (quorum_Third.calls (IntKind.u64.wrap (Int.tmod a1 1200)) (IntKind.u64.wrap (Int.tmod a0 1000)) t107 _ A8.out).mono ?_); rintro e w' ⟨rfl, ⟨nd, rfl⟩⟩))
        go_ret
        exact ⟨by first | rfl | (simp; done) | (simp [*]; done), by repeat (first | exact Drawn0.refl _ | apply Drawn0.step)⟩
      · rw [if_neg c7] at H
        have c7b0 : (t106 == (decide ((IntKind.u64.wrap (3 * (IntKind.u64.wrap (Int.tmod a1 1200)))) ≥ (IntKind.u64.wrap (2 * (IntKind.u64.wrap (Int.tmod a0 1000))))))) = false := by simpa using c7
        (try (have c7b1 : decide (t106 = (decide ((IntKind.u64.wrap (3 * (IntKind.u64.wrap (Int.tmod a1 1200)))) ≥ (IntKind.u64.wrap (2 * (IntKind.u64.wrap (Int.tmod a0 1000))))))) = false := by simpa using c7))
        (try (have c7b2 : (t106 == (decide ((IntKind.u64.wrap (3 * (IntKind.u64.wrap (Int.tmod a1 1200)))) ≥ (IntKind.u64.wrap (2 * (IntKind.u64.wrap (Int.tmod a0 1000))))))) = false := by simpa using c7))
        (try (have c7b3 : ¬ (t106 = (decide ((IntKind.u64.wrap (3 * (IntKind.u64.wrap (Int.tmod a1 1200)))) ≥ (IntKind.u64.wrap (2 * (IntKind.u64.wrap (Int.tmod a0 1000))))))) := by simpa using c7))
        clear c7
        obtain rfl := Option.some.inj H
        go_enter Try.func7, Try.ntmps7
        go_wp2_with (first | ((with_reducible refine gate_callee (f := 10) rfl ?_); refine goesL_ (some 7) rfl rfl Try.func10 (by kernel_rfl) rfl #[] rfl (by (try simp only [List.map_toArray, List.map_cons, List.map_nil]); first | done | rfl | (simp only [List.length_drop, List.length_take]; rfl)) ?_; (with_reducible refine (psephoslaw07_awake.calls  true _ A3.out).mono ?_); rintro e w' ⟨rfl, ⟨nd, rfl⟩⟩; refine ⟨_, rfl, ?_⟩) | ((with_reducible refine gate_callee (f := 11) rfl ?_); refine goesL_ (some 17) rfl rfl Try.func11 (by kernel_rfl) rfl #[.int .u64 (IntKind.u64.wrap (Int.tmod a1 1200)), .int .u64 (IntKind.u64.wrap (Int.tmod a0 1000))] rfl (by (try simp only [List.map_toArray, List.map_cons, List.map_nil]); first | done | rfl | (simp only [List.length_drop, List.length_take]; rfl)) ?_; (with_reducible refine (quorum_Enough.calls (IntKind.u64.wrap (Int.tmod a1 1200)) (IntKind.u64.wrap (Int.tmod a0 1000)) t106 _ A5.out).mono ?_); rintro e w' ⟨rfl, ⟨nd, rfl⟩⟩; refine ⟨_, rfl, ?_⟩))
        go_ret
        exact ⟨by first | rfl | (simp; done) | (simp [*]; done), by repeat (first | exact Drawn0.refl _ | apply Drawn0.step)⟩
    · rw [if_neg c6] at H
      have c6b0 : decide (0 < (IntKind.u64.wrap (Int.tmod a0 1000))) = false := decide_eq_false c6
      clear c6
      by_cases c9 : (t106 == false) = true
      · rw [if_pos c9] at H
        have c9b0 : (t106 == false) = true := c9
        (try (have c9b1 : decide (t106 = false) = true := by simpa using c9))
        (try (have c9b2 : (t106 == false) = true := by simpa using c9))
        clear c9
        replace H := Option.bind_eq_some_iff.mp H
        obtain ⟨t108, A100, H⟩ := H
        replace H : (some (t108 == false)) = some r := H
        have A10 := Aside0.mk A100
        clear A100
        obtain rfl := Option.some.inj H
        go_enter Try.func7, Try.ntmps7
        go_wp2_with (first | ((with_reducible refine gate_callee (f := 10) rfl ?_); refine goesL_ (some 7) rfl rfl Try.func10 (by kernel_rfl) rfl #[] rfl (by (try simp only [List.map_toArray, List.map_cons, List.map_nil]); first | done | rfl | (simp only [List.length_drop, List.length_take]; rfl)) ?_; (with_reducible refine (psephoslaw07_awake.calls  true _ A3.out).mono ?_); rintro e w' ⟨rfl, ⟨nd, rfl⟩⟩; refine ⟨_, rfl, ?_⟩) | ((with_reducible refine gate_callee (f := 11) rfl ?_); refine goesL_ (some 17) rfl rfl Try.func11 (by kernel_rfl) rfl #[.int .u64 (IntKind.u64.wrap (Int.tmod a1 1200)), .int .u64 (IntKind.u64.wrap (Int.tmod a0 1000))] rfl (by (try simp only [List.map_toArray, List.map_cons, List.map_nil]); first | done | rfl | (simp only [List.length_drop, List.length_take]; rfl)) ?_; (with_reducible refine (quorum_Enough.calls (IntKind.u64.wrap (Int.tmod a1 1200)) (IntKind.u64.wrap (Int.tmod a0 1000)) t106 _ A5.out).mono ?_); rintro e w' ⟨rfl, ⟨nd, rfl⟩⟩; refine ⟨_, rfl, ?_⟩) | (go_at_call 13; (with_reducible refine (quorum_Third.calls (IntKind.u64.wrap (Int.tmod a1 1200)) (IntKind.u64.wrap (Int.tmod a0 1000)) t108 _ A10.out).mono ?_); rintro e w' ⟨rfl, ⟨nd, rfl⟩⟩))
        go_ret
        exact ⟨by first | rfl | (simp; done) | (simp [*]; done), by repeat (first | exact Drawn0.refl _ | apply Drawn0.step)⟩
      · rw [if_neg c9] at H
        have c9b0 : (t106 == false) = false := by simpa using c9
        (try (have c9b1 : decide (t106 = false) = false := by simpa using c9))
        (try (have c9b2 : (t106 == false) = false := by simpa using c9))
        (try (have c9b3 : ¬ (t106 = false) := by simpa using c9))
        clear c9
        obtain rfl := Option.some.inj H
        go_enter Try.func7, Try.ntmps7
        go_wp2_with (first | ((with_reducible refine gate_callee (f := 10) rfl ?_); refine goesL_ (some 7) rfl rfl Try.func10 (by kernel_rfl) rfl #[] rfl (by (try simp only [List.map_toArray, List.map_cons, List.map_nil]); first | done | rfl | (simp only [List.length_drop, List.length_take]; rfl)) ?_; (with_reducible refine (psephoslaw07_awake.calls  true _ A3.out).mono ?_); rintro e w' ⟨rfl, ⟨nd, rfl⟩⟩; refine ⟨_, rfl, ?_⟩) | ((with_reducible refine gate_callee (f := 11) rfl ?_); refine goesL_ (some 17) rfl rfl Try.func11 (by kernel_rfl) rfl #[.int .u64 (IntKind.u64.wrap (Int.tmod a1 1200)), .int .u64 (IntKind.u64.wrap (Int.tmod a0 1000))] rfl (by (try simp only [List.map_toArray, List.map_cons, List.map_nil]); first | done | rfl | (simp only [List.length_drop, List.length_take]; rfl)) ?_; (with_reducible refine (quorum_Enough.calls (IntKind.u64.wrap (Int.tmod a1 1200)) (IntKind.u64.wrap (Int.tmod a0 1000)) t106 _ A5.out).mono ?_); rintro e w' ⟨rfl, ⟨nd, rfl⟩⟩; refine ⟨_, rfl, ?_⟩))
        go_ret
        exact ⟨by first | rfl | (simp; done) | (simp [*]; done), by repeat (first | exact Drawn0.refl _ | apply Drawn0.step)⟩
  · replace c4 := Bool.eq_false_iff.mpr c4
    subst c4
    have H1 : (some false) = some r := by rw [if_neg (show ¬ (false = true) by decide)] at H; exact H
    clear H
    have H := H1
    clear H1
    obtain rfl := Option.some.inj H
    go_enter Try.func7, Try.ntmps7
    go_wp2_with (first | ((with_reducible refine gate_callee (f := 10) rfl ?_); refine goesL_ (some 7) rfl rfl Try.func10 (by kernel_rfl) rfl #[] rfl (by (try simp only [List.map_toArray, List.map_cons, List.map_nil]); first | done | rfl | (simp only [List.length_drop, List.length_take]; rfl)) ?_; (with_reducible refine (psephoslaw07_awake.calls  false _ A3.out).mono ?_); rintro e w' ⟨rfl, ⟨nd, rfl⟩⟩; refine ⟨_, rfl, ?_⟩))
    go_ret
    exact ⟨by first | rfl | (simp; done) | (simp [*]; done), by repeat (first | exact Drawn0.refl _ | apply Drawn0.step)⟩

/-- THE ONE PURE STATEMENT of psephoslaw07_QuorumExact: yours. -/
def psephoslaw07_QuorumExact.Pure : Prop := ∀ (a0 : Int) (a1 : Int), (Lit.int .u32 a0).wf = true → (Lit.int .u32 a1).wf = true → psephoslaw07_QuorumExact.f a0 a1 = some true
theorem psephoslaw07_QuorumExact.walk (P : psephoslaw07_QuorumExact.Pure) (a0 : Int) (a1 : Int) (w : World) (w0 : (Lit.int .u32 a0).wf = true) (w1 : (Lit.int .u32 a1).wf = true) :
    Calls Try.prog 7 #[.int .u32 a0, .int .u32 a1] w fun e w' => e = .returned (.bool true) ∧ Below w.heap.size w w' := by
  have h := P a0 a1 w0 w1
  refine (psephoslaw07_QuorumExact.calls a0 a1 true w h).mono ?_
  rintro e w' ⟨rfl, hd⟩
  exact ⟨rfl, hd.below⟩

end Go.Proofs.Ytopkmjicahgmaaa.PQuorumExact
