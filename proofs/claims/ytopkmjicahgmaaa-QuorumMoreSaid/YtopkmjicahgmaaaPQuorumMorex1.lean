-- PRINTED BY print.sh 35421559b90ae4d0a3588c463048766b98c2df88dd9212a6774a882060cdf62d: not written by this session
import Derived.Test.YtopkmjicahgmaaaPQuorumMorex0
namespace Go.Proofs.Ytopkmjicahgmaaa.PQuorumMore
open Go.RowKit Go.Proofs.YtopkmjicahgmaaaW.PrintWords Go.Proofs.YtopkmjicahgmaaaW.PrintLast Go.Proofs.YtopkmjicahgmaaaW.PrintMore
attribute [local go_sem] max2_int min2_int max_two min_two max_three min_three max_four min_four   -- for this text's walks alone
set_option linter.unusedVariables false
set_option linter.unusedSimpArgs false

/-! ### quorum_Enough: function 11 -/
def quorum_Enough.f (a0 : Int) (a1 : Int) : Option (Bool) := if a1 > 0 then (some (decide (a0 ≥ (IntKind.u64.wrap ((IntKind.u64.wrap (2 * (IntKind.u64.wrap (Int.tdiv a1 3)))) + (IntKind.u64.wrap (Int.tdiv (IntKind.u64.wrap ((IntKind.u64.wrap (2 * (Int.tmod a1 3))) + 2)) 3))))))) else (some false)
set_option maxHeartbeats 8000000 in
set_option maxRecDepth 100000 in
theorem quorum_Enough.calls (a0 : Int) (a1 : Int) (r : Bool) (w : World) (h : quorum_Enough.f a0 a1 = some r) :
    Calls Try.prog 11 #[.int .u64 a0, .int .u64 a1] w fun e w' => e = .returned (.bool r) ∧ Drawn0 w w' := by
  have H : (if a1 > 0 then (some (decide (a0 ≥ (IntKind.u64.wrap ((IntKind.u64.wrap (2 * (IntKind.u64.wrap (Int.tdiv a1 3)))) + (IntKind.u64.wrap (Int.tdiv (IntKind.u64.wrap ((IntKind.u64.wrap (2 * (Int.tmod a1 3))) + 2)) 3))))))) else (some false)) = some r := h
  clear h
  by_cases c3 : a1 > 0
  · rw [if_pos c3] at H
    have c3b0 : decide (0 < a1) = true := decide_eq_true c3
    clear c3
    obtain rfl := Option.some.inj H
    go_enter Try.func11, Try.ntmps11
    go_wp2
    go_ret
    exact ⟨by first | rfl | (simp; done) | (simp [*]; done), by repeat (first | exact Drawn0.refl _ | apply Drawn0.step)⟩
  · rw [if_neg c3] at H
    have c3b0 : decide (0 < a1) = false := decide_eq_false c3
    clear c3
    obtain rfl := Option.some.inj H
    go_enter Try.func11, Try.ntmps11
    go_wp2
    go_ret
    exact ⟨by first | rfl | (simp; done) | (simp [*]; done), by repeat (first | exact Drawn0.refl _ | apply Drawn0.step)⟩

/-! ### quorum_Third: function 13 -/
def quorum_Third.f (a0 : Int) (a1 : Int) : Option (Bool) := if a1 > 0 then (some (decide (a0 ≥ (IntKind.u64.wrap ((IntKind.u64.wrap (Int.tdiv a1 3)) + (IntKind.u64.wrap (Int.tdiv (IntKind.u64.wrap ((Int.tmod a1 3) + 2)) 3))))))) else (some false)
set_option maxHeartbeats 8000000 in
set_option maxRecDepth 100000 in
theorem quorum_Third.calls (a0 : Int) (a1 : Int) (r : Bool) (w : World) (h : quorum_Third.f a0 a1 = some r) :
    Calls Try.prog 13 #[.int .u64 a0, .int .u64 a1] w fun e w' => e = .returned (.bool r) ∧ Drawn0 w w' := by
  have H : (if a1 > 0 then (some (decide (a0 ≥ (IntKind.u64.wrap ((IntKind.u64.wrap (Int.tdiv a1 3)) + (IntKind.u64.wrap (Int.tdiv (IntKind.u64.wrap ((Int.tmod a1 3) + 2)) 3))))))) else (some false)) = some r := h
  clear h
  by_cases c3 : a1 > 0
  · rw [if_pos c3] at H
    have c3b0 : decide (0 < a1) = true := decide_eq_true c3
    clear c3
    obtain rfl := Option.some.inj H
    go_enter Try.func13, Try.ntmps13
    go_wp2
    go_ret
    exact ⟨by first | rfl | (simp; done) | (simp [*]; done), by repeat (first | exact Drawn0.refl _ | apply Drawn0.step)⟩
  · rw [if_neg c3] at H
    have c3b0 : decide (0 < a1) = false := decide_eq_false c3
    clear c3
    obtain rfl := Option.some.inj H
    go_enter Try.func13, Try.ntmps13
    go_wp2
    go_ret
    exact ⟨by first | rfl | (simp; done) | (simp [*]; done), by repeat (first | exact Drawn0.refl _ | apply Drawn0.step)⟩

/-! ### quorum_Meet: function 14 -/
def quorum_Meet.f (a0 : Int) (a1 : Int) (a2 : Int) : Option (Int) := if a0 > a2 then (some 0) else (if a1 > a2 then (some 0) else (if a0 < (IntKind.u64.wrap (a2 - a1)) then (some 0) else (some (IntKind.u64.wrap (a0 - (IntKind.u64.wrap (a2 - a1)))))))
set_option maxHeartbeats 8000000 in
set_option maxRecDepth 100000 in
theorem quorum_Meet.calls (a0 : Int) (a1 : Int) (a2 : Int) (r : Int) (w : World) (h : quorum_Meet.f a0 a1 a2 = some r) :
    Calls Try.prog 14 #[.int .u64 a0, .int .u64 a1, .int .u64 a2] w fun e w' => e = .returned (.int .u64 r) ∧ Drawn0 w w' := by
  have H : (if a0 > a2 then (some 0) else (if a1 > a2 then (some 0) else (if a0 < (IntKind.u64.wrap (a2 - a1)) then (some 0) else (some (IntKind.u64.wrap (a0 - (IntKind.u64.wrap (a2 - a1)))))))) = some r := h
  clear h
  by_cases c4 : a0 > a2
  · rw [if_pos c4] at H
    have c4b0 : decide (a2 < a0) = true := decide_eq_true c4
    clear c4
    obtain rfl := Option.some.inj H
    go_enter Try.func14, Try.ntmps14
    go_wp2
    go_ret
    exact ⟨by first | rfl | (simp; done) | (simp [*]; done), by repeat (first | exact Drawn0.refl _ | apply Drawn0.step)⟩
  · rw [if_neg c4] at H
    have c4b0 : decide (a2 < a0) = false := decide_eq_false c4
    clear c4
    by_cases c5 : a1 > a2
    · rw [if_pos c5] at H
      have c5b0 : decide (a2 < a1) = true := decide_eq_true c5
      clear c5
      obtain rfl := Option.some.inj H
      go_enter Try.func14, Try.ntmps14
      go_wp2
      go_ret
      exact ⟨by first | rfl | (simp; done) | (simp [*]; done), by repeat (first | exact Drawn0.refl _ | apply Drawn0.step)⟩
    · rw [if_neg c5] at H
      have c5b0 : decide (a2 < a1) = false := decide_eq_false c5
      clear c5
      by_cases c6 : a0 < (IntKind.u64.wrap (a2 - a1))
      · rw [if_pos c6] at H
        have c6b0 : decide (a0 < (IntKind.u64.wrap (a2 - a1))) = true := decide_eq_true c6
        clear c6
        obtain rfl := Option.some.inj H
        go_enter Try.func14, Try.ntmps14
        go_wp2
        go_ret
        exact ⟨by first | rfl | (simp; done) | (simp [*]; done), by repeat (first | exact Drawn0.refl _ | apply Drawn0.step)⟩
      · rw [if_neg c6] at H
        have c6b0 : decide (a0 < (IntKind.u64.wrap (a2 - a1))) = false := decide_eq_false c6
        clear c6
        obtain rfl := Option.some.inj H
        go_enter Try.func14, Try.ntmps14
        go_wp2
        go_ret
        exact ⟨by first | rfl | (simp; done) | (simp [*]; done), by repeat (first | exact Drawn0.refl _ | apply Drawn0.step)⟩

/-! ### psephoslaw07_awake: function 10 -/
def psephoslaw07_awake.f  : Option (Bool) := (quorum_Enough.f 2 3).bind fun t101 => (if t101 = true then ((quorum_Enough.f 1 2).bind fun t102 => (if t102 = true then (some false) else ((quorum_Third.f 1 3).bind fun t103 => (if t103 = true then ((quorum_Meet.f 2 2 3).bind fun t104 => (some (t104 == 1))) else (some false))))) else (some false))
set_option maxHeartbeats 8000000 in
set_option maxRecDepth 100000 in
theorem psephoslaw07_awake.calls  (r : Bool) (w : World) (h : psephoslaw07_awake.f  = some r) :
    Calls Try.prog 10 #[] w fun e w' => e = .returned (.bool r) ∧ Drawn0 w w' := by
  have H : ((quorum_Enough.f 2 3).bind fun t101 => (if t101 = true then ((quorum_Enough.f 1 2).bind fun t102 => (if t102 = true then (some false) else ((quorum_Third.f 1 3).bind fun t103 => (if t103 = true then ((quorum_Meet.f 2 2 3).bind fun t104 => (some (t104 == 1))) else (some false))))) else (some false))) = some r := h
  clear h
  replace H := Option.bind_eq_some_iff.mp H
  obtain ⟨t101, A10, H⟩ := H
  replace H : (if t101 = true then ((quorum_Enough.f 1 2).bind fun t102 => (if t102 = true then (some false) else ((quorum_Third.f 1 3).bind fun t103 => (if t103 = true then ((quorum_Meet.f 2 2 3).bind fun t104 => (some (t104 == 1))) else (some false))))) else (some false)) = some r := H
  have A1 := Aside0.mk A10
  clear A10
  by_cases c2 : t101 = true
  · subst c2
    have H1 : ((quorum_Enough.f 1 2).bind fun t102 => (if t102 = true then (some false) else ((quorum_Third.f 1 3).bind fun t103 => (if t103 = true then ((quorum_Meet.f 2 2 3).bind fun t104 => (some (t104 == 1))) else (some false))))) = some r := by rw [if_pos rfl] at H; exact H
    clear H
    have H := H1
    clear H1
    replace H := Option.bind_eq_some_iff.mp H
    obtain ⟨t102, A30, H⟩ := H
    replace H : (if t102 = true then (some false) else ((quorum_Third.f 1 3).bind fun t103 => (if t103 = true then ((quorum_Meet.f 2 2 3).bind fun t104 => (some (t104 == 1))) else (some false)))) = some r := H
    have A3 := Aside0.mk A30
    clear A30
    by_cases c4 : t102 = true
    · subst c4
      have H1 : (some false) = some r := by rw [if_pos rfl] at H; exact H
      clear H
      have H := H1
      clear H1
      obtain rfl := Option.some.inj H
      go_enter Try.func10, Try.ntmps10
      go_wp2_with (first | ((with_reducible refine gate_callee (f := 11) rfl ?_); refine goesL_ (some 1) rfl rfl Try.func11 (by kernel_rfl) rfl #[.int .u64 2, .int .u64 3] rfl (by (try simp only [List.map_toArray, List.map_cons, List.map_nil]); first | done | rfl | (simp only [List.length_drop, List.length_take]; rfl)) ?_; (with_reducible refine (quorum_Enough.calls 2 3 true _ A1.out).mono ?_); rintro e w' ⟨rfl, ⟨nd, rfl⟩⟩; refine ⟨_, rfl, ?_⟩) | (go_at_call 11; (with_reducible refine (quorum_Enough.calls 1 2 true _ A3.out).mono ?_); rintro e w' ⟨rfl, ⟨nd, rfl⟩⟩))
      go_ret
      exact ⟨by first | rfl | (simp; done) | (simp [*]; done), by repeat (first | exact Drawn0.refl _ | apply Drawn0.step)⟩
    · replace c4 := Bool.eq_false_iff.mpr c4
      subst c4
      have H1 : ((quorum_Third.f 1 3).bind fun t103 => (if t103 = true then ((quorum_Meet.f 2 2 3).bind fun t104 => (some (t104 == 1))) else (some false))) = some r := by rw [if_neg (show ¬ (false = true) by decide)] at H; exact H
      clear H
      have H := H1
      clear H1
      replace H := Option.bind_eq_some_iff.mp H
      obtain ⟨t103, A50, H⟩ := H
      replace H : (if t103 = true then ((quorum_Meet.f 2 2 3).bind fun t104 => (some (t104 == 1))) else (some false)) = some r := H
      have A5 := Aside0.mk A50
      clear A50
      by_cases c6 : t103 = true
      · subst c6
        have H1 : ((quorum_Meet.f 2 2 3).bind fun t104 => (some (t104 == 1))) = some r := by rw [if_pos rfl] at H; exact H
        clear H
        have H := H1
        clear H1
        replace H := Option.bind_eq_some_iff.mp H
        obtain ⟨t104, A70, H⟩ := H
        replace H : (some (t104 == 1)) = some r := H
        have A7 := Aside0.mk A70
        clear A70
        obtain rfl := Option.some.inj H
        go_enter Try.func10, Try.ntmps10
        go_wp2_with (first | ((with_reducible refine gate_callee (f := 11) rfl ?_); refine goesL_ (some 1) rfl rfl Try.func11 (by kernel_rfl) rfl #[.int .u64 2, .int .u64 3] rfl (by (try simp only [List.map_toArray, List.map_cons, List.map_nil]); first | done | rfl | (simp only [List.length_drop, List.length_take]; rfl)) ?_; (with_reducible refine (quorum_Enough.calls 2 3 true _ A1.out).mono ?_); rintro e w' ⟨rfl, ⟨nd, rfl⟩⟩; refine ⟨_, rfl, ?_⟩) | (go_at_call 11; (with_reducible refine (quorum_Enough.calls 1 2 false _ A3.out).mono ?_); rintro e w' ⟨rfl, ⟨nd, rfl⟩⟩) | (go_at_call 13; (with_reducible refine (quorum_Third.calls 1 3 true _ A5.out).mono ?_); rintro e w' ⟨rfl, ⟨nd, rfl⟩⟩) | (go_at_call 14; (with_reducible refine (quorum_Meet.calls 2 2 3 t104 _ A7.out).mono ?_); rintro e w' ⟨rfl, ⟨nd, rfl⟩⟩))
        go_ret
        exact ⟨by first | rfl | (simp; done) | (simp [*]; done), by repeat (first | exact Drawn0.refl _ | apply Drawn0.step)⟩
      · replace c6 := Bool.eq_false_iff.mpr c6
        subst c6
        have H1 : (some false) = some r := by rw [if_neg (show ¬ (false = true) by decide)] at H; exact H
        clear H
        have H := H1
        clear H1
        obtain rfl := Option.some.inj H
        go_enter Try.func10, Try.ntmps10
        go_wp2_with (first | ((with_reducible refine gate_callee (f := 11) rfl ?_); refine goesL_ (some 1) rfl rfl Try.func11 (by kernel_rfl) rfl #[.int .u64 2, .int .u64 3] rfl (by (try simp only [List.map_toArray, List.map_cons, List.map_nil]); first | done | rfl | (simp only [List.length_drop, List.length_take]; rfl)) ?_; (with_reducible refine (quorum_Enough.calls 2 3 true _ A1.out).mono ?_); rintro e w' ⟨rfl, ⟨nd, rfl⟩⟩; refine ⟨_, rfl, ?_⟩) | (go_at_call 11; (with_reducible refine (quorum_Enough.calls 1 2 false _ A3.out).mono ?_); rintro e w' ⟨rfl, ⟨nd, rfl⟩⟩) | (go_at_call 13; (with_reducible refine (quorum_Third.calls 1 3 false _ A5.out).mono ?_); rintro e w' ⟨rfl, ⟨nd, rfl⟩⟩))
        go_ret
        exact ⟨by first | rfl | (simp; done) | (simp [*]; done), by repeat (first | exact Drawn0.refl _ | apply Drawn0.step)⟩
  · replace c2 := Bool.eq_false_iff.mpr c2
    subst c2
    have H1 : (some false) = some r := by rw [if_neg (show ¬ (false = true) by decide)] at H; exact H
    clear H
    have H := H1
    clear H1
    obtain rfl := Option.some.inj H
    go_enter Try.func10, Try.ntmps10
    go_wp2_with (first | ((with_reducible refine gate_callee (f := 11) rfl ?_); refine goesL_ (some 1) rfl rfl Try.func11 (by kernel_rfl) rfl #[.int .u64 2, .int .u64 3] rfl (by (try simp only [List.map_toArray, List.map_cons, List.map_nil]); first | done | rfl | (simp only [List.length_drop, List.length_take]; rfl)) ?_; (with_reducible refine (quorum_Enough.calls 2 3 false _ A1.out).mono ?_); rintro e w' ⟨rfl, ⟨nd, rfl⟩⟩; refine ⟨_, rfl, ?_⟩))
    go_ret
    exact ⟨by first | rfl | (simp; done) | (simp [*]; done), by repeat (first | exact Drawn0.refl _ | apply Drawn0.step)⟩

/-! ### psephoslaw07_QuorumMore: function 6 -/
def psephoslaw07_QuorumMore.f (a0 : Int) (a1 : Int) (a2 : Int) : Option (Bool) := (psephoslaw07_awake.f).bind fun t105 => (if t105 = true then ((quorum_Enough.f (IntKind.u64.wrap (Int.tdiv a0 2)) a1).bind fun t106 => (if t106 = true then ((quorum_Enough.f (IntKind.u64.wrap ((IntKind.u64.wrap (Int.tdiv a0 2)) + (IntKind.u64.wrap (Int.tdiv a2 2)))) a1).bind fun t107 => (if t107 = true then ((quorum_Enough.f a1 a1).bind fun t108 => (if (t108 == (decide (a1 > 0))) = true then ((quorum_Enough.f a0 a1).bind fun t109 => (if t109 = true then ((quorum_Third.f a0 a1).bind fun t110 => (some t110)) else (some true))) else (some false))) else (some false))) else ((quorum_Enough.f a1 a1).bind fun t111 => (if (t111 == (decide (a1 > 0))) = true then ((quorum_Enough.f a0 a1).bind fun t112 => (if t112 = true then ((quorum_Third.f a0 a1).bind fun t113 => (some t113)) else (some true))) else (some false))))) else (some false))
set_option maxHeartbeats 8000000 in
set_option maxRecDepth 100000 in
theorem psephoslaw07_QuorumMore.calls (a0 : Int) (a1 : Int) (a2 : Int) (r : Bool) (w : World) (h : psephoslaw07_QuorumMore.f a0 a1 a2 = some r) :
    Calls Try.prog 6 #[.int .u64 a0, .int .u64 a1, .int .u64 a2] w fun e w' => e = .returned (.bool r) ∧ Drawn0 w w' := by
  have H : ((psephoslaw07_awake.f).bind fun t105 => (if t105 = true then ((quorum_Enough.f (IntKind.u64.wrap (Int.tdiv a0 2)) a1).bind fun t106 => (if t106 = true then ((quorum_Enough.f (IntKind.u64.wrap ((IntKind.u64.wrap (Int.tdiv a0 2)) + (IntKind.u64.wrap (Int.tdiv a2 2)))) a1).bind fun t107 => (if t107 = true then ((quorum_Enough.f a1 a1).bind fun t108 => (if (t108 == (decide (a1 > 0))) = true then ((quorum_Enough.f a0 a1).bind fun t109 => (if t109 = true then ((quorum_Third.f a0 a1).bind fun t110 => (some t110)) else (some true))) else (some false))) else (some false))) else ((quorum_Enough.f a1 a1).bind fun t111 => (if (t111 == (decide (a1 > 0))) = true then ((quorum_Enough.f a0 a1).bind fun t112 => (if t112 = true then ((quorum_Third.f a0 a1).bind fun t113 => (some t113)) else (some true))) else (some false))))) else (some false))) = some r := h
  clear h
  replace H := Option.bind_eq_some_iff.mp H
  obtain ⟨t105, A40, H⟩ := H
  replace H : (if t105 = true then ((quorum_Enough.f (IntKind.u64.wrap (Int.tdiv a0 2)) a1).bind fun t106 => (if t106 = true then ((quorum_Enough.f (IntKind.u64.wrap ((IntKind.u64.wrap (Int.tdiv a0 2)) + (IntKind.u64.wrap (Int.tdiv a2 2)))) a1).bind fun t107 => (if t107 = true then ((quorum_Enough.f a1 a1).bind fun t108 => (if (t108 == (decide (a1 > 0))) = true then ((quorum_Enough.f a0 a1).bind fun t109 => (if t109 = true then ((quorum_Third.f a0 a1).bind fun t110 => (some t110)) else (some true))) else (some false))) else (some false))) else ((quorum_Enough.f a1 a1).bind fun t111 => (if (t111 == (decide (a1 > 0))) = true then ((quorum_Enough.f a0 a1).bind fun t112 => (if t112 = true then ((quorum_Third.f a0 a1).bind fun t113 => (some t113)) else (some true))) else (some false))))) else (some false)) = some r := H
  have A4 := Aside0.mk A40
  clear A40
  by_cases c5 : t105 = true
  · subst c5
    have H1 : ((quorum_Enough.f (IntKind.u64.wrap (Int.tdiv a0 2)) a1).bind fun t106 => (if t106 = true then ((quorum_Enough.f (IntKind.u64.wrap ((IntKind.u64.wrap (Int.tdiv a0 2)) + (IntKind.u64.wrap (Int.tdiv a2 2)))) a1).bind fun t107 => (if t107 = true then ((quorum_Enough.f a1 a1).bind fun t108 => (if (t108 == (decide (a1 > 0))) = true then ((quorum_Enough.f a0 a1).bind fun t109 => (if t109 = true then ((quorum_Third.f a0 a1).bind fun t110 => (some t110)) else (some true))) else (some false))) else (some false))) else ((quorum_Enough.f a1 a1).bind fun t111 => (if (t111 == (decide (a1 > 0))) = true then ((quorum_Enough.f a0 a1).bind fun t112 => (if t112 = true then ((quorum_Third.f a0 a1).bind fun t113 => (some t113)) else (some true))) else (some false))))) = some r := by rw [if_pos rfl] at H; exact H
    clear H
    have H := H1
    clear H1
    replace H := Option.bind_eq_some_iff.mp H
    obtain ⟨t106, A60, H⟩ := H
    replace H : (if t106 = true then ((quorum_Enough.f (IntKind.u64.wrap ((IntKind.u64.wrap (Int.tdiv a0 2)) + (IntKind.u64.wrap (Int.tdiv a2 2)))) a1).bind fun t107 => (if t107 = true then ((quorum_Enough.f a1 a1).bind fun t108 => (if (t108 == (decide (a1 > 0))) = true then ((quorum_Enough.f a0 a1).bind fun t109 => (if t109 = true then ((quorum_Third.f a0 a1).bind fun t110 => (some t110)) else (some true))) else (some false))) else (some false))) else ((quorum_Enough.f a1 a1).bind fun t111 => (if (t111 == (decide (a1 > 0))) = true then ((quorum_Enough.f a0 a1).bind fun t112 => (if t112 = true then ((quorum_Third.f a0 a1).bind fun t113 => (some t113)) else (some true))) else (some false)))) = some r := H
    have A6 := Aside0.mk A60
    clear A60
    by_cases c7 : t106 = true
    · subst c7
      have H1 : ((quorum_Enough.f (IntKind.u64.wrap ((IntKind.u64.wrap (Int.tdiv a0 2)) + (IntKind.u64.wrap (Int.tdiv a2 2)))) a1).bind fun t107 => (if t107 = true then ((quorum_Enough.f a1 a1).bind fun t108 => (if (t108 == (decide (a1 > 0))) = true then ((quorum_Enough.f a0 a1).bind fun t109 => (if t109 = true then ((quorum_Third.f a0 a1).bind fun t110 => (some t110)) else (some true))) else (some false))) else (some false))) = some r := by rw [if_pos rfl] at H; exact H
      clear H
      have H := H1
      clear H1
      replace H := Option.bind_eq_some_iff.mp H
      obtain ⟨t107, A80, H⟩ := H
      replace H : (if t107 = true then ((quorum_Enough.f a1 a1).bind fun t108 => (if (t108 == (decide (a1 > 0))) = true then ((quorum_Enough.f a0 a1).bind fun t109 => (if t109 = true then ((quorum_Third.f a0 a1).bind fun t110 => (some t110)) else (some true))) else (some false))) else (some false)) = some r := H
      have A8 := Aside0.mk A80
      clear A80
      by_cases c9 : t107 = true
      · subst c9
        have H1 : ((quorum_Enough.f a1 a1).bind fun t108 => (if (t108 == (decide (a1 > 0))) = true then ((quorum_Enough.f a0 a1).bind fun t109 => (if t109 = true then ((quorum_Third.f a0 a1).bind fun t110 => (some t110)) else (some true))) else (some false))) = some r := by rw [if_pos rfl] at H; exact H
        clear H
        have H := H1
        clear H1
        replace H := Option.bind_eq_some_iff.mp H
        obtain ⟨t108, A100, H⟩ := H
        replace H : (if (t108 == (decide (a1 > 0))) = true then ((quorum_Enough.f a0 a1).bind fun t109 => (if t109 = true then ((quorum_Third.f a0 a1).bind fun t110 => (some t110)) else (some true))) else (some false)) = some r := H
        have A10 := Aside0.mk A100
        clear A100
        by_cases c11 : (t108 == (decide (a1 > 0))) = true
        · rw [if_pos c11] at H
          have c11b0 : (t108 == (decide (a1 > 0))) = true := c11
          (try (have c11b1 : decide (t108 = (decide (a1 > 0))) = true := by simpa using c11))
          (try (have c11b2 : (t108 == (decide (a1 > 0))) = true := by simpa using c11))
          clear c11
          replace H := Option.bind_eq_some_iff.mp H
          obtain ⟨t109, A120, H⟩ := H
          replace H : (if t109 = true then ((quorum_Third.f a0 a1).bind fun t110 => (some t110)) else (some true)) = some r := H
          have A12 := Aside0.mk A120
          clear A120
          by_cases c13 : t109 = true
          · subst c13
            have H1 : ((quorum_Third.f a0 a1).bind fun t110 => (some t110)) = some r := by rw [if_pos rfl] at H; exact H
            clear H
            have H := H1
            clear H1
            replace H := Option.bind_eq_some_iff.mp H
            obtain ⟨t110, A140, H⟩ := H
            replace H : (some t110) = some r := H
            have A14 := Aside0.mk A140
            clear A140
            obtain rfl := Option.some.inj H
            go_enter Try.func6, Try.ntmps6
            go_wp2_with (first | ((with_reducible refine gate_callee (f := 10) rfl ?_); refine goesL_ (some 9) rfl rfl Try.func10 (by kernel_rfl) rfl #[] rfl (by (try simp only [List.map_toArray, List.map_cons, List.map_nil]); first | done | rfl | (simp only [List.length_drop, List.length_take]; rfl)) ?_; (with_reducible refine (psephoslaw07_awake.calls  true _ A4.out).mono ?_); rintro e w' ⟨rfl, ⟨nd, rfl⟩⟩; refine ⟨_, rfl, ?_⟩) | ((with_reducible refine gate_callee (f := 11) rfl ?_); refine goesL_ (some 19) rfl rfl Try.func11 (by kernel_rfl) rfl #[.int .u64 (IntKind.u64.wrap (Int.tdiv a0 2)), .int .u64 a1] rfl (by (try simp only [List.map_toArray, List.map_cons, List.map_nil]); first | done | rfl | (simp only [List.length_drop, List.length_take]; rfl)) ?_; (with_reducible refine (quorum_Enough.calls (IntKind.u64.wrap (Int.tdiv a0 2)) a1 true _ A6.out).mono ?_); rintro e w' ⟨rfl, ⟨nd, rfl⟩⟩; refine ⟨_, rfl, ?_⟩) | (go_at_call 11; (with_reducible refine (quorum_Enough.calls (IntKind.u64.wrap ((IntKind.u64.wrap (Int.tdiv a0 2)) + (IntKind.u64.wrap (Int.tdiv a2 2)))) a1 true _ A8.out).mono ?_); rintro e w' ⟨rfl, ⟨nd, rfl⟩⟩) | (go_at_call 11; (with_reducible refine (quorum_Enough.calls a1 a1 t108 _ A10.out).mono ?_); rintro e w' ⟨rfl, ⟨nd, rfl⟩⟩) | (go_at_call 11; (with_reducible refine (quorum_Enough.calls a0 a1 true _ A12.out).mono ?_); rintro e w' ⟨rfl, ⟨nd, rfl⟩⟩) | (go_at_call 13; (with_reducible refine (quorum_Third.calls a0 a1 t110 _ A14.out).mono ?_); rintro e w' ⟨rfl, ⟨nd, rfl⟩⟩))
            go_ret
            exact ⟨by first | rfl | (simp; done) | (simp [*]; done), by repeat (first | exact Drawn0.refl _ | apply Drawn0.step)⟩
          · replace c13 := Bool.eq_false_iff.mpr c13
            subst c13
            have H1 : (some true) = some r := by rw [if_neg (show ¬ (false = true) by decide)] at H; exact H
            clear H
            have H := H1
            clear H1
            obtain rfl := Option.some.inj H
            go_enter Try.func6, Try.ntmps6
            go_wp2_with (first | ((with_reducible refine gate_callee (f := 10) rfl ?_); refine goesL_ (some 9) rfl rfl Try.func10 (by kernel_rfl) rfl #[] rfl (by (try simp only [List.map_toArray, List.map_cons, List.map_nil]); first | done | rfl | (simp only [List.length_drop, List.length_take]; rfl)) ?_; (with_reducible refine (psephoslaw07_awake.calls  true _ A4.out).mono ?_); rintro e w' ⟨rfl, ⟨nd, rfl⟩⟩; refine ⟨_, rfl, ?_⟩) | ((with_reducible refine gate_callee (f := 11) rfl ?_); refine goesL_ (some 19) rfl rfl Try.func11 (by kernel_rfl) rfl #[.int .u64 (IntKind.u64.wrap (Int.tdiv a0 2)), .int .u64 a1] rfl (by (try simp only [List.map_toArray, List.map_cons, List.map_nil]); first | done | rfl | (simp only [List.length_drop, List.length_take]; rfl)) ?_; (with_reducible refine (quorum_Enough.calls (IntKind.u64.wrap (Int.tdiv a0 2)) a1 true _ A6.out).mono ?_); rintro e w' ⟨rfl, ⟨nd, rfl⟩⟩; refine ⟨_, rfl, ?_⟩) | (go_at_call 11; (with_reducible refine (quorum_Enough.calls (IntKind.u64.wrap ((IntKind.u64.wrap (Int.tdiv a0 2)) + (IntKind.u64.wrap (Int.tdiv a2 2)))) a1 true _ A8.out).mono ?_); rintro e w' ⟨rfl, ⟨nd, rfl⟩⟩) | (go_at_call 11; (with_reducible refine (quorum_Enough.calls a1 a1 t108 _ A10.out).mono ?_); rintro e w' ⟨rfl, ⟨nd, rfl⟩⟩) | (go_at_call 11; (with_reducible refine (quorum_Enough.calls a0 a1 false _ A12.out).mono ?_); rintro e w' ⟨rfl, ⟨nd, rfl⟩⟩))
            go_ret
            exact ⟨by first | rfl | (simp; done) | (simp [*]; done), by repeat (first | exact Drawn0.refl _ | apply Drawn0.step)⟩
        · rw [if_neg c11] at H
          have c11b0 : (t108 == (decide (a1 > 0))) = false := by simpa using c11
          (try (have c11b1 : decide (t108 = (decide (a1 > 0))) = false := by simpa using c11))
          (try (have c11b2 : (t108 == (decide (a1 > 0))) = false := by simpa using c11))
          (try (have c11b3 : ¬ (t108 = (decide (a1 > 0))) := by simpa using c11))
          clear c11
          obtain rfl := Option.some.inj H
          go_enter Try.func6, Try.ntmps6
          go_wp2_with (first | ((with_reducible refine gate_callee (f := 10) rfl ?_); refine goesL_ (some 9) rfl rfl Try.func10 (by kernel_rfl) rfl #[] rfl (by (try simp only [List.map_toArray, List.map_cons, List.map_nil]); first | done | rfl | (simp only [List.length_drop, List.length_take]; rfl)) ?_; (with_reducible refine (psephoslaw07_awake.calls  true _ A4.out).mono ?_); rintro e w' ⟨rfl, ⟨nd, rfl⟩⟩; refine ⟨_, rfl, ?_⟩) | ((with_reducible refine gate_callee (f := 11) rfl ?_); refine goesL_ (some 19) rfl rfl Try.func11 (by kernel_rfl) rfl #[.int .u64 (IntKind.u64.wrap (Int.tdiv a0 2)), .int .u64 a1] rfl (by (try simp only [List.map_toArray, List.map_cons, List.map_nil]); first | done | rfl | (simp only [List.length_drop, List.length_take]; rfl)) ?_; (with_reducible refine (quorum_Enough.calls (IntKind.u64.wrap (Int.tdiv a0 2)) a1 true _ A6.out).mono ?_); rintro e w' ⟨rfl, ⟨nd, rfl⟩⟩; refine ⟨_, rfl, ?_⟩) | (go_at_call 11; (with_reducible refine (quorum_Enough.calls (IntKind.u64.wrap ((IntKind.u64.wrap (Int.tdiv a0 2)) + (IntKind.u64.wrap (Int.tdiv a2 2)))) a1 true _ A8.out).mono ?_); rintro e w' ⟨rfl, ⟨nd, rfl⟩⟩) | (go_at_call 11; (with_reducible refine (quorum_Enough.calls a1 a1 t108 _ A10.out).mono ?_); rintro e w' ⟨rfl, ⟨nd, rfl⟩⟩))
          go_ret
          exact ⟨by first | rfl | (simp; done) | (simp [*]; done), by repeat (first | exact Drawn0.refl _ | apply Drawn0.step)⟩
      · replace c9 := Bool.eq_false_iff.mpr c9
        subst c9
        have H1 : (some false) = some r := by rw [if_neg (show ¬ (false = true) by decide)] at H; exact H
        clear H
        have H := H1
        clear H1
        obtain rfl := Option.some.inj H
        go_enter Try.func6, Try.ntmps6
        go_wp2_with (first | ((with_reducible refine gate_callee (f := 10) rfl ?_); refine goesL_ (some 9) rfl rfl Try.func10 (by kernel_rfl) rfl #[] rfl (by (try simp only [List.map_toArray, List.map_cons, List.map_nil]); first | done | rfl | (simp only [List.length_drop, List.length_take]; rfl)) ?_; (with_reducible refine (psephoslaw07_awake.calls  true _ A4.out).mono ?_); rintro e w' ⟨rfl, ⟨nd, rfl⟩⟩; refine ⟨_, rfl, ?_⟩) | ((with_reducible refine gate_callee (f := 11) rfl ?_); refine goesL_ (some 19) rfl rfl Try.func11 (by kernel_rfl) rfl #[.int .u64 (IntKind.u64.wrap (Int.tdiv a0 2)), .int .u64 a1] rfl (by (try simp only [List.map_toArray, List.map_cons, List.map_nil]); first | done | rfl | (simp only [List.length_drop, List.length_take]; rfl)) ?_; (with_reducible refine (quorum_Enough.calls (IntKind.u64.wrap (Int.tdiv a0 2)) a1 true _ A6.out).mono ?_); rintro e w' ⟨rfl, ⟨nd, rfl⟩⟩; refine ⟨_, rfl, ?_⟩) | (go_at_call 11; (with_reducible refine (quorum_Enough.calls (IntKind.u64.wrap ((IntKind.u64.wrap (Int.tdiv a0 2)) + (IntKind.u64.wrap (Int.tdiv a2 2)))) a1 false _ A8.out).mono ?_); rintro e w' ⟨rfl, ⟨nd, rfl⟩⟩))
        go_ret
        exact ⟨by first | rfl | (simp; done) | (simp [*]; done), by repeat (first | exact Drawn0.refl _ | apply Drawn0.step)⟩
    · replace c7 := Bool.eq_false_iff.mpr c7
      subst c7
      have H1 : ((quorum_Enough.f a1 a1).bind fun t111 => (if (t111 == (decide (a1 > 0))) = true then ((quorum_Enough.f a0 a1).bind fun t112 => (if t112 = true then ((quorum_Third.f a0 a1).bind fun t113 => (some t113)) else (some true))) else (some false))) = some r := by rw [if_neg (show ¬ (false = true) by decide)] at H; exact H
      clear H
      have H := H1
      clear H1
      replace H := Option.bind_eq_some_iff.mp H
      obtain ⟨t111, A150, H⟩ := H
      replace H : (if (t111 == (decide (a1 > 0))) = true then ((quorum_Enough.f a0 a1).bind fun t112 => (if t112 = true then ((quorum_Third.f a0 a1).bind fun t113 => (some t113)) else (some true))) else (some false)) = some r := H
      have A15 := Aside0.mk A150
      clear A150
      by_cases c16 : (t111 == (decide (a1 > 0))) = true
      · rw [if_pos c16] at H
        have c16b0 : (t111 == (decide (a1 > 0))) = true := c16
        (try (have c16b1 : decide (t111 = (decide (a1 > 0))) = true := by simpa using c16))
        (try (have c16b2 : (t111 == (decide (a1 > 0))) = true := by simpa using c16))
        clear c16
        replace H := Option.bind_eq_some_iff.mp H
        obtain ⟨t112, A170, H⟩ := H
        replace H : (if t112 = true then ((quorum_Third.f a0 a1).bind fun t113 => (some t113)) else (some true)) = some r := H
        have A17 := Aside0.mk A170
        clear A170
        by_cases c18 : t112 = true
        · subst c18
          have H1 : ((quorum_Third.f a0 a1).bind fun t113 => (some t113)) = some r := by rw [if_pos rfl] at H; exact H
          clear H
          have H := H1
          clear H1
          replace H := Option.bind_eq_some_iff.mp H
          obtain ⟨t113, A190, H⟩ := H
          replace H : (some t113) = some r := H
          have A19 := Aside0.mk A190
          clear A190
          obtain rfl := Option.some.inj H
          go_enter Try.func6, Try.ntmps6
          go_wp2_with (first | ((with_reducible refine gate_callee (f := 10) rfl ?_); refine goesL_ (some 9) rfl rfl Try.func10 (by kernel_rfl) rfl #[] rfl (by (try simp only [List.map_toArray, List.map_cons, List.map_nil]); first | done | rfl | (simp only [List.length_drop, List.length_take]; rfl)) ?_; (with_reducible refine (psephoslaw07_awake.calls  true _ A4.out).mono ?_); rintro e w' ⟨rfl, ⟨nd, rfl⟩⟩; refine ⟨_, rfl, ?_⟩) | ((with_reducible refine gate_callee (f := 11) rfl ?_); refine goesL_ (some 19) rfl rfl Try.func11 (by kernel_rfl) rfl #[.int .u64 (IntKind.u64.wrap (Int.tdiv a0 2)), .int .u64 a1] rfl (by (try simp only [List.map_toArray, List.map_cons, List.map_nil]); first | done | rfl | (simp only [List.length_drop, List.length_take]; rfl)) ?_; (with_reducible refine (quorum_Enough.calls (IntKind.u64.wrap (Int.tdiv a0 2)) a1 false _ A6.out).mono ?_); rintro e w' ⟨rfl, ⟨nd, rfl⟩⟩; refine ⟨_, rfl, ?_⟩) | (go_at_call 11; (with_reducible refine (quorum_Enough.calls a1 a1 t111 _ A15.out).mono ?_); rintro e w' ⟨rfl, ⟨nd, rfl⟩⟩) | (go_at_call 11; (with_reducible refine (quorum_Enough.calls a0 a1 true _ A17.out).mono ?_); rintro e w' ⟨rfl, ⟨nd, rfl⟩⟩) | (go_at_call 13; (with_reducible refine (quorum_Third.calls a0 a1 t113 _ A19.out).mono ?_); rintro e w' ⟨rfl, ⟨nd, rfl⟩⟩))
          go_ret
          exact ⟨by first | rfl | (simp; done) | (simp [*]; done), by repeat (first | exact Drawn0.refl _ | apply Drawn0.step)⟩
        · replace c18 := Bool.eq_false_iff.mpr c18
          subst c18
          have H1 : (some true) = some r := by rw [if_neg (show ¬ (false = true) by decide)] at H; exact H
          clear H
          have H := H1
          clear H1
          obtain rfl := Option.some.inj H
          go_enter Try.func6, Try.ntmps6
          go_wp2_with (first | ((with_reducible refine gate_callee (f := 10) rfl ?_); refine goesL_ (some 9) rfl rfl Try.func10 (by kernel_rfl) rfl #[] rfl (by (try simp only [List.map_toArray, List.map_cons, List.map_nil]); first | done | rfl | (simp only [List.length_drop, List.length_take]; rfl)) ?_; (with_reducible refine (psephoslaw07_awake.calls  true _ A4.out).mono ?_); rintro e w' ⟨rfl, ⟨nd, rfl⟩⟩; refine ⟨_, rfl, ?_⟩) | ((with_reducible refine gate_callee (f := 11) rfl ?_); refine goesL_ (some 19) rfl rfl Try.func11 (by kernel_rfl) rfl #[.int .u64 (IntKind.u64.wrap (Int.tdiv a0 2)), .int .u64 a1] rfl (by (try simp only [List.map_toArray, List.map_cons, List.map_nil]); first | done | rfl | (simp only [List.length_drop, List.length_take]; rfl)) ?_; (with_reducible refine (quorum_Enough.calls (IntKind.u64.wrap (Int.tdiv a0 2)) a1 false _ A6.out).mono ?_); rintro e w' ⟨rfl, ⟨nd, rfl⟩⟩; refine ⟨_, rfl, ?_⟩) | (go_at_call 11; (with_reducible refine (quorum_Enough.calls a1 a1 t111 _ A15.out).mono ?_); rintro e w' ⟨rfl, ⟨nd, rfl⟩⟩) | (go_at_call 11; (with_reducible refine (quorum_Enough.calls a0 a1 false _ A17.out).mono ?_); rintro e w' ⟨rfl, ⟨nd, rfl⟩⟩))
          go_ret
          exact ⟨by first | rfl | (simp; done) | (simp [*]; done), by repeat (first | exact Drawn0.refl _ | apply Drawn0.step)⟩
      · rw [if_neg c16] at H
        have c16b0 : (t111 == (decide (a1 > 0))) = false := by simpa using c16
        (try (have c16b1 : decide (t111 = (decide (a1 > 0))) = false := by simpa using c16))
        (try (have c16b2 : (t111 == (decide (a1 > 0))) = false := by simpa using c16))
        (try (have c16b3 : ¬ (t111 = (decide (a1 > 0))) := by simpa using c16))
        clear c16
        obtain rfl := Option.some.inj H
        go_enter Try.func6, Try.ntmps6
        go_wp2_with (first | ((with_reducible refine gate_callee (f := 10) rfl ?_); refine goesL_ (some 9) rfl rfl Try.func10 (by kernel_rfl) rfl #[] rfl (by (try simp only [List.map_toArray, List.map_cons, List.map_nil]); first | done | rfl | (simp only [List.length_drop, List.length_take]; rfl)) ?_; (with_reducible refine (psephoslaw07_awake.calls  true _ A4.out).mono ?_); rintro e w' ⟨rfl, ⟨nd, rfl⟩⟩; refine ⟨_, rfl, ?_⟩) | ((with_reducible refine gate_callee (f := 11) rfl ?_); refine goesL_ (some 19) rfl rfl Try.func11 (by kernel_rfl) rfl #[.int .u64 (IntKind.u64.wrap (Int.tdiv a0 2)), .int .u64 a1] rfl (by (try simp only [List.map_toArray, List.map_cons, List.map_nil]); first | done | rfl | (simp only [List.length_drop, List.length_take]; rfl)) ?_; (with_reducible refine (quorum_Enough.calls (IntKind.u64.wrap (Int.tdiv a0 2)) a1 false _ A6.out).mono ?_); rintro e w' ⟨rfl, ⟨nd, rfl⟩⟩; refine ⟨_, rfl, ?_⟩) | (go_at_call 11; (with_reducible refine (quorum_Enough.calls a1 a1 t111 _ A15.out).mono ?_); rintro e w' ⟨rfl, ⟨nd, rfl⟩⟩))
        go_ret
        exact ⟨by first | rfl | (simp; done) | (simp [*]; done), by repeat (first | exact Drawn0.refl _ | apply Drawn0.step)⟩
  · replace c5 := Bool.eq_false_iff.mpr c5
    subst c5
    have H1 : (some false) = some r := by rw [if_neg (show ¬ (false = true) by decide)] at H; exact H
    clear H
    have H := H1
    clear H1
    obtain rfl := Option.some.inj H
    go_enter Try.func6, Try.ntmps6
    go_wp2_with (first | ((with_reducible refine gate_callee (f := 10) rfl ?_); refine goesL_ (some 9) rfl rfl Try.func10 (by kernel_rfl) rfl #[] rfl (by (try simp only [List.map_toArray, List.map_cons, List.map_nil]); first | done | rfl | (simp only [List.length_drop, List.length_take]; rfl)) ?_; (with_reducible refine (psephoslaw07_awake.calls  false _ A4.out).mono ?_); rintro e w' ⟨rfl, ⟨nd, rfl⟩⟩; refine ⟨_, rfl, ?_⟩))
    go_ret
    exact ⟨by first | rfl | (simp; done) | (simp [*]; done), by repeat (first | exact Drawn0.refl _ | apply Drawn0.step)⟩

/-- THE ONE PURE STATEMENT of psephoslaw07_QuorumMore: yours. -/
def psephoslaw07_QuorumMore.Pure : Prop := ∀ (a0 : Int) (a1 : Int) (a2 : Int), (Lit.int .u64 a0).wf = true → (Lit.int .u64 a1).wf = true → (Lit.int .u64 a2).wf = true → psephoslaw07_QuorumMore.f a0 a1 a2 = some true
theorem psephoslaw07_QuorumMore.walk (P : psephoslaw07_QuorumMore.Pure) (a0 : Int) (a1 : Int) (a2 : Int) (w : World) (w0 : (Lit.int .u64 a0).wf = true) (w1 : (Lit.int .u64 a1).wf = true) (w2 : (Lit.int .u64 a2).wf = true) :
    Calls Try.prog 6 #[.int .u64 a0, .int .u64 a1, .int .u64 a2] w fun e w' => e = .returned (.bool true) ∧ Below w.heap.size w w' := by
  have h := P a0 a1 a2 w0 w1 w2
  refine (psephoslaw07_QuorumMore.calls a0 a1 a2 true w h).mono ?_
  rintro e w' ⟨rfl, hd⟩
  exact ⟨rfl, hd.below⟩

end Go.Proofs.Ytopkmjicahgmaaa.PQuorumMore
