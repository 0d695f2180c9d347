-- PRINTED BY print.sh 35421559b90ae4d0a3588c463048766b98c2df88dd9212a6774a882060cdf62d: not written by this session
import Derived.Test.YtopkmjicahgmaaaPQuorumEnoughx0
namespace Go.Proofs.Ytopkmjicahgmaaa.PQuorumEnough
open Go.RowKit Go.Proofs.YtopkmjicahgmaaaW.PrintWords Go.Proofs.YtopkmjicahgmaaaW.PrintLast Go.Proofs.YtopkmjicahgmaaaW.PrintMore
attribute [local go_sem] max2_int min2_int max_two min_two max_three min_three max_four min_four   -- for this text's walks alone
set_option linter.unusedVariables false
set_option linter.unusedSimpArgs false

/-! ### quorum_Enough: function 11 -/
def quorum_Enough.f (a0 : Int) (a1 : Int) : Option (Bool) := if a1 > 0 then (some (decide (a0 ≥ (IntKind.u64.wrap ((IntKind.u64.wrap (2 * (IntKind.u64.wrap (Int.tdiv a1 3)))) + (IntKind.u64.wrap (Int.tdiv (IntKind.u64.wrap ((IntKind.u64.wrap (2 * (Int.tmod a1 3))) + 2)) 3))))))) else (some false)
set_option maxHeartbeats 8000000 in
set_option maxRecDepth 100000 in
theorem quorum_Enough.calls (a0 : Int) (a1 : Int) (r : Bool) (w : World) (h : quorum_Enough.f a0 a1 = some r) :
    Calls Try.prog 11 #[.int .u64 a0, .int .u64 a1] w fun e w' => e = .returned (.bool r) ∧ Drawn0 w w' := by
  have H : (if a1 > 0 then (some (decide (a0 ≥ (IntKind.u64.wrap ((IntKind.u64.wrap (2 * (IntKind.u64.wrap (Int.tdiv a1 3)))) + (IntKind.u64.wrap (Int.tdiv (IntKind.u64.wrap ((IntKind.u64.wrap (2 * (Int.tmod a1 3))) + 2)) 3))))))) else (some false)) = some r := h
  clear h
  by_cases c3 : a1 > 0
  · rw [if_pos c3] at H
    have c3b0 : decide (0 < a1) = true := decide_eq_true c3
    clear c3
    obtain rfl := Option.some.inj H
    go_enter Try.func11, Try.ntmps11
    go_wp2
    go_ret
    exact ⟨by first | rfl | (simp; done) | (simp [*]; done), by repeat (first | exact Drawn0.refl _ | apply Drawn0.step)⟩
  · rw [if_neg c3] at H
    have c3b0 : decide (0 < a1) = false := decide_eq_false c3
    clear c3
    obtain rfl := Option.some.inj H
    go_enter Try.func11, Try.ntmps11
    go_wp2
    go_ret
    exact ⟨by first | rfl | (simp; done) | (simp [*]; done), by repeat (first | exact Drawn0.refl _ | apply Drawn0.step)⟩

/-! ### quorum_Third: function 13 -/
def quorum_Third.f (a0 : Int) (a1 : Int) : Option (Bool) := if a1 > 0 then (some (decide (a0 ≥ (IntKind.u64.wrap ((IntKind.u64.wrap (Int.tdiv a1 3)) + (IntKind.u64.wrap (Int.tdiv (IntKind.u64.wrap ((Int.tmod a1 3) + 2)) 3))))))) else (some false)
set_option maxHeartbeats 8000000 in
set_option maxRecDepth 100000 in
theorem quorum_Third.calls (a0 : Int) (a1 : Int) (r : Bool) (w : World) (h : quorum_Third.f a0 a1 = some r) :
    Calls Try.prog 13 #[.int .u64 a0, .int .u64 a1] w fun e w' => e = .returned (.bool r) ∧ Drawn0 w w' := by
  have H : (if a1 > 0 then (some (decide (a0 ≥ (IntKind.u64.wrap ((IntKind.u64.wrap (Int.tdiv a1 3)) + (IntKind.u64.wrap (Int.tdiv (IntKind.u64.wrap ((Int.tmod a1 3) + 2)) 3))))))) else (some false)) = some r := h
  clear h
  by_cases c3 : a1 > 0
  · rw [if_pos c3] at H
    have c3b0 : decide (0 < a1) = true := decide_eq_true c3
    clear c3
    obtain rfl := Option.some.inj H
    go_enter Try.func13, Try.ntmps13
    go_wp2
    go_ret
    exact ⟨by first | rfl | (simp; done) | (simp [*]; done), by repeat (first | exact Drawn0.refl _ | apply Drawn0.step)⟩
  · rw [if_neg c3] at H
    have c3b0 : decide (0 < a1) = false := decide_eq_false c3
    clear c3
    obtain rfl := Option.some.inj H
    go_enter Try.func13, Try.ntmps13
    go_wp2
    go_ret
    exact ⟨by first | rfl | (simp; done) | (simp [*]; done), by repeat (first | exact Drawn0.refl _ | apply Drawn0.step)⟩

/-! ### quorum_Meet: function 14 -/
def quorum_Meet.f (a0 : Int) (a1 : Int) (a2 : Int) : Option (Int) := if a0 > a2 then (some 0) else (if a1 > a2 then (some 0) else (if a0 < (IntKind.u64.wrap (a2 - a1)) then (some 0) else (some (IntKind.u64.wrap (a0 - (IntKind.u64.wrap (a2 - a1)))))))
set_option maxHeartbeats 8000000 in
set_option maxRecDepth 100000 in
theorem quorum_Meet.calls (a0 : Int) (a1 : Int) (a2 : Int) (r : Int) (w : World) (h : quorum_Meet.f a0 a1 a2 = some r) :
    Calls Try.prog 14 #[.int .u64 a0, .int .u64 a1, .int .u64 a2] w fun e w' => e = .returned (.int .u64 r) ∧ Drawn0 w w' := by
  have H : (if a0 > a2 then (some 0) else (if a1 > a2 then (some 0) else (if a0 < (IntKind.u64.wrap (a2 - a1)) then (some 0) else (some (IntKind.u64.wrap (a0 - (IntKind.u64.wrap (a2 - a1)))))))) = some r := h
  clear h
  by_cases c4 : a0 > a2
  · rw [if_pos c4] at H
    have c4b0 : decide (a2 < a0) = true := decide_eq_true c4
    clear c4
    obtain rfl := Option.some.inj H
    go_enter Try.func14, Try.ntmps14
    go_wp2
    go_ret
    exact ⟨by first | rfl | (simp; done) | (simp [*]; done), by repeat (first | exact Drawn0.refl _ | apply Drawn0.step)⟩
  · rw [if_neg c4] at H
    have c4b0 : decide (a2 < a0) = false := decide_eq_false c4
    clear c4
    by_cases c5 : a1 > a2
    · rw [if_pos c5] at H
      have c5b0 : decide (a2 < a1) = true := decide_eq_true c5
      clear c5
      obtain rfl := Option.some.inj H
      go_enter Try.func14, Try.ntmps14
      go_wp2
      go_ret
      exact ⟨by first | rfl | (simp; done) | (simp [*]; done), by repeat (first | exact Drawn0.refl _ | apply Drawn0.step)⟩
    · rw [if_neg c5] at H
      have c5b0 : decide (a2 < a1) = false := decide_eq_false c5
      clear c5
      by_cases c6 : a0 < (IntKind.u64.wrap (a2 - a1))
      · rw [if_pos c6] at H
        have c6b0 : decide (a0 < (IntKind.u64.wrap (a2 - a1))) = true := decide_eq_true c6
        clear c6
        obtain rfl := Option.some.inj H
        go_enter Try.func14, Try.ntmps14
        go_wp2
        go_ret
        exact ⟨by first | rfl | (simp; done) | (simp [*]; done), by repeat (first | exact Drawn0.refl _ | apply Drawn0.step)⟩
      · rw [if_neg c6] at H
        have c6b0 : decide (a0 < (IntKind.u64.wrap (a2 - a1))) = false := decide_eq_false c6
        clear c6
        obtain rfl := Option.some.inj H
        go_enter Try.func14, Try.ntmps14
        go_wp2
        go_ret
        exact ⟨by first | rfl | (simp; done) | (simp [*]; done), by repeat (first | exact Drawn0.refl _ | apply Drawn0.step)⟩

/-! ### psephoslaw07_awake: function 10 -/
def psephoslaw07_awake.f  : Option (Bool) := (quorum_Enough.f 2 3).bind fun t101 => (if t101 = true then ((quorum_Enough.f 1 2).bind fun t102 => (if t102 = true then (some false) else ((quorum_Third.f 1 3).bind fun t103 => (if t103 = true then ((quorum_Meet.f 2 2 3).bind fun t104 => (some (t104 == 1))) else (some false))))) else (some false))
set_option maxHeartbeats 8000000 in
set_option maxRecDepth 100000 in
theorem psephoslaw07_awake.calls  (r : Bool) (w : World) (h : psephoslaw07_awake.f  = some r) :
    Calls Try.prog 10 #[] w fun e w' => e = .returned (.bool r) ∧ Drawn0 w w' := by
  have H : ((quorum_Enough.f 2 3).bind fun t101 => (if t101 = true then ((quorum_Enough.f 1 2).bind fun t102 => (if t102 = true then (some false) else ((quorum_Third.f 1 3).bind fun t103 => (if t103 = true then ((quorum_Meet.f 2 2 3).bind fun t104 => (some (t104 == 1))) else (some false))))) else (some false))) = some r := h
  clear h
  replace H := Option.bind_eq_some_iff.mp H
  obtain ⟨t101, A10, H⟩ := H
  replace H : (if t101 = true then ((quorum_Enough.f 1 2).bind fun t102 => (if t102 = true then (some false) else ((quorum_Third.f 1 3).bind fun t103 => (if t103 = true then ((quorum_Meet.f 2 2 3).bind fun t104 => (some (t104 == 1))) else (some false))))) else (some false)) = some r := H
  have A1 := Aside0.mk A10
  clear A10
  by_cases c2 : t101 = true
  · subst c2
    have H1 : ((quorum_Enough.f 1 2).bind fun t102 => (if t102 = true then (some false) else ((quorum_Third.f 1 3).bind fun t103 => (if t103 = true then ((quorum_Meet.f 2 2 3).bind fun t104 => (some (t104 == 1))) else (some false))))) = some r := by rw [if_pos rfl] at H; exact H
    clear H
    have H := H1
    clear H1
    replace H := Option.bind_eq_some_iff.mp H
    obtain ⟨t102, A30, H⟩ := H
    replace H : (if t102 = true then (some false) else ((quorum_Third.f 1 3).bind fun t103 => (if t103 = true then ((quorum_Meet.f 2 2 3).bind fun t104 => (some (t104 == 1))) else (some false)))) = some r := H
    have A3 := Aside0.mk A30
    clear A30
    by_cases c4 : t102 = true
    · subst c4
      have H1 : (some false) = some r := by rw [if_pos rfl] at H; exact H
      clear H
      have H := H1
      clear H1
      obtain rfl := Option.some.inj H
      go_enter Try.func10, Try.ntmps10
      go_wp2_with (first | ((with_reducible refine gate_callee (f := 11) rfl ?_); refine goesL_ (some 1) rfl rfl Try.func11 (by kernel_rfl) rfl #[.int .u64 2, .int .u64 3] rfl (by (try simp only [List.map_toArray, List.map_cons, List.map_nil]); first | done | rfl | (simp only [List.length_drop, List.length_take]; rfl)) ?_; (with_reducible refine (quorum_Enough.calls 2 3 true _ A1.out).mono ?_); rintro e w' ⟨rfl, ⟨nd, rfl⟩⟩; refine ⟨_, rfl, ?_⟩) | (go_at_call 11; (with_reducible refine (quorum_Enough.calls 1 2 true _ A3.out).mono ?_); rintro e w' ⟨rfl, ⟨nd, rfl⟩⟩))
      go_ret
      exact ⟨by first | rfl | (simp; done) | (simp [*]; done), by repeat (first | exact Drawn0.refl _ | apply Drawn0.step)⟩
    · replace c4 := Bool.eq_false_iff.mpr c4
      subst c4
      have H1 : ((quorum_Third.f 1 3).bind fun t103 => (if t103 = true then ((quorum_Meet.f 2 2 3).bind fun t104 => (some (t104 == 1))) else (some false))) = some r := by rw [if_neg (show ¬ (false = true) by decide)] at H; exact H
      clear H
      have H := H1
      clear H1
      replace H := Option.bind_eq_some_iff.mp H
      obtain ⟨t103, A50, H⟩ := H
      replace H : (if t103 = true then ((quorum_Meet.f 2 2 3).bind fun t104 => (some (t104 == 1))) else (some false)) = some r := H
      have A5 := Aside0.mk A50
      clear A50
      by_cases c6 : t103 = true
      · subst c6
        have H1 : ((quorum_Meet.f 2 2 3).bind fun t104 => (some (t104 == 1))) = some r := by rw [if_pos rfl] at H; exact H
        clear H
        have H := H1
        clear H1
        replace H := Option.bind_eq_some_iff.mp H
        obtain ⟨t104, A70, H⟩ := H
        replace H : (some (t104 == 1)) = some r := H
        have A7 := Aside0.mk A70
        clear A70
        obtain rfl := Option.some.inj H
        go_enter Try.func10, Try.ntmps10
        go_wp2_with (first | ((with_reducible refine gate_callee (f := 11) rfl ?_); refine goesL_ (some 1) rfl rfl Try.func11 (by kernel_rfl) rfl #[.int .u64 2, .int .u64 3] rfl (by (try simp only [List.map_toArray, List.map_cons, List.map_nil]); first | done | rfl | (simp only [List.length_drop, List.length_take]; rfl)) ?_; (with_reducible refine (quorum_Enough.calls 2 3 true _ A1.out).mono ?_); rintro e w' ⟨rfl, ⟨nd, rfl⟩⟩; refine ⟨_, rfl, ?_⟩) | (go_at_call 11; (with_reducible refine (quorum_Enough.calls 1 2 false _ A3.out).mono ?_); rintro e w' ⟨rfl, ⟨nd, rfl⟩⟩) | (go_at_call 13; (with_reducible refine (quorum_Third.calls 1 3 true _ A5.out).mono ?_); rintro e w' ⟨rfl, ⟨nd, rfl⟩⟩) | (go_at_call 14; (with_reducible refine (quorum_Meet.calls 2 2 3 t104 _ A7.out).mono ?_); rintro e w' ⟨rfl, ⟨nd, rfl⟩⟩))
        go_ret
        exact ⟨by first | rfl | (simp; done) | (simp [*]; done), by repeat (first | exact Drawn0.refl _ | apply Drawn0.step)⟩
      · replace c6 := Bool.eq_false_iff.mpr c6
        subst c6
        have H1 : (some false) = some r := by rw [if_neg (show ¬ (false = true) by decide)] at H; exact H
        clear H
        have H := H1
        clear H1
        obtain rfl := Option.some.inj H
        go_enter Try.func10, Try.ntmps10
        go_wp2_with (first | ((with_reducible refine gate_callee (f := 11) rfl ?_); refine goesL_ (some 1) rfl rfl Try.func11 (by kernel_rfl) rfl #[.int .u64 2, .int .u64 3] rfl (by (try simp only [List.map_toArray, List.map_cons, List.map_nil]); first | done | rfl | (simp only [List.length_drop, List.length_take]; rfl)) ?_; (with_reducible refine (quorum_Enough.calls 2 3 true _ A1.out).mono ?_); rintro e w' ⟨rfl, ⟨nd, rfl⟩⟩; refine ⟨_, rfl, ?_⟩) | (go_at_call 11; (with_reducible refine (quorum_Enough.calls 1 2 false _ A3.out).mono ?_); rintro e w' ⟨rfl, ⟨nd, rfl⟩⟩) | (go_at_call 13; (with_reducible refine (quorum_Third.calls 1 3 false _ A5.out).mono ?_); rintro e w' ⟨rfl, ⟨nd, rfl⟩⟩))
        go_ret
        exact ⟨by first | rfl | (simp; done) | (simp [*]; done), by repeat (first | exact Drawn0.refl _ | apply Drawn0.step)⟩
  · replace c2 := Bool.eq_false_iff.mpr c2
    subst c2
    have H1 : (some false) = some r := by rw [if_neg (show ¬ (false = true) by decide)] at H; exact H
    clear H
    have H := H1
    clear H1
    obtain rfl := Option.some.inj H
    go_enter Try.func10, Try.ntmps10
    go_wp2_with (first | ((with_reducible refine gate_callee (f := 11) rfl ?_); refine goesL_ (some 1) rfl rfl Try.func11 (by kernel_rfl) rfl #[.int .u64 2, .int .u64 3] rfl (by (try simp only [List.map_toArray, List.map_cons, List.map_nil]); first | done | rfl | (simp only [List.length_drop, List.length_take]; rfl)) ?_; (with_reducible refine (quorum_Enough.calls 2 3 false _ A1.out).mono ?_); rintro e w' ⟨rfl, ⟨nd, rfl⟩⟩; refine ⟨_, rfl, ?_⟩))
    go_ret
    exact ⟨by first | rfl | (simp; done) | (simp [*]; done), by repeat (first | exact Drawn0.refl _ | apply Drawn0.step)⟩

/-! ### psephoslaw07_times: function 15 -/
def psephoslaw07_times.f (a0 : Int) (a1 : Int) : Option (Int × Int) := some (IntKind.u64.wrap ((IntKind.u64.wrap ((a0 / 4294967296) * a1)) + ((IntKind.u64.wrap ((Int.tmod a0 4294967296) * a1)) / 4294967296)), Int.tmod (IntKind.u64.wrap ((Int.tmod a0 4294967296) * a1)) 4294967296)
set_option maxHeartbeats 8000000 in
set_option maxRecDepth 100000 in
theorem psephoslaw07_times.calls (a0 : Int) (a1 : Int) (r1 : Int) (r2 : Int) (w : World) (h : psephoslaw07_times.f a0 a1 = some (r1, r2)) :
    Calls Try.prog 15 #[.int .u64 a0, .int .u64 a1] w fun e w' => e = .returned (.tuple #[.int .u64 r1, .int .u64 r2]) ∧ Drawn0 w w' := by
  have H : (some (IntKind.u64.wrap ((IntKind.u64.wrap ((a0 / 4294967296) * a1)) + ((IntKind.u64.wrap ((Int.tmod a0 4294967296) * a1)) / 4294967296)), Int.tmod (IntKind.u64.wrap ((Int.tmod a0 4294967296) * a1)) 4294967296)) = some (r1, r2) := h
  clear h
  simp only [Option.some.injEq, Prod.mk.injEq] at H
  obtain ⟨rfl, rfl⟩ := H
  go_enter Try.func15, Try.ntmps15
  go_wp2
  go_ret2
  exact ⟨by first | rfl | (simp; done) | (simp [*]; done), by repeat (first | exact Drawn0.refl _ | apply Drawn0.step)⟩

/-! ### psephoslaw07_atLeast: function 12 -/
def psephoslaw07_atLeast.f (a0 : Int) (a1 : Int) (a2 : Int) (a3 : Int) : Option (Bool) := (psephoslaw07_times.f a0 a1).bind fun bt105 => ((psephoslaw07_times.f a2 a3).bind fun bt107 => (if bt105.1 > bt107.1 then (some true) else (if bt105.1 = bt107.1 then (some (decide (bt105.2 ≥ bt107.2))) else (some false))))
set_option maxHeartbeats 8000000 in
set_option maxRecDepth 100000 in
theorem psephoslaw07_atLeast.calls (a0 : Int) (a1 : Int) (a2 : Int) (a3 : Int) (r : Bool) (w : World) (h : psephoslaw07_atLeast.f a0 a1 a2 a3 = some r) :
    Calls Try.prog 12 #[.int .u64 a0, .int .u64 a1, .int .u64 a2, .int .u64 a3] w fun e w' => e = .returned (.bool r) ∧ Drawn0 w w' := by
  have H : ((psephoslaw07_times.f a0 a1).bind fun bt105 => ((psephoslaw07_times.f a2 a3).bind fun bt107 => (if bt105.1 > bt107.1 then (some true) else (if bt105.1 = bt107.1 then (some (decide (bt105.2 ≥ bt107.2))) else (some false))))) = some r := h
  clear h
  replace H := Option.bind_eq_some_iff.mp H
  obtain ⟨⟨t105, t106⟩, A50, H⟩ := H
  replace H : ((psephoslaw07_times.f a2 a3).bind fun bt107 => (if t105 > bt107.1 then (some true) else (if t105 = bt107.1 then (some (decide (t106 ≥ bt107.2))) else (some false)))) = some r := H
  have A5 := Aside0.mk A50
  clear A50
  replace H := Option.bind_eq_some_iff.mp H
  obtain ⟨⟨t107, t108⟩, A60, H⟩ := H
  replace H : (if t105 > t107 then (some true) else (if t105 = t107 then (some (decide (t106 ≥ t108))) else (some false))) = some r := H
  have A6 := Aside0.mk A60
  clear A60
  by_cases c7 : t105 > t107
  · rw [if_pos c7] at H
    have c7b0 : decide (t107 < t105) = true := decide_eq_true c7
    clear c7
    obtain rfl := Option.some.inj H
    go_enter Try.func12, Try.ntmps12
    go_wp2_with (first | ((with_reducible refine gate_callee (f := 15) rfl ?_); refine goesL_ (some 16) rfl rfl Try.func15 (by kernel_rfl) rfl #[.int .u64 a0, .int .u64 a1] rfl (by (try simp only [List.map_toArray, List.map_cons, List.map_nil]); first | done | rfl | (simp only [List.length_drop, List.length_take]; rfl)) ?_; (with_reducible refine (psephoslaw07_times.calls a0 a1 t105 t106 _ A5.out).mono ?_); rintro e w' ⟨rfl, ⟨nd, rfl⟩⟩; refine ⟨_, rfl, ?_⟩) | ((with_reducible refine gate_callee (f := 15) rfl ?_); refine goesL_ (some 22) rfl rfl Try.func15 (by kernel_rfl) rfl #[.int .u64 a2, .int .u64 a3] rfl (by (try simp only [List.map_toArray, List.map_cons, List.map_nil]); first | done | rfl | (simp only [List.length_drop, List.length_take]; rfl)) ?_; (with_reducible refine (psephoslaw07_times.calls a2 a3 t107 t108 _ A6.out).mono ?_); rintro e w' ⟨rfl, ⟨nd, rfl⟩⟩; refine ⟨_, rfl, ?_⟩))
    go_ret
    exact ⟨by first | rfl | (simp; done) | (simp [*]; done), by repeat (first | exact Drawn0.refl _ | apply Drawn0.step)⟩
  · rw [if_neg c7] at H
    have c7b0 : decide (t107 < t105) = false := decide_eq_false c7
    clear c7
    by_cases c8 : t105 = t107
    · rw [if_pos c8] at H
      have c8b0 : (t105 == t107) = true := beq_iff_eq.mpr c8
      have c8b1 : (t105 != t107) = false := bne_eq_false_iff_eq.mpr c8
      clear c8
      obtain rfl := Option.some.inj H
      go_enter Try.func12, Try.ntmps12
      go_wp2_with (first | ((with_reducible refine gate_callee (f := 15) rfl ?_); refine goesL_ (some 16) rfl rfl Try.func15 (by kernel_rfl) rfl #[.int .u64 a0, .int .u64 a1] rfl (by (try simp only [List.map_toArray, List.map_cons, List.map_nil]); first | done | rfl | (simp only [List.length_drop, List.length_take]; rfl)) ?_; (with_reducible refine (psephoslaw07_times.calls a0 a1 t105 t106 _ A5.out).mono ?_); rintro e w' ⟨rfl, ⟨nd, rfl⟩⟩; refine ⟨_, rfl, ?_⟩) | ((with_reducible refine gate_callee (f := 15) rfl ?_); refine goesL_ (some 22) rfl rfl Try.func15 (by kernel_rfl) rfl #[.int .u64 a2, .int .u64 a3] rfl (by (try simp only [List.map_toArray, List.map_cons, List.map_nil]); first | done | rfl | (simp only [List.length_drop, List.length_take]; rfl)) ?_; (with_reducible refine (psephoslaw07_times.calls a2 a3 t107 t108 _ A6.out).mono ?_); rintro e w' ⟨rfl, ⟨nd, rfl⟩⟩; refine ⟨_, rfl, ?_⟩))
      go_ret
      exact ⟨by first | rfl | (simp; done) | (simp [*]; done), by repeat (first | exact Drawn0.refl _ | apply Drawn0.step)⟩
    · rw [if_neg c8] at H
      have c8b0 : (t105 == t107) = false := beq_eq_false_iff_ne.mpr c8
      have c8b1 : (t105 != t107) = true := bne_iff_ne.mpr c8
      obtain rfl := Option.some.inj H
      go_enter Try.func12, Try.ntmps12
      go_wp2_with (first | ((with_reducible refine gate_callee (f := 15) rfl ?_); refine goesL_ (some 16) rfl rfl Try.func15 (by kernel_rfl) rfl #[.int .u64 a0, .int .u64 a1] rfl (by (try simp only [List.map_toArray, List.map_cons, List.map_nil]); first | done | rfl | (simp only [List.length_drop, List.length_take]; rfl)) ?_; (with_reducible refine (psephoslaw07_times.calls a0 a1 t105 t106 _ A5.out).mono ?_); rintro e w' ⟨rfl, ⟨nd, rfl⟩⟩; refine ⟨_, rfl, ?_⟩) | ((with_reducible refine gate_callee (f := 15) rfl ?_); refine goesL_ (some 22) rfl rfl Try.func15 (by kernel_rfl) rfl #[.int .u64 a2, .int .u64 a3] rfl (by (try simp only [List.map_toArray, List.map_cons, List.map_nil]); first | done | rfl | (simp only [List.length_drop, List.length_take]; rfl)) ?_; (with_reducible refine (psephoslaw07_times.calls a2 a3 t107 t108 _ A6.out).mono ?_); rintro e w' ⟨rfl, ⟨nd, rfl⟩⟩; refine ⟨_, rfl, ?_⟩))
      go_ret
      exact ⟨by first | rfl | (simp; done) | (simp [*]; done), by repeat (first | exact Drawn0.refl _ | apply Drawn0.step)⟩

/-! ### psephoslaw07_QuorumEnough: function 3 -/
def psephoslaw07_QuorumEnough.f (a0 : Int) (a1 : Int) : Option (Bool) := (psephoslaw07_awake.f).bind fun t109 => (if t109 = true then ((quorum_Enough.f a0 a1).bind fun t110 => (if a1 > 0 then ((psephoslaw07_atLeast.f a0 3 a1 2).bind fun t111 => (if (t110 == t111) = true then ((quorum_Third.f a0 a1).bind fun t112 => ((psephoslaw07_atLeast.f a0 3 a1 1).bind fun t113 => (some (t112 == t113)))) else (some false))) else (if (t110 == false) = true then ((quorum_Third.f a0 a1).bind fun t114 => (some (t114 == false))) else (some false)))) else (some false))
set_option maxHeartbeats 8000000 in
set_option maxRecDepth 100000 in
theorem psephoslaw07_QuorumEnough.calls (a0 : Int) (a1 : Int) (r : Bool) (w : World) (h : psephoslaw07_QuorumEnough.f a0 a1 = some r) :
    Calls Try.prog 3 #[.int .u64 a0, .int .u64 a1] w fun e w' => e = .returned (.bool r) ∧ Drawn0 w w' := by
  have H : ((psephoslaw07_awake.f).bind fun t109 => (if t109 = true then ((quorum_Enough.f a0 a1).bind fun t110 => (if a1 > 0 then ((psephoslaw07_atLeast.f a0 3 a1 2).bind fun t111 => (if (t110 == t111) = true then ((quorum_Third.f a0 a1).bind fun t112 => ((psephoslaw07_atLeast.f a0 3 a1 1).bind fun t113 => (some (t112 == t113)))) else (some false))) else (if (t110 == false) = true then ((quorum_Third.f a0 a1).bind fun t114 => (some (t114 == false))) else (some false)))) else (some false))) = some r := h
  clear h
  replace H := Option.bind_eq_some_iff.mp H
  obtain ⟨t109, A30, H⟩ := H
  replace H : (if t109 = true then ((quorum_Enough.f a0 a1).bind fun t110 => (if a1 > 0 then ((psephoslaw07_atLeast.f a0 3 a1 2).bind fun t111 => (if (t110 == t111) = true then ((quorum_Third.f a0 a1).bind fun t112 => ((psephoslaw07_atLeast.f a0 3 a1 1).bind fun t113 => (some (t112 == t113)))) else (some false))) else (if (t110 == false) = true then ((quorum_Third.f a0 a1).bind fun t114 => (some (t114 == false))) else (some false)))) else (some false)) = some r := H
  have A3 := Aside0.mk A30
  clear A30
  by_cases c4 : t109 = true
  · subst c4
    have H1 : ((quorum_Enough.f a0 a1).bind fun t110 => (if a1 > 0 then ((psephoslaw07_atLeast.f a0 3 a1 2).bind fun t111 => (if (t110 == t111) = true then ((quorum_Third.f a0 a1).bind fun t112 => ((psephoslaw07_atLeast.f a0 3 a1 1).bind fun t113 => (some (t112 == t113)))) else (some false))) else (if (t110 == false) = true then ((quorum_Third.f a0 a1).bind fun t114 => (some (t114 == false))) else (some false)))) = some r := by rw [if_pos rfl] at H; exact H
    clear H
    have H := H1
    clear H1
    replace H := Option.bind_eq_some_iff.mp H
    obtain ⟨t110, A50, H⟩ := H
    replace H : (if a1 > 0 then ((psephoslaw07_atLeast.f a0 3 a1 2).bind fun t111 => (if (t110 == t111) = true then ((quorum_Third.f a0 a1).bind fun t112 => ((psephoslaw07_atLeast.f a0 3 a1 1).bind fun t113 => (some (t112 == t113)))) else (some false))) else (if (t110 == false) = true then ((quorum_Third.f a0 a1).bind fun t114 => (some (t114 == false))) else (some false))) = some r := H
    have A5 := Aside0.mk A50
    clear A50
    by_cases c6 : a1 > 0
    · rw [if_pos c6] at H
      have c6b0 : decide (0 < a1) = true := decide_eq_true c6
      clear c6
      replace H := Option.bind_eq_some_iff.mp H
      obtain ⟨t111, A70, H⟩ := H
      replace H : (if (t110 == t111) = true then ((quorum_Third.f a0 a1).bind fun t112 => ((psephoslaw07_atLeast.f a0 3 a1 1).bind fun t113 => (some (t112 == t113)))) else (some false)) = some r := H
      have A7 := Aside0.mk A70
      clear A70
      by_cases c8 : (t110 == t111) = true
      · rw [if_pos c8] at H
        have c8b0 : (t110 == t111) = true := c8
        (try (have c8b1 : decide (t110 = t111) = true := by simpa using c8))
        (try (have c8b2 : (t110 == t111) = true := by simpa using c8))
        clear c8
        replace H := Option.bind_eq_some_iff.mp H
        obtain ⟨t112, A90, H⟩ := H
        replace H : ((psephoslaw07_atLeast.f a0 3 a1 1).bind fun t113 => (some (t112 == t113))) = some r := H
        have A9 := Aside0.mk A90
        clear A90
        replace H := Option.bind_eq_some_iff.mp H
        obtain ⟨t113, A100, H⟩ := H
        replace H : (some (t112 == t113)) = some r := H
        have A10 := Aside0.mk A100
        clear A100
        obtain rfl := Option.some.inj H
        go_enter Try.func3, Try.ntmps3
        go_wp2_with (first | ((with_reducible refine gate_callee (f := 10) rfl ?_); refine goesL_ (some 5) rfl rfl Try.func10 (by kernel_rfl) rfl #[] rfl (by (try simp only [List.map_toArray, List.map_cons, List.map_nil]); first | done | rfl | (simp only [List.length_drop, List.length_take]; rfl)) ?_; (with_reducible refine (psephoslaw07_awake.calls  true _ A3.out).mono ?_); rintro e w' ⟨rfl, ⟨nd, rfl⟩⟩; refine ⟨_, rfl, ?_⟩) | ((with_reducible refine gate_callee (f := 11) rfl ?_); refine goesL_ (some 9) rfl rfl Try.func11 (by kernel_rfl) rfl #[.int .u64 a0, .int .u64 a1] rfl (by (try simp only [List.map_toArray, List.map_cons, List.map_nil]); first | done | rfl | (simp only [List.length_drop, List.length_take]; rfl)) ?_; (with_reducible refine (quorum_Enough.calls a0 a1 t110 _ A5.out).mono ?_); rintro e w' ⟨rfl, ⟨nd, rfl⟩⟩; refine ⟨_, rfl, ?_⟩) | (go_at_call 12; (with_reducible refine (psephoslaw07_atLeast.calls a0 3 a1 2 t111 _ A7.out).mono ?_); rintro e w' ⟨rfl, ⟨nd, rfl⟩⟩) | (go_at_call 13; (with_reducible refine (quorum_Third.calls a0 a1 t112 _ A9.out).mono ?_); rintro e w' ⟨rfl, ⟨nd, rfl⟩⟩) | (go_at_call 12; (with_reducible refine (psephoslaw07_atLeast.calls a0 3 a1 1 t113 _ A10.out).mono ?_); rintro e w' ⟨rfl, ⟨nd, rfl⟩⟩))
        go_ret
        exact ⟨by first | rfl | (simp; done) | (simp [*]; done), by repeat (first | exact Drawn0.refl _ | apply Drawn0.step)⟩
      · rw [if_neg c8] at H
        have c8b0 : (t110 == t111) = false := by simpa using c8
        (try (have c8b1 : decide (t110 = t111) = false := by simpa using c8))
        (try (have c8b2 : (t110 == t111) = false := by simpa using c8))
        (try (have c8b3 : ¬ (t110 = t111) := by simpa using c8))
        clear c8
        obtain rfl := Option.some.inj H
        go_enter Try.func3, Try.ntmps3
        go_wp2_with (first | ((with_reducible refine gate_callee (f := 10) rfl ?_); refine goesL_ (some 5) rfl rfl Try.func10 (by kernel_rfl) rfl #[] rfl (by (try simp only [List.map_toArray, List.map_cons, List.map_nil]); first | done | rfl | (simp only [List.length_drop, List.length_take]; rfl)) ?_; (with_reducible refine (psephoslaw07_awake.calls  true _ A3.out).mono ?_); rintro e w' ⟨rfl, ⟨nd, rfl⟩⟩; refine ⟨_, rfl, ?_⟩) | ((with_reducible refine gate_callee (f := 11) rfl ?_); refine goesL_ (some 9) rfl rfl Try.func11 (by kernel_rfl) rfl #[.int .u64 a0, .int .u64 a1] rfl (by (try simp only [List.map_toArray, List.map_cons, List.map_nil]); first | done | rfl | (simp only [List.length_drop, List.length_take]; rfl)) ?_; (with_reducible refine (quorum_Enough.calls a0 a1 t110 _ A5.out).mono ?_); rintro e w' ⟨rfl, ⟨nd, rfl⟩⟩; refine ⟨_, rfl, ?_⟩) | (go_at_call 12; (with_reducible refine (psephoslaw07_atLeast.calls a0 3 a1 2 t111 _ A7.out).mono ?_); rintro e w' ⟨rfl, ⟨nd, rfl⟩⟩))
        go_ret
        exact ⟨by first | rfl | (simp; done) | (simp [*]; done), by repeat (first | exact Drawn0.refl _ | apply Drawn0.step)⟩
    · rw [if_neg c6] at H
      have c6b0 : decide (0 < a1) = false := decide_eq_false c6
      clear c6
      by_cases c11 : (t110 == false) = true
      · rw [if_pos c11] at H
        have c11b0 : (t110 == false) = true := c11
        (try (have c11b1 : decide (t110 = false) = true := by simpa using c11))
        (try (have c11b2 : (t110 == false) = true := by simpa using c11))
        clear c11
        replace H := Option.bind_eq_some_iff.mp H
        obtain ⟨t114, A120, H⟩ := H
        replace H : (some (t114 == false)) = some r := H
        have A12 := Aside0.mk A120
        clear A120
        obtain rfl := Option.some.inj H
        go_enter Try.func3, Try.ntmps3
        go_wp2_with (first | ((with_reducible refine gate_callee (f := 10) rfl ?_); refine goesL_ (some 5) rfl rfl Try.func10 (by kernel_rfl) rfl #[] rfl (by (try simp only [List.map_toArray, List.map_cons, List.map_nil]); first | done | rfl | (simp only [List.length_drop, List.length_take]; rfl)) ?_; (with_reducible refine (psephoslaw07_awake.calls  true _ A3.out).mono ?_); rintro e w' ⟨rfl, ⟨nd, rfl⟩⟩; refine ⟨_, rfl, ?_⟩) | ((with_reducible refine gate_callee (f := 11) rfl ?_); refine goesL_ (some 9) rfl rfl Try.func11 (by kernel_rfl) rfl #[.int .u64 a0, .int .u64 a1] rfl (by (try simp only [List.map_toArray, List.map_cons, List.map_nil]); first | done | rfl | (simp only [List.length_drop, List.length_take]; rfl)) ?_; (with_reducible refine (quorum_Enough.calls a0 a1 t110 _ A5.out).mono ?_); rintro e w' ⟨rfl, ⟨nd, rfl⟩⟩; refine ⟨_, rfl, ?_⟩) | (go_at_call 13; (with_reducible refine (quorum_Third.calls a0 a1 t114 _ A12.out).mono ?_); rintro e w' ⟨rfl, ⟨nd, rfl⟩⟩))
        go_ret
        exact ⟨by first | rfl | (simp; done) | (simp [*]; done), by repeat (first | exact Drawn0.refl _ | apply Drawn0.step)⟩
      · rw [if_neg c11] at H
        have c11b0 : (t110 == false) = false := by simpa using c11
        (try (have c11b1 : decide (t110 = false) = false := by simpa using c11))
        (try (have c11b2 : (t110 == false) = false := by simpa using c11))
        (try (have c11b3 : ¬ (t110 = false) := by simpa using c11))
        clear c11
        obtain rfl := Option.some.inj H
        go_enter Try.func3, Try.ntmps3
        go_wp2_with (first | ((with_reducible refine gate_callee (f := 10) rfl ?_); refine goesL_ (some 5) rfl rfl Try.func10 (by kernel_rfl) rfl #[] rfl (by (try simp only [List.map_toArray, List.map_cons, List.map_nil]); first | done | rfl | (simp only [List.length_drop, List.length_take]; rfl)) ?_; (with_reducible refine (psephoslaw07_awake.calls  true _ A3.out).mono ?_); rintro e w' ⟨rfl, ⟨nd, rfl⟩⟩; refine ⟨_, rfl, ?_⟩) | ((with_reducible refine gate_callee (f := 11) rfl ?_); refine goesL_ (some 9) rfl rfl Try.func11 (by kernel_rfl) rfl #[.int .u64 a0, .int .u64 a1] rfl (by (try simp only [List.map_toArray, List.map_cons, List.map_nil]); first | done | rfl | (simp only [List.length_drop, List.length_take]; rfl)) ?_; (with_reducible refine (quorum_Enough.calls a0 a1 t110 _ A5.out).mono ?_); rintro e w' ⟨rfl, ⟨nd, rfl⟩⟩; refine ⟨_, rfl, ?_⟩))
        go_ret
        exact ⟨by first | rfl | (simp; done) | (simp [*]; done), by repeat (first | exact Drawn0.refl _ | apply Drawn0.step)⟩
  · replace c4 := Bool.eq_false_iff.mpr c4
    subst c4
    have H1 : (some false) = some r := by rw [if_neg (show ¬ (false = true) by decide)] at H; exact H
    clear H
    have H := H1
    clear H1
    obtain rfl := Option.some.inj H
    go_enter Try.func3, Try.ntmps3
    go_wp2_with (first | ((with_reducible refine gate_callee (f := 10) rfl ?_); refine goesL_ (some 5) rfl rfl Try.func10 (by kernel_rfl) rfl #[] rfl (by (try simp only [List.map_toArray, List.map_cons, List.map_nil]); first | done | rfl | (simp only [List.length_drop, List.length_take]; rfl)) ?_; (with_reducible refine (psephoslaw07_awake.calls  false _ A3.out).mono ?_); rintro e w' ⟨rfl, ⟨nd, rfl⟩⟩; refine ⟨_, rfl, ?_⟩))
    go_ret
    exact ⟨by first | rfl | (simp; done) | (simp [*]; done), by repeat (first | exact Drawn0.refl _ | apply Drawn0.step)⟩

/-- THE ONE PURE STATEMENT of psephoslaw07_QuorumEnough: yours. -/
def psephoslaw07_QuorumEnough.Pure : Prop := ∀ (a0 : Int) (a1 : Int), (Lit.int .u64 a0).wf = true → (Lit.int .u64 a1).wf = true → psephoslaw07_QuorumEnough.f a0 a1 = some true
theorem psephoslaw07_QuorumEnough.walk (P : psephoslaw07_QuorumEnough.Pure) (a0 : Int) (a1 : Int) (w : World) (w0 : (Lit.int .u64 a0).wf = true) (w1 : (Lit.int .u64 a1).wf = true) :
    Calls Try.prog 3 #[.int .u64 a0, .int .u64 a1] w fun e w' => e = .returned (.bool true) ∧ Below w.heap.size w w' := by
  have h := P a0 a1 w0 w1
  refine (psephoslaw07_QuorumEnough.calls a0 a1 true w h).mono ?_
  rintro e w' ⟨rfl, hd⟩
  exact ⟨rfl, hd.below⟩

end Go.Proofs.Ytopkmjicahgmaaa.PQuorumEnough
