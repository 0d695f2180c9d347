-- PRINTED BY print.sh 35421559b90ae4d0a3588c463048766b98c2df88dd9212a6774a882060cdf62d: not written by this session
import Derived.Test.YtadncnpgekkjbaaPLatestBanx0
import Derived.Test.YtadncnpgekkjbaaPLatestBanx1
namespace Go.Proofs.Ytadncnpgekkjbaa.PLatestBan
open Go.RowKit Go.Proofs.YtadncnpgekkjbaaW.PrintWords Go.Proofs.YtadncnpgekkjbaaW.PrintLast Go.Proofs.YtadncnpgekkjbaaW.PrintMore
attribute [local go_sem] max2_int min2_int max_two min_two max_three min_three max_four min_four   -- for this text's walks alone
set_option linter.unusedVariables false
set_option linter.unusedSimpArgs false

/-! ### psephoslaw11_LatestBan: function 6 -/
mutual
def psephoslaw11_LatestBan.l0 : Nat → Int → Int → Int → Int → List (S33) → Int → Option (Bool)
  | 0, _, _, _, _, _, _ => none
  | k + 1, x1, x2, x3, x9, x10, x11 => if x11 < x9 then ((latest_Votes_Take.f x10 x11 (wrap64 (x2)) (IntKind.u64.wrap (x3 + (IntKind.u64.wrap (x11))))).bind fun bt131 => (if bt131.1 = true then (psephoslaw11_LatestBan.l0 k x1 x2 x3 x9 bt131.2 (wrap64 (x11 + 1))) else (some false))) else (if x9 = 0 then (none) else ((latest_Votes_Ban.f x10 (Int.tmod (wrap64 (x1)) x9)).bind fun bt133 => ((latest_Votes_Take.f bt133.2 (Int.tmod (wrap64 (x1)) x9) (wrap64 ((wrap64 (x2)) + 1)) 5).bind fun bt135 => (psephoslaw11_LatestBan.l1 k x3 x9 bt135.2 (Int.tmod (wrap64 (x1)) x9) bt133.1 bt135.1 0))))
def psephoslaw11_LatestBan.l1 : Nat → Int → Int → List (S33) → Int → Bool → Bool → Int → Option (Bool)
  | 0, _, _, _, _, _, _, _ => none
  | k + 1, x3, x9, x10, x12, x13, x14, x15 => if x15 < x9 then ((latest_Votes_Get.f x10 x15).bind fun bt137 => (if (bt137.2 != (x15 != x12)) = true then (some false) else (if bt137.2 = true then (if bt137.1 = (IntKind.u64.wrap (x3 + (IntKind.u64.wrap (x15)))) then (psephoslaw11_LatestBan.l1 k x3 x9 x10 x12 x13 x14 (wrap64 (x15 + 1))) else (some false)) else (psephoslaw11_LatestBan.l1 k x3 x9 x10 x12 x13 x14 (wrap64 (x15 + 1)))))) else (if x13 = true then (some (!x14)) else (some false))
end
def psephoslaw11_LatestBan.f (k : Nat) (a0 : Int) (a1 : Int) (a2 : Int) (a3 : Int) : Option (Bool) := (psephoslaw11_awake.f).bind fun t127 => (if t127 = true then ((latest_Of.f (wrap64 (1 + (wrap64 (Int.tmod a0 20))))).bind fun t128 => (psephoslaw11_LatestBan.l0 k a1 a2 a3 (wrap64 (1 + (wrap64 (Int.tmod a0 20)))) t128 0)) else (some false))
theorem psephoslaw11_LatestBan.mono_l : ∀ k, (∀ y0 y1 y2 y3 y4 y5, LeO (psephoslaw11_LatestBan.l0 k y0 y1 y2 y3 y4 y5) (psephoslaw11_LatestBan.l0 (k + 1) y0 y1 y2 y3 y4 y5)) ∧ (∀ y0 y1 y2 y3 y4 y5 y6, LeO (psephoslaw11_LatestBan.l1 k y0 y1 y2 y3 y4 y5 y6) (psephoslaw11_LatestBan.l1 (k + 1) y0 y1 y2 y3 y4 y5 y6))
  | 0 => ⟨fun _ _ _ _ _ _ r h => by simp [psephoslaw11_LatestBan.l0] at h, fun _ _ _ _ _ _ _ r h => by simp [psephoslaw11_LatestBan.l1] at h⟩
  | k + 1 => by
    obtain ⟨ih0, ih1⟩ := psephoslaw11_LatestBan.mono_l k
    refine ⟨?_, ?_⟩
    · intro y0 y1 y2 y3 y4 y5
      unfold psephoslaw11_LatestBan.l0
      repeat' first
      | (with_reducible exact ih0 _ _ _ _ _ _)
      | (with_reducible exact ih1 _ _ _ _ _ _ _)
      | (with_reducible exact LeO.refl _)
      | (with_reducible exact LeO.none _)
      | (with_reducible refine LeO.ite ?_ ?_)
      | (with_reducible refine LeO.bind ?_ (fun _ => ?_))
      | exact ih0 _ _ _ _ _ _
      | exact ih1 _ _ _ _ _ _ _
      | exact LeO.none _
      | refine LeO.ite ?_ ?_
      | refine LeO.bind ?_ (fun _ => ?_)
    · intro y0 y1 y2 y3 y4 y5 y6
      unfold psephoslaw11_LatestBan.l1
      repeat' first
      | (with_reducible exact ih0 _ _ _ _ _ _)
      | (with_reducible exact ih1 _ _ _ _ _ _ _)
      | (with_reducible exact LeO.refl _)
      | (with_reducible exact LeO.none _)
      | (with_reducible refine LeO.ite ?_ ?_)
      | (with_reducible refine LeO.bind ?_ (fun _ => ?_))
      | exact ih0 _ _ _ _ _ _
      | exact ih1 _ _ _ _ _ _ _
      | exact LeO.none _
      | refine LeO.ite ?_ ?_
      | refine LeO.bind ?_ (fun _ => ?_)
theorem psephoslaw11_LatestBan.mono : ∀ a0 a1 a2 a3 k, LeO (psephoslaw11_LatestBan.f k a0 a1 a2 a3) (psephoslaw11_LatestBan.f (k + 1) a0 a1 a2 a3) := by
  intro a0 a1 a2 a3 k
  obtain ⟨ih0, ih1⟩ := psephoslaw11_LatestBan.mono_l k
  unfold psephoslaw11_LatestBan.f
  repeat' first
      | (with_reducible exact ih0 _ _ _ _ _ _)
      | (with_reducible exact ih1 _ _ _ _ _ _ _)
      | (with_reducible exact LeO.refl _)
      | (with_reducible exact LeO.none _)
      | (with_reducible refine LeO.ite ?_ ?_)
      | (with_reducible refine LeO.bind ?_ (fun _ => ?_))
      | exact ih0 _ _ _ _ _ _
      | exact ih1 _ _ _ _ _ _ _
      | exact LeO.none _
      | refine LeO.ite ?_ ?_
      | refine LeO.bind ?_ (fun _ => ?_)
set_option maxHeartbeats 8000000 in
set_option maxRecDepth 100000 in
theorem psephoslaw11_LatestBan.calls (k : Nat) (a0 : Int) (a1 : Int) (a2 : Int) (a3 : Int) (r : Bool) (w : World) (h : psephoslaw11_LatestBan.f k a0 a1 a2 a3 = some r) :
    Calls Try.prog 6 #[.int .u8 a0, .int .u8 a1, .int .u8 a2, .int .u64 a3] w fun e w' => e = .returned (.bool r) ∧ Below w.heap.size w w' := by
  have HB := Aside0.mk (Below.refl w.heap.size w)
  have H : ((psephoslaw11_awake.f).bind fun t127 => (if t127 = true then ((latest_Of.f (wrap64 (1 + (wrap64 (Int.tmod a0 20))))).bind fun t128 => (psephoslaw11_LatestBan.l0 k a1 a2 a3 (wrap64 (1 + (wrap64 (Int.tmod a0 20)))) t128 0)) else (some false))) = some r := h
  clear h
  replace H := Option.bind_eq_some_iff.mp H
  obtain ⟨t127, A50, H⟩ := H
  replace H : (if t127 = true then ((latest_Of.f (wrap64 (1 + (wrap64 (Int.tmod a0 20))))).bind fun t128 => (psephoslaw11_LatestBan.l0 k a1 a2 a3 (wrap64 (1 + (wrap64 (Int.tmod a0 20)))) t128 0)) else (some false)) = some r := H
  have A5 := Aside0.mk A50
  clear A50
  by_cases c6 : t127 = true
  · subst c6
    have H1 : ((latest_Of.f (wrap64 (1 + (wrap64 (Int.tmod a0 20))))).bind fun t128 => (psephoslaw11_LatestBan.l0 k a1 a2 a3 (wrap64 (1 + (wrap64 (Int.tmod a0 20)))) t128 0)) = some r := by rw [if_pos rfl] at H; exact H
    clear H
    have H := H1
    clear H1
    replace H := Option.bind_eq_some_iff.mp H
    obtain ⟨t128, A70, H⟩ := H
    replace H : (psephoslaw11_LatestBan.l0 k a1 a2 a3 (wrap64 (1 + (wrap64 (Int.tmod a0 20)))) t128 0) = some r := H
    have A7 := Aside0.mk A70
    clear A70
    have H' := Aside0.mk H
    clear H
    go_enter Try.func6, Try.ntmps6
    go_wp2_with (first | ((with_reducible refine gate_callee (f := 9) rfl ?_); refine goesL_ (some 18) rfl rfl Try.func9 (by kernel_rfl) rfl #[] rfl (by (try simp only [List.map_toArray, List.map_cons, List.map_nil]); first | done | rfl | (simp only [List.length_drop, List.length_take]; rfl)) ?_; (with_reducible refine (psephoslaw11_awake.calls  true _ A5.out).mono ?_); rintro e w8 ⟨rfl, hb⟩; refine ⟨_, rfl, ?_⟩; have n0_ := Aside0.mk (below_step (by repeat (first | (with_reducible first | exact HB.out | apply below_alloc | apply pw_below_drewN | apply below_drew1) | exact HB.out)) hb); clear HB; have HB := n0_; clear n0_; (try clear hb); (try clear hb2); (try clear hk); (try clear hi)) | ((with_reducible refine gate_callee (f := 10) rfl ?_); refine goesL_ (some 25) rfl rfl Try.func10 (by kernel_rfl) rfl #[.int .i64 (wrap64 (1 + (wrap64 (Int.tmod a0 20))))] rfl (by (try simp only [List.map_toArray, List.map_cons, List.map_nil]); first | done | rfl | (simp only [List.length_drop, List.length_take]; rfl)) ?_; (with_reducible refine (latest_Of.calls (wrap64 (1 + (wrap64 (Int.tmod a0 20)))) t128 _ A7.out).mono ?_); rintro e w9 ⟨v129, rfl, ho0, hb⟩; refine ⟨_, rfl, ?_⟩; have n0_ := Aside0.mk (Kd.R_lower ho0 (below_size (by repeat (first | (with_reducible first | exact HB.out | apply below_alloc | apply pw_below_drewN | apply below_drew1) | exact HB.out)))); have n1_ := Aside0.mk (below_step (by repeat (first | (with_reducible first | exact HB.out | apply below_alloc | apply pw_below_drewN | apply below_drew1) | exact HB.out)) hb); clear HB; have HO130 := n0_; have HB := n1_; clear n0_ n1_; (try clear hb); (try clear hb2); (try clear hk); (try clear hi); (try clear ho0)))
    go_loopg [11] k (fun kq v11 w' => ∃ (x10_1 : List (S33)) (x11_1 : Int), v11 = .int .i64 x11_1 ∧ Aside0 (psephoslaw11_LatestBan.l0 kq a1 a2 a3 (wrap64 (1 + (wrap64 (Int.tmod a0 20)))) x10_1 x11_1 = some r) ∧ Aside0 (kq ≤ k) ∧ Aside0 (Kd.R k33 33 w' w.heap.size (fun _ => True) v129 x10_1) ∧ Aside0 (Below w.heap.size w w'))
    case atStart => exact ⟨(t128), (0), (by first | rfl | (simp; done) | (simp [*]; done)), H', ⟨Nat.le_refl _⟩, ⟨by (with_reducible repeat (first | apply Kd.R_alloc | apply Kd.R_drewN | apply Kd.R_drew)); exact HO130.out⟩, ⟨by repeat (first | (with_reducible first | exact HB.out | apply below_alloc | apply pw_below_drewN | apply below_drew1) | exact HB.out)⟩⟩
    case round =>
      clear H'
      try clear c1
      try clear p2
      try clear c6
      try clear p6
      try clear c9
      obtain ⟨x10_1, x11_1, rfl, HA, HK1, HO_10, HB⟩ := hrel
      cases gk with
      | zero => exact absurd HA.out (by simp [psephoslaw11_LatestBan.l0])
      | succ k1 =>
        have H := HA.out
        clear HA
        simp only [psephoslaw11_LatestBan.l0] at H
        by_cases c10 : x11_1 < (wrap64 (1 + (wrap64 (Int.tmod a0 20))))
        · rw [if_pos c10] at H
          have c10b0 : decide (x11_1 < (wrap64 (1 + (wrap64 (Int.tmod a0 20))))) = true := decide_eq_true c10
          clear c10
          replace H := Option.bind_eq_some_iff.mp H
          obtain ⟨⟨t131, t132⟩, A110, H⟩ := H
          replace H : (if t131 = true then (psephoslaw11_LatestBan.l0 k1 a1 a2 a3 (wrap64 (1 + (wrap64 (Int.tmod a0 20)))) t132 (wrap64 (x11_1 + 1))) else (some false)) = some r := H
          have A11 := Aside0.mk A110
          clear A110
          by_cases c12 : t131 = true
          · subst c12
            have H1 : (psephoslaw11_LatestBan.l0 k1 a1 a2 a3 (wrap64 (1 + (wrap64 (Int.tmod a0 20)))) t132 (wrap64 (x11_1 + 1))) = some r := by rw [if_pos rfl] at H; exact H
            clear H
            have H := H1
            clear H1
            have H' := Aside0.mk H
            clear H
            obtain ⟨Ao13, co13, eo13⟩ := Kd.R_slice HO_10.out
            subst eo13
            go_wp2_with (first | ((with_reducible refine gate_callee (f := 12) rfl ?_); refine goesL_ (some 39) rfl rfl Try.func12 (by kernel_rfl) rfl #[.slice Ao13 x10_1.length co13, .int .i64 x11_1, .int .i64 (wrap64 (a2)), .int .u64 (IntKind.u64.wrap (a3 + (IntKind.u64.wrap (x11_1))))] rfl (by (try simp only [List.map_toArray, List.map_cons, List.map_nil]); first | done | rfl | (simp only [List.length_drop, List.length_take]; rfl)) ?_; (with_reducible refine (latest_Votes_Take.calls (fun k_ => some k_ = (.slice Ao13 x10_1.length co13 : Value).ownBlock) (.slice Ao13 x10_1.length co13) x10_1 x11_1 (wrap64 (a2)) (IntKind.u64.wrap (a3 + (IntKind.u64.wrap (x11_1)))) true t132 w _ ?side1 ?side2 A11.out).mono ?_); (case side1 => repeat (first | (with_reducible first | exact HB.out | apply below_alloc | apply pw_below_drewN | apply below_drew1) | exact HB.out)); (case side2 => exact Kd.R_tight rfl HO_10.out); rintro e w14 ⟨rfl, hy0, hb, hkp⟩; refine ⟨_, rfl, ?_⟩; have n0_ := Aside0.mk (Kd.R_reok rfl hy0 (fun k_ e_ => HO_10.out.1 k_ e_)); have n1_ := Aside0.mk (hb); clear HO_10; clear HB; have HO_10 := n0_; have HB := n1_; clear n0_ n1_; (try clear hb); (try clear hkp); (try clear hy0)))
            go_roundg k1
            case measure => have := HK1.out; omega
            case rel => exact ⟨(t132), (wrap64 (x11_1 + 1)), (by first | rfl | (simp; done) | (simp [*]; done)), H', ⟨by have := HK1.out; omega⟩, ⟨by (with_reducible repeat (first | apply Kd.R_alloc | apply Kd.R_drewN | apply Kd.R_drew)); exact HO_10.out⟩, ⟨by repeat (first | (with_reducible first | exact HB.out | apply below_alloc | apply pw_below_drewN | apply below_drew1) | exact HB.out)⟩⟩
          · replace c12 := Bool.eq_false_iff.mpr c12
            subst c12
            have H1 : (some false) = some r := by rw [if_neg (show ¬ (false = true) by decide)] at H; exact H
            clear H
            have H := H1
            clear H1
            obtain rfl := Option.some.inj H
            obtain ⟨Ao15, co15, eo15⟩ := Kd.R_slice HO_10.out
            subst eo15
            go_wp2_with (first | ((with_reducible refine gate_callee (f := 12) rfl ?_); refine goesL_ (some 39) rfl rfl Try.func12 (by kernel_rfl) rfl #[.slice Ao15 x10_1.length co15, .int .i64 x11_1, .int .i64 (wrap64 (a2)), .int .u64 (IntKind.u64.wrap (a3 + (IntKind.u64.wrap (x11_1))))] rfl (by (try simp only [List.map_toArray, List.map_cons, List.map_nil]); first | done | rfl | (simp only [List.length_drop, List.length_take]; rfl)) ?_; (with_reducible refine (latest_Votes_Take.calls (fun k_ => some k_ = (.slice Ao15 x10_1.length co15 : Value).ownBlock) (.slice Ao15 x10_1.length co15) x10_1 x11_1 (wrap64 (a2)) (IntKind.u64.wrap (a3 + (IntKind.u64.wrap (x11_1)))) false t132 w _ ?side1 ?side2 A11.out).mono ?_); (case side1 => repeat (first | (with_reducible first | exact HB.out | apply below_alloc | apply pw_below_drewN | apply below_drew1) | exact HB.out)); (case side2 => exact Kd.R_tight rfl HO_10.out); rintro e w16 ⟨rfl, hy0, hb, hkp⟩; refine ⟨_, rfl, ?_⟩; have n0_ := Aside0.mk (Kd.R_reok rfl hy0 (fun k_ e_ => HO_10.out.1 k_ e_)); have n1_ := Aside0.mk (hb); clear HO_10; clear HB; have HO_10 := n0_; have HB := n1_; clear n0_ n1_; (try clear hb); (try clear hkp); (try clear hy0)))
            go_ret
            exact ⟨by first | rfl | (simp [errW_none, errW_some] <;> rfl) | (simp [*, errW_none, errW_some] <;> rfl), by repeat (first | (with_reducible first | exact HB.out | apply below_alloc | apply pw_below_drewN | apply below_drew1) | exact HB.out)⟩
        · rw [if_neg c10] at H
          have c10b0 : decide (x11_1 < (wrap64 (1 + (wrap64 (Int.tmod a0 20))))) = false := decide_eq_false c10
          clear c10
          by_cases c17 : (wrap64 (1 + (wrap64 (Int.tmod a0 20)))) = 0
          · rw [if_pos c17] at H
            exact absurd H (by simp)
          · rw [if_neg c17] at H
            have c17b0 : ((wrap64 (1 + (wrap64 (Int.tmod a0 20)))) == 0) = false := beq_eq_false_iff_ne.mpr c17
            have c17b1 : ((wrap64 (1 + (wrap64 (Int.tmod a0 20)))) != 0) = true := bne_iff_ne.mpr c17
            replace H := Option.bind_eq_some_iff.mp H
            obtain ⟨⟨t133, t134⟩, A180, H⟩ := H
            replace H : ((latest_Votes_Take.f t134 (Int.tmod (wrap64 (a1)) (wrap64 (1 + (wrap64 (Int.tmod a0 20))))) (wrap64 ((wrap64 (a2)) + 1)) 5).bind fun bt135 => (psephoslaw11_LatestBan.l1 k1 a3 (wrap64 (1 + (wrap64 (Int.tmod a0 20)))) bt135.2 (Int.tmod (wrap64 (a1)) (wrap64 (1 + (wrap64 (Int.tmod a0 20))))) t133 bt135.1 0)) = some r := H
            have A18 := Aside0.mk A180
            clear A180
            replace H := Option.bind_eq_some_iff.mp H
            obtain ⟨⟨t135, t136⟩, A190, H⟩ := H
            replace H : (psephoslaw11_LatestBan.l1 k1 a3 (wrap64 (1 + (wrap64 (Int.tmod a0 20)))) t136 (Int.tmod (wrap64 (a1)) (wrap64 (1 + (wrap64 (Int.tmod a0 20))))) t133 t135 0) = some r := H
            have A19 := Aside0.mk A190
            clear A190
            have H' := Aside0.mk H
            clear H
            obtain ⟨Ao20, co20, eo20⟩ := Kd.R_slice HO_10.out
            subst eo20
            go_wp2_with (first | ((with_reducible refine gate_callee (f := 11) rfl ?_); refine goesL_ (some 47) rfl rfl Try.func11 (by kernel_rfl) rfl #[.slice Ao20 x10_1.length co20, .int .i64 (Int.tmod (wrap64 (a1)) (wrap64 (1 + (wrap64 (Int.tmod a0 20)))))] rfl (by (try simp only [List.map_toArray, List.map_cons, List.map_nil]); first | done | rfl | (simp only [List.length_drop, List.length_take]; rfl)) ?_; (with_reducible refine (latest_Votes_Ban.calls (fun k_ => some k_ = (.slice Ao20 x10_1.length co20 : Value).ownBlock) (.slice Ao20 x10_1.length co20) x10_1 (Int.tmod (wrap64 (a1)) (wrap64 (1 + (wrap64 (Int.tmod a0 20))))) t133 t134 w _ ?side1 ?side2 A18.out).mono ?_); (case side1 => repeat (first | (with_reducible first | exact HB.out | apply below_alloc | apply pw_below_drewN | apply below_drew1) | exact HB.out)); (case side2 => exact Kd.R_tight rfl HO_10.out); rintro e w21 ⟨rfl, hy0, hb, hkp⟩; refine ⟨_, rfl, ?_⟩; have n0_ := Aside0.mk (Kd.R_reok rfl hy0 (fun k_ e_ => HO_10.out.1 k_ e_)); have n1_ := Aside0.mk (hb); clear HO_10; clear HB; have HO_10 := n0_; have HB := n1_; clear n0_ n1_; (try clear hb); (try clear hkp); (try clear hy0)) | ((with_reducible refine gate_callee (f := 12) rfl ?_); refine goesL_ (some 53) rfl rfl Try.func12 (by kernel_rfl) rfl #[.slice Ao20 x10_1.length co20, .int .i64 (Int.tmod (wrap64 (a1)) (wrap64 (1 + (wrap64 (Int.tmod a0 20))))), .int .i64 (wrap64 ((wrap64 (a2)) + 1)), .int .u64 5] rfl (by (try simp only [List.map_toArray, List.map_cons, List.map_nil]); first | done | rfl | (simp only [List.length_drop, List.length_take]; rfl)) ?_; (with_reducible refine (latest_Votes_Take.calls (fun k_ => some k_ = (.slice Ao20 x10_1.length co20 : Value).ownBlock) (.slice Ao20 x10_1.length co20) t134 (Int.tmod (wrap64 (a1)) (wrap64 (1 + (wrap64 (Int.tmod a0 20))))) (wrap64 ((wrap64 (a2)) + 1)) 5 t135 t136 w _ ?side1 ?side2 A19.out).mono ?_); (case side1 => repeat (first | (with_reducible first | exact HB.out | apply below_alloc | apply pw_below_drewN | apply below_drew1) | exact HB.out)); (case side2 => exact Kd.R_tight rfl HO_10.out); rintro e w22 ⟨rfl, hy0, hb, hkp⟩; refine ⟨_, rfl, ?_⟩; have n0_ := Aside0.mk (Kd.R_reok rfl hy0 (fun k_ e_ => HO_10.out.1 k_ e_)); have n1_ := Aside0.mk (hb); clear HO_10; clear HB; have HO_10 := n0_; have HB := n1_; clear n0_ n1_; (try clear hb); (try clear hkp); (try clear hy0)))
            go_loopg [15] k1 (fun kq v15 w' => ∃ (x15_2 : Int), v15 = .int .i64 x15_2 ∧ Aside0 (psephoslaw11_LatestBan.l1 kq a3 (wrap64 (1 + (wrap64 (Int.tmod a0 20)))) t136 (Int.tmod (wrap64 (a1)) (wrap64 (1 + (wrap64 (Int.tmod a0 20))))) t133 t135 x15_2 = some r) ∧ Aside0 (kq ≤ k1) ∧ Aside0 (Kd.R k33 33 w' w.heap.size (fun _ => True) (.slice Ao20 x10_1.length co20) t136) ∧ Aside0 (Below w.heap.size w w'))
            case atStart => exact ⟨(0), (by first | rfl | (simp; done) | (simp [*]; done)), H', ⟨Nat.le_refl _⟩, ⟨by (with_reducible repeat (first | apply Kd.R_alloc | apply Kd.R_drewN | apply Kd.R_drew)); exact HO_10.out⟩, ⟨by repeat (first | (with_reducible first | exact HB.out | apply below_alloc | apply pw_below_drewN | apply below_drew1) | exact HB.out)⟩⟩
            case round =>
              clear H'
              try clear c1
              try clear p2
              try clear c6
              try clear p6
              try clear c9
              try clear c10
              try clear c10b0
              try clear c11
              try clear c12
              try clear c17
              try clear c17b0
              try clear c17b1
              try clear p2
              try clear p6
              obtain ⟨x15_2, rfl, HA, HK2, HO_10, HB⟩ := hrel
              have hl10_2 := (Kd.R_reads' HO_10.out).1
              rw [hl10_2] at HO_10
              (try simp only [hl10_2])
              cases gk with
              | zero => exact absurd HA.out (by simp [psephoslaw11_LatestBan.l1])
              | succ k2 =>
                have H := HA.out
                clear HA
                simp only [psephoslaw11_LatestBan.l1] at H
                by_cases c23 : x15_2 < (wrap64 (1 + (wrap64 (Int.tmod a0 20))))
                · rw [if_pos c23] at H
                  have c23b0 : decide (x15_2 < (wrap64 (1 + (wrap64 (Int.tmod a0 20))))) = true := decide_eq_true c23
                  clear c23
                  replace H := Option.bind_eq_some_iff.mp H
                  obtain ⟨⟨t137, t138⟩, A240, H⟩ := H
                  replace H : (if (t138 != (x15_2 != (Int.tmod (wrap64 (a1)) (wrap64 (1 + (wrap64 (Int.tmod a0 20))))))) = true then (some false) else (if t138 = true then (if t137 = (IntKind.u64.wrap (a3 + (IntKind.u64.wrap (x15_2)))) then (psephoslaw11_LatestBan.l1 k2 a3 (wrap64 (1 + (wrap64 (Int.tmod a0 20)))) t136 (Int.tmod (wrap64 (a1)) (wrap64 (1 + (wrap64 (Int.tmod a0 20))))) t133 t135 (wrap64 (x15_2 + 1))) else (some false)) else (psephoslaw11_LatestBan.l1 k2 a3 (wrap64 (1 + (wrap64 (Int.tmod a0 20)))) t136 (Int.tmod (wrap64 (a1)) (wrap64 (1 + (wrap64 (Int.tmod a0 20))))) t133 t135 (wrap64 (x15_2 + 1))))) = some r := H
                  have A24 := Aside0.mk A240
                  clear A240
                  by_cases c25 : (t138 != (x15_2 != (Int.tmod (wrap64 (a1)) (wrap64 (1 + (wrap64 (Int.tmod a0 20))))))) = true
                  · rw [if_pos c25] at H
                    have c25b0 : (t138 != (x15_2 != (Int.tmod (wrap64 (a1)) (wrap64 (1 + (wrap64 (Int.tmod a0 20))))))) = true := c25
                    (try (have c25b1 : decide (t138 = (x15_2 != (Int.tmod (wrap64 (a1)) (wrap64 (1 + (wrap64 (Int.tmod a0 20))))))) = false := by simpa using c25))
                    (try (have c25b2 : (t138 == (x15_2 != (Int.tmod (wrap64 (a1)) (wrap64 (1 + (wrap64 (Int.tmod a0 20))))))) = false := by simpa using c25))
                    (try (have c25b3 : ¬ (t138 = (x15_2 != (Int.tmod (wrap64 (a1)) (wrap64 (1 + (wrap64 (Int.tmod a0 20))))))) := by simpa using c25))
                    clear c25
                    obtain rfl := Option.some.inj H
                    go_wp2_with (first | ((with_reducible refine gate_callee (f := 13) rfl ?_); refine goesL_ (some 62) rfl rfl Try.func13 (by kernel_rfl) rfl #[.slice Ao20 t136.length co20, .int .i64 x15_2] rfl (by (try simp only [List.map_toArray, List.map_cons, List.map_nil]); first | done | rfl | (simp only [List.length_drop, List.length_take]; rfl)) ?_; (with_reducible refine (latest_Votes_Get.calls _ _ t136 x15_2 t137 t138 _ ?side1 ?side2 A24.out).mono ?_); (case side1 => repeat (first | exact (Kd.R_reads' HO_10.out).2.2 | (with_reducible refine Kd.C_alloc ?_ _) | (with_reducible refine Kd.C_drewN ?_ _) | (with_reducible refine Kd.C_drew ?_))); (case side2 => exact (Kd.R_reads' HO_10.out).2.1); rintro e w' ⟨rfl, ⟨nd, rfl⟩⟩; refine ⟨_, rfl, ?_⟩))
                    go_ret
                    exact ⟨by first | rfl | (simp [errW_none, errW_some] <;> rfl) | (simp [*, errW_none, errW_some] <;> rfl), by repeat (first | (with_reducible first | exact HB.out | apply below_alloc | apply pw_below_drewN | apply below_drew1) | exact HB.out)⟩
                  · rw [if_neg c25] at H
                    have c25b0 : (t138 != (x15_2 != (Int.tmod (wrap64 (a1)) (wrap64 (1 + (wrap64 (Int.tmod a0 20))))))) = false := by simpa using c25
                    (try (have c25b1 : decide (t138 = (x15_2 != (Int.tmod (wrap64 (a1)) (wrap64 (1 + (wrap64 (Int.tmod a0 20))))))) = true := by simpa using c25))
                    (try (have c25b2 : (t138 == (x15_2 != (Int.tmod (wrap64 (a1)) (wrap64 (1 + (wrap64 (Int.tmod a0 20))))))) = true := by simpa using c25))
                    clear c25
                    by_cases c26 : t138 = true
                    · subst c26
                      have H1 : (if t137 = (IntKind.u64.wrap (a3 + (IntKind.u64.wrap (x15_2)))) then (psephoslaw11_LatestBan.l1 k2 a3 (wrap64 (1 + (wrap64 (Int.tmod a0 20)))) t136 (Int.tmod (wrap64 (a1)) (wrap64 (1 + (wrap64 (Int.tmod a0 20))))) t133 t135 (wrap64 (x15_2 + 1))) else (some false)) = some r := by rw [if_pos rfl] at H; exact H
                      clear H
                      have H := H1
                      clear H1
                      by_cases c27 : t137 = (IntKind.u64.wrap (a3 + (IntKind.u64.wrap (x15_2))))
                      · rw [if_pos c27] at H
                        have c27b0 : (t137 == (IntKind.u64.wrap (a3 + (IntKind.u64.wrap (x15_2))))) = true := beq_iff_eq.mpr c27
                        have c27b1 : (t137 != (IntKind.u64.wrap (a3 + (IntKind.u64.wrap (x15_2))))) = false := bne_eq_false_iff_eq.mpr c27
                        clear c27
                        have H' := Aside0.mk H
                        clear H
                        go_wp2_with (first | ((with_reducible refine gate_callee (f := 13) rfl ?_); refine goesL_ (some 62) rfl rfl Try.func13 (by kernel_rfl) rfl #[.slice Ao20 t136.length co20, .int .i64 x15_2] rfl (by (try simp only [List.map_toArray, List.map_cons, List.map_nil]); first | done | rfl | (simp only [List.length_drop, List.length_take]; rfl)) ?_; (with_reducible refine (latest_Votes_Get.calls _ _ t136 x15_2 t137 true _ ?side1 ?side2 A24.out).mono ?_); (case side1 => repeat (first | exact (Kd.R_reads' HO_10.out).2.2 | (with_reducible refine Kd.C_alloc ?_ _) | (with_reducible refine Kd.C_drewN ?_ _) | (with_reducible refine Kd.C_drew ?_))); (case side2 => exact (Kd.R_reads' HO_10.out).2.1); rintro e w' ⟨rfl, ⟨nd, rfl⟩⟩; refine ⟨_, rfl, ?_⟩))
                        (try simp only [← hl10_2])
                        go_roundg k2
                        case measure => have := HK1.out; have := HK2.out; omega
                        case rel => exact ⟨(wrap64 (x15_2 + 1)), (by first | rfl | (simp; done) | (simp [*]; done)), H', ⟨by have := HK1.out; have := HK2.out; omega⟩, ⟨by (try simp only [hl10_2]); (with_reducible repeat (first | apply Kd.R_alloc | apply Kd.R_drewN | apply Kd.R_drew)); exact HO_10.out⟩, ⟨by repeat (first | (with_reducible first | exact HB.out | apply below_alloc | apply pw_below_drewN | apply below_drew1) | exact HB.out)⟩⟩
                      · rw [if_neg c27] at H
                        have c27b0 : (t137 == (IntKind.u64.wrap (a3 + (IntKind.u64.wrap (x15_2))))) = false := beq_eq_false_iff_ne.mpr c27
                        have c27b1 : (t137 != (IntKind.u64.wrap (a3 + (IntKind.u64.wrap (x15_2))))) = true := bne_iff_ne.mpr c27
                        obtain rfl := Option.some.inj H
                        go_wp2_with (first | ((with_reducible refine gate_callee (f := 13) rfl ?_); refine goesL_ (some 62) rfl rfl Try.func13 (by kernel_rfl) rfl #[.slice Ao20 t136.length co20, .int .i64 x15_2] rfl (by (try simp only [List.map_toArray, List.map_cons, List.map_nil]); first | done | rfl | (simp only [List.length_drop, List.length_take]; rfl)) ?_; (with_reducible refine (latest_Votes_Get.calls _ _ t136 x15_2 t137 true _ ?side1 ?side2 A24.out).mono ?_); (case side1 => repeat (first | exact (Kd.R_reads' HO_10.out).2.2 | (with_reducible refine Kd.C_alloc ?_ _) | (with_reducible refine Kd.C_drewN ?_ _) | (with_reducible refine Kd.C_drew ?_))); (case side2 => exact (Kd.R_reads' HO_10.out).2.1); rintro e w' ⟨rfl, ⟨nd, rfl⟩⟩; refine ⟨_, rfl, ?_⟩))
                        go_ret
                        exact ⟨by first | rfl | (simp [errW_none, errW_some] <;> rfl) | (simp [*, errW_none, errW_some] <;> rfl), by repeat (first | (with_reducible first | exact HB.out | apply below_alloc | apply pw_below_drewN | apply below_drew1) | exact HB.out)⟩
                    · replace c26 := Bool.eq_false_iff.mpr c26
                      subst c26
                      have H1 : (psephoslaw11_LatestBan.l1 k2 a3 (wrap64 (1 + (wrap64 (Int.tmod a0 20)))) t136 (Int.tmod (wrap64 (a1)) (wrap64 (1 + (wrap64 (Int.tmod a0 20))))) t133 t135 (wrap64 (x15_2 + 1))) = some r := by rw [if_neg (show ¬ (false = true) by decide)] at H; exact H
                      clear H
                      have H := H1
                      clear H1
                      have H' := Aside0.mk H
                      clear H
                      go_wp2_with (first | ((with_reducible refine gate_callee (f := 13) rfl ?_); refine goesL_ (some 62) rfl rfl Try.func13 (by kernel_rfl) rfl #[.slice Ao20 t136.length co20, .int .i64 x15_2] rfl (by (try simp only [List.map_toArray, List.map_cons, List.map_nil]); first | done | rfl | (simp only [List.length_drop, List.length_take]; rfl)) ?_; (with_reducible refine (latest_Votes_Get.calls _ _ t136 x15_2 t137 false _ ?side1 ?side2 A24.out).mono ?_); (case side1 => repeat (first | exact (Kd.R_reads' HO_10.out).2.2 | (with_reducible refine Kd.C_alloc ?_ _) | (with_reducible refine Kd.C_drewN ?_ _) | (with_reducible refine Kd.C_drew ?_))); (case side2 => exact (Kd.R_reads' HO_10.out).2.1); rintro e w' ⟨rfl, ⟨nd, rfl⟩⟩; refine ⟨_, rfl, ?_⟩))
                      (try simp only [← hl10_2])
                      go_roundg k2
                      case measure => have := HK1.out; have := HK2.out; omega
                      case rel => exact ⟨(wrap64 (x15_2 + 1)), (by first | rfl | (simp; done) | (simp [*]; done)), H', ⟨by have := HK1.out; have := HK2.out; omega⟩, ⟨by (try simp only [hl10_2]); (with_reducible repeat (first | apply Kd.R_alloc | apply Kd.R_drewN | apply Kd.R_drew)); exact HO_10.out⟩, ⟨by repeat (first | (with_reducible first | exact HB.out | apply below_alloc | apply pw_below_drewN | apply below_drew1) | exact HB.out)⟩⟩
                · rw [if_neg c23] at H
                  have c23b0 : decide (x15_2 < (wrap64 (1 + (wrap64 (Int.tmod a0 20))))) = false := decide_eq_false c23
                  clear c23
                  by_cases c28 : t133 = true
                  · subst c28
                    have H1 : (some (!t135)) = some r := by rw [if_pos rfl] at H; exact H
                    clear H
                    have H := H1
                    clear H1
                    obtain rfl := Option.some.inj H
                    go_wp2
                    go_ret
                    exact ⟨by first | rfl | (simp [errW_none, errW_some] <;> rfl) | (simp [*, errW_none, errW_some] <;> rfl), by repeat (first | (with_reducible first | exact HB.out | apply below_alloc | apply pw_below_drewN | apply below_drew1) | exact HB.out)⟩
                  · replace c28 := Bool.eq_false_iff.mpr c28
                    subst c28
                    have H1 : (some false) = some r := by rw [if_neg (show ¬ (false = true) by decide)] at H; exact H
                    clear H
                    have H := H1
                    clear H1
                    obtain rfl := Option.some.inj H
                    go_wp2
                    go_ret
                    exact ⟨by first | rfl | (simp [errW_none, errW_some] <;> rfl) | (simp [*, errW_none, errW_some] <;> rfl), by repeat (first | (with_reducible first | exact HB.out | apply below_alloc | apply pw_below_drewN | apply below_drew1) | exact HB.out)⟩
  · replace c6 := Bool.eq_false_iff.mpr c6
    subst c6
    have H1 : (some false) = some r := by rw [if_neg (show ¬ (false = true) by decide)] at H; exact H
    clear H
    have H := H1
    clear H1
    obtain rfl := Option.some.inj H
    go_enter Try.func6, Try.ntmps6
    go_wp2_with (first | ((with_reducible refine gate_callee (f := 9) rfl ?_); refine goesL_ (some 18) rfl rfl Try.func9 (by kernel_rfl) rfl #[] rfl (by (try simp only [List.map_toArray, List.map_cons, List.map_nil]); first | done | rfl | (simp only [List.length_drop, List.length_take]; rfl)) ?_; (with_reducible refine (psephoslaw11_awake.calls  false _ A5.out).mono ?_); rintro e w29 ⟨rfl, hb⟩; refine ⟨_, rfl, ?_⟩; have n0_ := Aside0.mk (below_step (by repeat (first | (with_reducible first | exact HB.out | apply below_alloc | apply pw_below_drewN | apply below_drew1) | exact HB.out)) hb); clear HB; have HB := n0_; clear n0_; (try clear hb); (try clear hb2); (try clear hk); (try clear hi)))
    go_ret
    exact ⟨by first | rfl | (simp [errW_none, errW_some] <;> rfl) | (simp [*, errW_none, errW_some] <;> rfl), by repeat (first | (with_reducible first | exact HB.out | apply below_alloc | apply pw_below_drewN | apply below_drew1) | exact HB.out)⟩

/-- THE ONE PURE STATEMENT of psephoslaw11_LatestBan: yours. -/
def psephoslaw11_LatestBan.Pure : Prop := ∀ (a0 : Int) (a1 : Int) (a2 : Int) (a3 : Int), (Lit.int .u8 a0).wf = true → (Lit.int .u8 a1).wf = true → (Lit.int .u8 a2).wf = true → (Lit.int .u64 a3).wf = true → ∃ k, psephoslaw11_LatestBan.f k a0 a1 a2 a3 = some true
theorem psephoslaw11_LatestBan.walk (P : psephoslaw11_LatestBan.Pure) (a0 : Int) (a1 : Int) (a2 : Int) (a3 : Int) (w : World) (w0 : (Lit.int .u8 a0).wf = true) (w1 : (Lit.int .u8 a1).wf = true) (w2 : (Lit.int .u8 a2).wf = true) (w3 : (Lit.int .u64 a3).wf = true) :
    Calls Try.prog 6 #[.int .u8 a0, .int .u8 a1, .int .u8 a2, .int .u64 a3] w fun e w' => e = .returned (.bool true) ∧ Below w.heap.size w w' := by
  obtain ⟨k, h⟩ := P a0 a1 a2 a3 w0 w1 w2 w3
  refine (psephoslaw11_LatestBan.calls k a0 a1 a2 a3 true w h).mono ?_
  rintro e w' ⟨rfl, hd⟩
  exact ⟨rfl, hd⟩

end Go.Proofs.Ytadncnpgekkjbaa.PLatestBan
