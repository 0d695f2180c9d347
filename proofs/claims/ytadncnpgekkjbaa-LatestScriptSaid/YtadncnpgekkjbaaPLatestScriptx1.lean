-- PRINTED BY print.sh 35421559b90ae4d0a3588c463048766b98c2df88dd9212a6774a882060cdf62d: not written by this session
import Derived.Test.YtadncnpgekkjbaaPLatestScriptx0
namespace Go.Proofs.Ytadncnpgekkjbaa.PLatestScript
open Go.RowKit Go.Proofs.YtadncnpgekkjbaaW.PrintWords Go.Proofs.YtadncnpgekkjbaaW.PrintLast Go.Proofs.YtadncnpgekkjbaaW.PrintMore
attribute [local go_sem] max2_int min2_int max_two min_two max_three min_three max_four min_four   -- for this text's walks alone
set_option linter.unusedVariables false
set_option linter.unusedSimpArgs false

/-! ### latest_Of: function 10 -/
def latest_Of.f (a0 : Int) : Option ((List (S33))) := if 0 ≤ (mx 0 (mn a0 4096)) then (if (mx 0 (mn a0 4096) : Int).toNat ≤ 8796093022208 then (some (List.replicate (mx 0 (mn a0 4096) : Int).toNat z33)) else (none)) else (none)
set_option maxHeartbeats 8000000 in
set_option maxRecDepth 100000 in
theorem latest_Of.calls (a0 : Int) (r : List (S33)) (w : World) (h : latest_Of.f a0 = some r) :
    Calls Try.prog 10 #[.int .i64 a0] w fun e w' => ∃ v0_ : Value, e = .returned (v0_) ∧ Kd.R k33 33 w' w.heap.size (fun _ => True) v0_ r ∧ Below w.heap.size w w' := by
  have HB := Aside0.mk (Below.refl w.heap.size w)
  have H : (if 0 ≤ (mx 0 (mn a0 4096)) then (if (mx 0 (mn a0 4096) : Int).toNat ≤ 8796093022208 then (some (List.replicate (mx 0 (mn a0 4096) : Int).toNat z33)) else (none)) else (none)) = some r := h
  clear h
  obtain ⟨ji2, hji2⟩ : ∃ j_ : Int, (mn a0 4096) = j_ := ⟨_, rfl⟩
  replace H : (if 0 ≤ (mx 0 (ji2)) then (if (mx 0 (ji2) : Int).toNat ≤ 8796093022208 then (some (List.replicate (mx 0 (ji2) : Int).toNat z33)) else (none)) else (none)) = some r := by first | (rw [hji2] at H; exact H) | (simp only [hji2] at H ⊢; exact H)
  (try (have hji2h : ji2 ≤ 4096 := by (rw [← hji2]; unfold mn; (repeat' split) <;> omega)))
  (try (have hji2g : ji2 ≤ 64 := by omega))
  have hji2_ : (if 4096 < a0 then 4096 else a0) = ji2 := hji2
  obtain ⟨ji3, hji3⟩ : ∃ j_ : Int, (mx 0 (ji2)) = j_ := ⟨_, rfl⟩
  replace H : (if 0 ≤ (ji3) then (if (ji3 : Int).toNat ≤ 8796093022208 then (some (List.replicate (ji3 : Int).toNat z33)) else (none)) else (none)) = some r := by first | (rw [hji3] at H; exact H) | (simp only [hji3] at H ⊢; exact H)
  have hji3_ : (if 0 < (ji2) then (ji2) else 0) = ji3 := hji3
  by_cases c4 : 0 ≤ (ji3)
  · rw [if_pos c4] at H
    have c4b0 := eq_true c4
    have c4b1 : decide (0 ≤ (ji3)) = true := decide_eq_true c4
    clear c4
    by_cases c5 : (ji3 : Int).toNat ≤ 8796093022208
    · rw [if_pos c5] at H
      have c5b0 := eq_true c5
      have c5b1 : decide ((ji3 : Int).toNat ≤ 8796093022208) = true := decide_eq_true c5
      clear c5
      obtain ⟨y101, hy101⟩ : ∃ y_ : List (S33), y_ = (List.replicate (ji3 : Int).toNat z33) := ⟨_, rfl⟩
      replace H : (some y101) = some r := by first | (rw [hy101]; with_reducible exact H) | (have H2_ := (Option.bind_some _ _).symm.trans H; rw [hy101]; with_reducible exact H2_) | (have H2_ := (Option.bind_some _ _).symm.trans H; with_reducible exact H2_) | with_reducible exact H | (rw [hy101]; exact H) | exact H
      have Ny101 := Aside0.mk hy101
      clear hy101
      obtain rfl := Option.some.inj H
      go_enter Try.func10, Try.ntmps10
      go_wp2_with (first | ((with_reducible refine gate_dst (N := 6) rfl ?_); refine Kd.R_make k33 _ 33 rfl (N := 6) rfl 25 _ _ rfl ji3 rfl rfl Try.underlying25 (.agg #[(.bool false), (.int .i64 0), (.int .u64 0), (.bool false)]) 32 info33 rfl (by decide) (by omega) z33 (ok := fun _ => True) (okp := fun _ => True) (k33_mkM _ _ _ z33 ) (fun _ hk => hk) trivial (of_decide_eq_true (by first | (with_reducible assumption) | assumption)) (Nat.le_trans (Nat.mul_le_mul_right _ (of_decide_eq_true (by first | (with_reducible assumption) | assumption) : ji3.toNat ≤ 8796093022208)) (by omega)) (Below.refl _ _) (Nat.le_refl _) ?_; intro v102 w6 ho7 hb hg_ hnew_; clear hg_ hnew_; (first | rw [← Ny101.out] at ho7 | (simp only [Int.reduceToNat] at ho7; rw [← Ny101.out] at ho7)); have n0_ := Aside0.mk (Kd.R_lower ho7 (below_size (by repeat (first | (with_reducible first | exact HB.out | apply below_alloc | apply pw_below_drewN | apply below_drew1) | exact HB.out)))); have n1_ := Aside0.mk (below_step (by repeat (first | (with_reducible first | exact HB.out | apply below_alloc | apply pw_below_drewN | apply below_drew1) | exact HB.out)) hb); clear HB; have HO103 := n0_; have HB := n1_; clear n0_ n1_; clear hb ho7))
      go_ret
      exact ⟨_, by first | rfl | (simp [errW_none, errW_some] <;> rfl) | (simp only [← hji2, ← hji3]; first | rfl | (simp [errW_none, errW_some] <;> rfl)) | (simp [*, errW_none, errW_some] <;> rfl), by (with_reducible repeat (first | apply Kd.R_alloc | apply Kd.R_drewN | apply Kd.R_drew)); exact HO103.out, by repeat (first | (with_reducible first | exact HB.out | apply below_alloc | apply pw_below_drewN | apply below_drew1) | exact HB.out)⟩
    · rw [if_neg c5] at H
      exact absurd H (by simp)
  · rw [if_neg c4] at H
    exact absurd H (by simp)

/-! ### latest_Votes_Ban: function 11 -/
def latest_Votes_Ban.f (l0 : List (S33)) (a1 : Int) : Option (Bool × (List (S33))) := if a1 < 0 then (some (false, l0)) else (if a1 ≥ (l0.length : Int) then (some (false, l0)) else (if 0 ≤ a1 then (if a1 < (l0.length : Int) then (if (rd_T33 l0 a1).f3 = true then (some (false, l0)) else (some (true, (l0.set (a1 : Int).toNat (⟨(rd_T33 l0 a1).f0, (rd_T33 l0 a1).f1, (rd_T33 l0 a1).f2, true⟩ : S33))))) else (none)) else (none)))
set_option maxHeartbeats 8000000 in
set_option maxRecDepth 100000 in
theorem latest_Votes_Ban.calls (P0_ : Nat → Prop) (u9000_ : Value) (l0 : List (S33)) (a1 : Int) (r1 : Bool) (r2 : List (S33)) (w0 w : World) (hB : Below w0.heap.size w0 w) (ho0 : Kd.R k33 33 w w0.heap.size P0_ u9000_ l0) (h : latest_Votes_Ban.f l0 a1 = some (r1, r2)) :
    Calls Try.prog 11 #[u9000_, .int .i64 a1] w fun e w' => e = .returned (.bool r1) ∧ Kd.R k33 33 w' w0.heap.size (fun k_ => (P0_ k_ ∨ w.heap.size ≤ k_)) u9000_ r2 ∧ Below w0.heap.size w0 w' ∧ Kept w w' (fun k_ => P0_ k_) := by
  have HO0 := Aside0.mk (show Kd.R k33 33 w w0.heap.size (fun k_ => (P0_ k_ ∨ w.heap.size ≤ k_)) u9000_ l0 from Kd.R_mono ho0 (fun k_ hk => (.inl hk)))
  have HK := Aside0.mk (Kept.refl w (fun k_ => P0_ k_))
  have HW0 := Aside0.mk hB.size
  have HB := Aside0.mk hB
  clear hB
  have H : (if a1 < 0 then (some (false, l0)) else (if a1 ≥ (l0.length : Int) then (some (false, l0)) else (if 0 ≤ a1 then (if a1 < (l0.length : Int) then (if (rd_T33 l0 a1).f3 = true then (some (false, l0)) else (some (true, (l0.set (a1 : Int).toNat (⟨(rd_T33 l0 a1).f0, (rd_T33 l0 a1).f1, (rd_T33 l0 a1).f2, true⟩ : S33))))) else (none)) else (none)))) = some (r1, r2) := h
  clear h
  by_cases c3 : a1 < 0
  · rw [if_pos c3] at H
    have c3b0 : decide (a1 < 0) = true := decide_eq_true c3
    clear c3
    simp only [Option.some.injEq, Prod.mk.injEq] at H
    obtain ⟨rfl, rfl⟩ := H
    go_enter Try.func11, Try.ntmps11
    go_wp2
    go_ret
    exact ⟨by first | rfl | (simp [errW_none, errW_some] <;> rfl) | (simp [*, errW_none, errW_some] <;> rfl), by (with_reducible repeat (first | apply Kd.R_alloc | apply Kd.R_drewN | apply Kd.R_drew)); exact HO0.out, by repeat (first | (with_reducible first | exact HB.out | apply below_alloc | apply pw_below_drewN | apply below_drew1) | exact HB.out), by repeat (first | (with_reducible first | exact HK.out | apply Kept.alloc | apply Kept.drewN | apply Kept.drew) | exact HK.out)⟩
  · rw [if_neg c3] at H
    have c3b0 : decide (a1 < 0) = false := decide_eq_false c3
    clear c3
    by_cases c4 : a1 ≥ (l0.length : Int)
    · rw [if_pos c4] at H
      have c4b0 : decide ((l0.length : Int) ≤ a1) = true := decide_eq_true c4
      clear c4
      simp only [Option.some.injEq, Prod.mk.injEq] at H
      obtain ⟨rfl, rfl⟩ := H
      obtain ⟨Ao5, co5, eo5⟩ := Kd.R_slice HO0.out
      subst eo5
      go_enter Try.func11, Try.ntmps11
      go_wp2
      go_ret
      exact ⟨by first | rfl | (simp [errW_none, errW_some] <;> rfl) | (simp [*, errW_none, errW_some] <;> rfl), by (with_reducible repeat (first | apply Kd.R_alloc | apply Kd.R_drewN | apply Kd.R_drew)); exact HO0.out, by repeat (first | (with_reducible first | exact HB.out | apply below_alloc | apply pw_below_drewN | apply below_drew1) | exact HB.out), by repeat (first | (with_reducible first | exact HK.out | apply Kept.alloc | apply Kept.drewN | apply Kept.drew) | exact HK.out)⟩
    · rw [if_neg c4] at H
      have c4b0 : decide ((l0.length : Int) ≤ a1) = false := decide_eq_false c4
      clear c4
      by_cases c6 : 0 ≤ a1
      · rw [if_pos c6] at H
        have c6b0 : decide (0 ≤ a1) = true := decide_eq_true c6
        clear c6
        by_cases c7 : a1 < (l0.length : Int)
        · rw [if_pos c7] at H
          have c7b0 : decide (a1 < (l0.length : Int)) = true := decide_eq_true c7
          clear c7
          obtain ⟨bq8, hbq8⟩ : ∃ b_ : Bool, b_ = ((rd_T33 l0 a1).f3) := ⟨_, rfl⟩
          replace H : (if bq8 = true then (some (false, l0)) else (some (true, (l0.set (a1 : Int).toNat (⟨(rd_T33 l0 a1).f0, (rd_T33 l0 a1).f1, (rd_T33 l0 a1).f2, true⟩ : S33))))) = some (r1, r2) := by rw [← hbq8] at H; exact H
          have Nbq8 := Aside0.mk hbq8
          clear hbq8
          by_cases c9 : bq8 = true
          · subst c9
            have H1 : (some (false, l0)) = some (r1, r2) := by rw [if_pos rfl] at H; exact H
            clear H
            have H := H1
            clear H1
            simp only [Option.some.injEq, Prod.mk.injEq] at H
            obtain ⟨rfl, rfl⟩ := H
            obtain ⟨Ao10, co10, eo10⟩ := Kd.R_slice HO0.out
            subst eo10
            have p104 : 0 ≤ (a1 : Int) := of_decide_eq_true (by first | (with_reducible assumption) | assumption)
            have q104 : a1 < (l0.length : Int) := of_decide_eq_true (by first | (with_reducible assumption) | assumption)
            obtain ⟨ad104, e104, hx104_0, hx104_1, hx104_2, hx104_3⟩ := at_T33 (Kd.R_reads' HO0.out).2.2 a1 p104 q104
            (try rw [← Nbq8.out] at hx104_0)
            (try rw [← Nbq8.out] at hx104_3)
            cases e104
            replace p104 := eq_true p104
            replace q104 := eq_true q104
            go_enter Try.func11, Try.ntmps11
            go_wp2
            go_ret
            exact ⟨by first | rfl | (simp [errW_none, errW_some] <;> rfl) | (simp [*, errW_none, errW_some] <;> rfl), by (with_reducible repeat (first | apply Kd.R_alloc | apply Kd.R_drewN | apply Kd.R_drew)); exact HO0.out, by repeat (first | (with_reducible first | exact HB.out | apply below_alloc | apply pw_below_drewN | apply below_drew1) | exact HB.out), by repeat (first | (with_reducible first | exact HK.out | apply Kept.alloc | apply Kept.drewN | apply Kept.drew) | exact HK.out)⟩
          · replace c9 := Bool.eq_false_iff.mpr c9
            subst c9
            have H1 : (some (true, (l0.set (a1 : Int).toNat (⟨(rd_T33 l0 a1).f0, (rd_T33 l0 a1).f1, (rd_T33 l0 a1).f2, true⟩ : S33)))) = some (r1, r2) := by rw [if_neg (show ¬ (false = true) by decide)] at H; exact H
            clear H
            have H := H1
            clear H1
            obtain ⟨y105, hy105⟩ : ∃ y_ : List (S33), y_ = (l0.set (a1 : Int).toNat (⟨(rd_T33 l0 a1).f0, (rd_T33 l0 a1).f1, (rd_T33 l0 a1).f2, true⟩ : S33)) := ⟨_, rfl⟩
            replace H : (some (true, y105)) = some (r1, r2) := by first | (rw [hy105]; with_reducible exact H) | (have H2_ := (Option.bind_some _ _).symm.trans H; rw [hy105]; with_reducible exact H2_) | (have H2_ := (Option.bind_some _ _).symm.trans H; with_reducible exact H2_) | with_reducible exact H | (rw [hy105]; exact H) | exact H
            have Ny105 := Aside0.mk hy105
            clear hy105
            simp only [Option.some.injEq, Prod.mk.injEq] at H
            obtain ⟨rfl, rfl⟩ := H
            obtain ⟨Ao12, co12, eo12⟩ := Kd.R_slice HO0.out
            subst eo12
            have p104 : 0 ≤ (a1 : Int) := of_decide_eq_true (by first | (with_reducible assumption) | assumption)
            have q104 : a1 < (l0.length : Int) := of_decide_eq_true (by first | (with_reducible assumption) | assumption)
            obtain ⟨ad104, e104, hx104_0, hx104_1, hx104_2, hx104_3⟩ := at_T33 (Kd.R_reads' HO0.out).2.2 a1 p104 q104
            (try rw [← Nbq8.out] at hx104_0)
            (try rw [← Nbq8.out] at hx104_3)
            cases e104
            replace p104 := eq_true p104
            replace q104 := eq_true q104
            have p11 : 0 ≤ (a1 : Int) := of_decide_eq_true (by first | (with_reducible assumption) | assumption)
            have q11 : (a1 : Int) < ((l0.length : Int) : Int) := of_decide_eq_true (by first | (with_reducible assumption) | assumption)
            obtain ⟨go11, co11, eo11, gb11, gl11, cl11, HG11⟩ := Kd.R_form HO0.out (by omega)
            (first | cases eo11 | (injection eo11 with ea_ en_ ec_; (first | subst ea_ | (injection ea_ with ea_; subst ea_)); subst ec_; clear en_))
            have GB11 := Aside0.mk gb11
            have GG11 := Aside0.mk HG11
            clear gb11 gl11 HG11
            have HMgo11 := Aside0.mk (show (P0_ go11 ∨ w.heap.size ≤ go11) from (HO0.out.1 _ rfl))
            (first | simp only [add_plain] at hx104_0 | skip)
            (first | simp only [add_plain] at hx104_1 | skip)
            (first | simp only [add_plain] at hx104_2 | skip)
            (first | simp only [add_plain] at hx104_3 | skip)
            obtain ⟨ce11, hcl11, hM11, hcc11, hfr11⟩ := Kd.R_elem HO0.out z33 (a1 : Int) p11 q11
            obtain rfl := k33_openM hM11
            have hx11_0 : w.cell? ⟨go11, (a1 : Int).toNat * 4, none⟩ = some (.bool ((rd_T33 l0 a1).f0)) := hcc11 0 _ rfl
            have hx11_1 : w.cell? ⟨go11, (a1 : Int).toNat * 4 + 1, none⟩ = some (.int .i64 ((rd_T33 l0 a1).f1)) := hcc11 1 _ rfl
            have hx11_2 : w.cell? ⟨go11, (a1 : Int).toNat * 4 + 2, none⟩ = some (.int .u64 ((rd_T33 l0 a1).f2)) := hcc11 2 _ rfl
            have hx11_3 : w.cell? ⟨go11, (a1 : Int).toNat * 4 + 3, none⟩ = some (.bool ((rd_T33 l0 a1).f3)) := hcc11 3 _ rfl
            have hf11_0 : w.frozen? ⟨go11, (a1 : Int).toNat * 4, none⟩ = false := hfr11 0
            have hf11_1 : w.frozen? ⟨go11, (a1 : Int).toNat * 4 + 1, none⟩ = false := hfr11 1
            have hf11_2 : w.frozen? ⟨go11, (a1 : Int).toNat * 4 + 2, none⟩ = false := hfr11 2
            have hf11_3 : w.frozen? ⟨go11, (a1 : Int).toNat * 4 + 3, none⟩ = false := hfr11 3
            clear hcl11 hcc11 hfr11 hM11
            replace p11 := eq_true p11
            replace q11 := eq_true q11
            have HX13 := Aside0.mk (show Kd.R k33 33 w w0.heap.size (fun k_ => (P0_ k_ ∨ w.heap.size ≤ k_)) (.slice (some ⟨go11, 0, none⟩) l0.length co12) l0 from (by (with_reducible repeat (first | apply Kd.R_alloc | apply Kd.R_drewN | apply Kd.R_drew)); exact HO0.out))
            obtain ⟨ce13, hcl13, hM13, hcc13, hfr13⟩ := Kd.R_elem HX13.out z33 (a1 : Int) (of_decide_eq_true (by first | (with_reducible assumption) | assumption)) (by have h_ : (a1 : Int) < ((l0.length : Int) : Int) := of_decide_eq_true (by first | (with_reducible assumption) | assumption); first | exact h_ | (have e_ := (Kd.R_reads' HO0.out).1; omega) | simpa using h_)
            obtain rfl := k33_openM hM13
            have HP13 := Kd.R_seg HX13.out (a1 : Int) (of_decide_eq_true (by first | (with_reducible assumption) | assumption)) (by have h_ : (a1 : Int) < ((l0.length : Int) : Int) := of_decide_eq_true (by first | (with_reducible assumption) | assumption); first | exact h_ | (have e_ := (Kd.R_reads' HO0.out).1; omega) | simpa using h_) (seg := [.bool true]) (j := 3) hcl13 hcc13 (show 4 ≤ 4 from by decide) (x' := (⟨(rd_T33 l0 a1).f0, (rd_T33 l0 a1).f1, (rd_T33 l0 a1).f2, true⟩ : S33)) (k33_mkM _ _ _ (⟨(rd_T33 l0 a1).f0, (rd_T33 l0 a1).f1, (rd_T33 l0 a1).f2, true⟩ : S33) ) (fun _ hk => hk)
            have hx13_3 := hcc13 3 _ rfl
            (try simp only [show (k33).sz = 4 from rfl, Nat.mul_one, Nat.add_zero] at hx13_3)
            have hf13_3 := hfr13 3
            (try simp only [show (k33).sz = 4 from rfl, Nat.mul_one, Nat.add_zero] at hf13_3)
            clear hcl13 hcc13 hfr13 hM13
            go_enter Try.func11, Try.ntmps11
            go_wp2_with (first | ((with_reducible refine gate_store (t := 4) (p := 23) rfl ?_); refine store_event (t := 4) (p := 23) (v := ?vo_w14) (w1 := (w.setCell ⟨go11, (a1 : Int).toNat * 4 + 3, none⟩ (.bool true))) ?hg ?ho ?hn ?hr ?_; (case ho => rfl); (case hg => rfl); (case hn => rfl); (case hr => first | (go_simp; done) | (go_simp; rfl)); intro w14 hw; have hg : w.grownBy w14 (some go11) := (by rw [hw]; exact HP13.2); have hp_ : Kd.R k33 33 w14 w0.heap.size (fun k_ => (P0_ k_ ∨ w.heap.size ≤ k_)) (.slice (some ⟨go11, 0, none⟩) l0.length co12) y105 := (by rw [hw, Ny105.out]; exact HP13.1); clear HP13; have n0_ := Aside0.mk (hp_); have n1_ := Aside0.mk ((by rw [hw]; exact below_set (HB.out) GB11.out : Below w0.heap.size w0 w14)); have n2_ := Aside0.mk (Kept.of_grown (S := (fun k_ => P0_ k_)) hg (by repeat (first | (with_reducible first | exact HK.out | apply Kept.alloc | apply Kept.drewN | apply Kept.drew) | exact HK.out)) (fun k_ e_ => (HO0.out.1 k_ e_))); clear HO0; clear HB; clear HK; have HO0 := n0_; have HB := n1_; have HK := n2_; clear n0_ n1_ n2_; clear hg hw hp_))
            go_ret
            exact ⟨by first | rfl | (simp [errW_none, errW_some] <;> rfl) | (simp [*, errW_none, errW_some] <;> rfl), by (with_reducible repeat (first | apply Kd.R_alloc | apply Kd.R_drewN | apply Kd.R_drew)); exact HO0.out, by repeat (first | (with_reducible first | exact HB.out | apply below_alloc | apply pw_below_drewN | apply below_drew1) | exact HB.out), by repeat (first | (with_reducible first | exact HK.out | apply Kept.alloc | apply Kept.drewN | apply Kept.drew) | exact HK.out)⟩
        · rw [if_neg c7] at H
          exact absurd H (by simp)
      · rw [if_neg c6] at H
        exact absurd H (by simp)

/-! ### latest_Votes_Take: function 12 -/
def latest_Votes_Take.f (l0 : List (S33)) (a1 : Int) (a2 : Int) (a3 : Int) : Option (Bool × (List (S33))) := if a1 < 0 then (some (false, l0)) else (if a1 ≥ (l0.length : Int) then (some (false, l0)) else (if 0 ≤ a1 then (if a1 < (l0.length : Int) then (if (rd_T33 l0 a1).f3 = true then (some (false, l0)) else (if (rd_T33 l0 a1).f0 = true then (if a2 ≤ ((rd_T33 l0 a1).f1) then (some (false, l0)) else (some (true, (l0.set (a1 : Int).toNat (⟨true, a2, a3, false⟩ : S33))))) else (some (true, (l0.set (a1 : Int).toNat (⟨true, a2, a3, false⟩ : S33)))))) else (none)) else (none)))
set_option maxHeartbeats 8000000 in
set_option maxRecDepth 100000 in
theorem latest_Votes_Take.calls (P0_ : Nat → Prop) (u9000_ : Value) (l0 : List (S33)) (a1 : Int) (a2 : Int) (a3 : Int) (r1 : Bool) (r2 : List (S33)) (w0 w : World) (hB : Below w0.heap.size w0 w) (ho0 : Kd.R k33 33 w w0.heap.size P0_ u9000_ l0) (h : latest_Votes_Take.f l0 a1 a2 a3 = some (r1, r2)) :
    Calls Try.prog 12 #[u9000_, .int .i64 a1, .int .i64 a2, .int .u64 a3] w fun e w' => e = .returned (.bool r1) ∧ Kd.R k33 33 w' w0.heap.size (fun k_ => (P0_ k_ ∨ w.heap.size ≤ k_)) u9000_ r2 ∧ Below w0.heap.size w0 w' ∧ Kept w w' (fun k_ => P0_ k_) := by
  have hu33 := Try.underlying33
  have HO0 := Aside0.mk (show Kd.R k33 33 w w0.heap.size (fun k_ => (P0_ k_ ∨ w.heap.size ≤ k_)) u9000_ l0 from Kd.R_mono ho0 (fun k_ hk => (.inl hk)))
  have HK := Aside0.mk (Kept.refl w (fun k_ => P0_ k_))
  have HW0 := Aside0.mk hB.size
  have HB := Aside0.mk hB
  clear hB
  have H : (if a1 < 0 then (some (false, l0)) else (if a1 ≥ (l0.length : Int) then (some (false, l0)) else (if 0 ≤ a1 then (if a1 < (l0.length : Int) then (if (rd_T33 l0 a1).f3 = true then (some (false, l0)) else (if (rd_T33 l0 a1).f0 = true then (if a2 ≤ ((rd_T33 l0 a1).f1) then (some (false, l0)) else (some (true, (l0.set (a1 : Int).toNat (⟨true, a2, a3, false⟩ : S33))))) else (some (true, (l0.set (a1 : Int).toNat (⟨true, a2, a3, false⟩ : S33)))))) else (none)) else (none)))) = some (r1, r2) := h
  clear h
  by_cases c5 : a1 < 0
  · rw [if_pos c5] at H
    have c5b0 : decide (a1 < 0) = true := decide_eq_true c5
    clear c5
    simp only [Option.some.injEq, Prod.mk.injEq] at H
    obtain ⟨rfl, rfl⟩ := H
    go_enter Try.func12, Try.ntmps12
    go_wp2
    go_ret
    exact ⟨by first | rfl | (simp [errW_none, errW_some] <;> rfl) | (simp [*, errW_none, errW_some] <;> rfl), by (with_reducible repeat (first | apply Kd.R_alloc | apply Kd.R_drewN | apply Kd.R_drew)); exact HO0.out, by repeat (first | (with_reducible first | exact HB.out | apply below_alloc | apply pw_below_drewN | apply below_drew1) | exact HB.out), by repeat (first | (with_reducible first | exact HK.out | apply Kept.alloc | apply Kept.drewN | apply Kept.drew) | exact HK.out)⟩
  · rw [if_neg c5] at H
    have c5b0 : decide (a1 < 0) = false := decide_eq_false c5
    clear c5
    by_cases c6 : a1 ≥ (l0.length : Int)
    · rw [if_pos c6] at H
      have c6b0 : decide ((l0.length : Int) ≤ a1) = true := decide_eq_true c6
      clear c6
      simp only [Option.some.injEq, Prod.mk.injEq] at H
      obtain ⟨rfl, rfl⟩ := H
      obtain ⟨Ao7, co7, eo7⟩ := Kd.R_slice HO0.out
      subst eo7
      go_enter Try.func12, Try.ntmps12
      go_wp2
      go_ret
      exact ⟨by first | rfl | (simp [errW_none, errW_some] <;> rfl) | (simp [*, errW_none, errW_some] <;> rfl), by (with_reducible repeat (first | apply Kd.R_alloc | apply Kd.R_drewN | apply Kd.R_drew)); exact HO0.out, by repeat (first | (with_reducible first | exact HB.out | apply below_alloc | apply pw_below_drewN | apply below_drew1) | exact HB.out), by repeat (first | (with_reducible first | exact HK.out | apply Kept.alloc | apply Kept.drewN | apply Kept.drew) | exact HK.out)⟩
    · rw [if_neg c6] at H
      have c6b0 : decide ((l0.length : Int) ≤ a1) = false := decide_eq_false c6
      clear c6
      by_cases c8 : 0 ≤ a1
      · rw [if_pos c8] at H
        have c8b0 : decide (0 ≤ a1) = true := decide_eq_true c8
        clear c8
        by_cases c9 : a1 < (l0.length : Int)
        · rw [if_pos c9] at H
          have c9b0 : decide (a1 < (l0.length : Int)) = true := decide_eq_true c9
          clear c9
          obtain ⟨bq10, hbq10⟩ : ∃ b_ : Bool, b_ = ((rd_T33 l0 a1).f3) := ⟨_, rfl⟩
          replace H : (if bq10 = true then (some (false, l0)) else (if (rd_T33 l0 a1).f0 = true then (if a2 ≤ ((rd_T33 l0 a1).f1) then (some (false, l0)) else (some (true, (l0.set (a1 : Int).toNat (⟨true, a2, a3, false⟩ : S33))))) else (some (true, (l0.set (a1 : Int).toNat (⟨true, a2, a3, false⟩ : S33)))))) = some (r1, r2) := by rw [← hbq10] at H; exact H
          have Nbq10 := Aside0.mk hbq10
          clear hbq10
          by_cases c11 : bq10 = true
          · subst c11
            have H1 : (some (false, l0)) = some (r1, r2) := by rw [if_pos rfl] at H; exact H
            clear H
            have H := H1
            clear H1
            simp only [Option.some.injEq, Prod.mk.injEq] at H
            obtain ⟨rfl, rfl⟩ := H
            obtain ⟨Ao12, co12, eo12⟩ := Kd.R_slice HO0.out
            subst eo12
            have p106 : 0 ≤ (a1 : Int) := of_decide_eq_true (by first | (with_reducible assumption) | assumption)
            have q106 : a1 < (l0.length : Int) := of_decide_eq_true (by first | (with_reducible assumption) | assumption)
            obtain ⟨ad106, e106, hx106_0, hx106_1, hx106_2, hx106_3⟩ := at_T33 (Kd.R_reads' HO0.out).2.2 a1 p106 q106
            (try rw [← Nbq10.out] at hx106_0)
            (try rw [← Nbq10.out] at hx106_3)
            cases e106
            replace p106 := eq_true p106
            replace q106 := eq_true q106
            go_enter Try.func12, Try.ntmps12
            go_wp2
            go_ret
            exact ⟨by first | rfl | (simp [errW_none, errW_some] <;> rfl) | (simp [*, errW_none, errW_some] <;> rfl), by (with_reducible repeat (first | apply Kd.R_alloc | apply Kd.R_drewN | apply Kd.R_drew)); exact HO0.out, by repeat (first | (with_reducible first | exact HB.out | apply below_alloc | apply pw_below_drewN | apply below_drew1) | exact HB.out), by repeat (first | (with_reducible first | exact HK.out | apply Kept.alloc | apply Kept.drewN | apply Kept.drew) | exact HK.out)⟩
          · replace c11 := Bool.eq_false_iff.mpr c11
            subst c11
            have H1 : (if (rd_T33 l0 a1).f0 = true then (if a2 ≤ ((rd_T33 l0 a1).f1) then (some (false, l0)) else (some (true, (l0.set (a1 : Int).toNat (⟨true, a2, a3, false⟩ : S33))))) else (some (true, (l0.set (a1 : Int).toNat (⟨true, a2, a3, false⟩ : S33))))) = some (r1, r2) := by rw [if_neg (show ¬ (false = true) by decide)] at H; exact H
            clear H
            have H := H1
            clear H1
            obtain ⟨bq13, hbq13⟩ : ∃ b_ : Bool, b_ = ((rd_T33 l0 a1).f0) := ⟨_, rfl⟩
            replace H : (if bq13 = true then (if a2 ≤ ((rd_T33 l0 a1).f1) then (some (false, l0)) else (some (true, (l0.set (a1 : Int).toNat (⟨true, a2, a3, false⟩ : S33))))) else (some (true, (l0.set (a1 : Int).toNat (⟨true, a2, a3, false⟩ : S33))))) = some (r1, r2) := by rw [← hbq13] at H; exact H
            have Nbq13 := Aside0.mk hbq13
            clear hbq13
            by_cases c14 : bq13 = true
            · subst c14
              have H1 : (if a2 ≤ ((rd_T33 l0 a1).f1) then (some (false, l0)) else (some (true, (l0.set (a1 : Int).toNat (⟨true, a2, a3, false⟩ : S33))))) = some (r1, r2) := by rw [if_pos rfl] at H; exact H
              clear H
              have H := H1
              clear H1
              by_cases c15 : a2 ≤ ((rd_T33 l0 a1).f1)
              · rw [if_pos c15] at H
                have c15b0 : decide (a2 ≤ ((rd_T33 l0 a1).f1)) = true := decide_eq_true c15
                clear c15
                simp only [Option.some.injEq, Prod.mk.injEq] at H
                obtain ⟨rfl, rfl⟩ := H
                obtain ⟨Ao16, co16, eo16⟩ := Kd.R_slice HO0.out
                subst eo16
                have p106 : 0 ≤ (a1 : Int) := of_decide_eq_true (by first | (with_reducible assumption) | assumption)
                have q106 : a1 < (l0.length : Int) := of_decide_eq_true (by first | (with_reducible assumption) | assumption)
                obtain ⟨ad106, e106, hx106_0, hx106_1, hx106_2, hx106_3⟩ := at_T33 (Kd.R_reads' HO0.out).2.2 a1 p106 q106
                (try rw [← Nbq10.out] at hx106_0)
                (try rw [← Nbq13.out] at hx106_0)
                (try rw [← Nbq10.out] at hx106_3)
                (try rw [← Nbq13.out] at hx106_3)
                cases e106
                replace p106 := eq_true p106
                replace q106 := eq_true q106
                have p107 : 0 ≤ (a1 : Int) := of_decide_eq_true (by first | (with_reducible assumption) | assumption)
                have q107 : a1 < (l0.length : Int) := of_decide_eq_true (by first | (with_reducible assumption) | assumption)
                obtain ⟨ad107, e107, hx107_0, hx107_1, hx107_2, hx107_3⟩ := at_T33 (Kd.R_reads' HO0.out).2.2 a1 p107 q107
                (try rw [← Nbq10.out] at hx107_0)
                (try rw [← Nbq13.out] at hx107_0)
                (try rw [← Nbq10.out] at hx107_3)
                (try rw [← Nbq13.out] at hx107_3)
                obtain rfl : ad106 = ad107 := (by injection e107)
                replace p107 := eq_true p107
                replace q107 := eq_true q107
                have p108 : 0 ≤ (a1 : Int) := of_decide_eq_true (by first | (with_reducible assumption) | assumption)
                have q108 : a1 < (l0.length : Int) := of_decide_eq_true (by first | (with_reducible assumption) | assumption)
                obtain ⟨ad108, e108, hx108_0, hx108_1, hx108_2, hx108_3⟩ := at_T33 (Kd.R_reads' HO0.out).2.2 a1 p108 q108
                (try rw [← Nbq10.out] at hx108_0)
                (try rw [← Nbq13.out] at hx108_0)
                (try rw [← Nbq10.out] at hx108_3)
                (try rw [← Nbq13.out] at hx108_3)
                obtain rfl : ad106 = ad108 := (by injection e108)
                replace p108 := eq_true p108
                replace q108 := eq_true q108
                go_enter Try.func12, Try.ntmps12
                go_wp2
                go_ret
                exact ⟨by first | rfl | (simp [errW_none, errW_some] <;> rfl) | (simp [*, errW_none, errW_some] <;> rfl), by (with_reducible repeat (first | apply Kd.R_alloc | apply Kd.R_drewN | apply Kd.R_drew)); exact HO0.out, by repeat (first | (with_reducible first | exact HB.out | apply below_alloc | apply pw_below_drewN | apply below_drew1) | exact HB.out), by repeat (first | (with_reducible first | exact HK.out | apply Kept.alloc | apply Kept.drewN | apply Kept.drew) | exact HK.out)⟩
              · rw [if_neg c15] at H
                have c15b0 : decide (a2 ≤ ((rd_T33 l0 a1).f1)) = false := decide_eq_false c15
                clear c15
                obtain ⟨y109, hy109⟩ : ∃ y_ : List (S33), y_ = (l0.set (a1 : Int).toNat (⟨true, a2, a3, false⟩ : S33)) := ⟨_, rfl⟩
                replace H : (some (true, y109)) = some (r1, r2) := by first | (rw [hy109]; with_reducible exact H) | (have H2_ := (Option.bind_some _ _).symm.trans H; rw [hy109]; with_reducible exact H2_) | (have H2_ := (Option.bind_some _ _).symm.trans H; with_reducible exact H2_) | with_reducible exact H | (rw [hy109]; exact H) | exact H
                have Ny109 := Aside0.mk hy109
                clear hy109
                simp only [Option.some.injEq, Prod.mk.injEq] at H
                obtain ⟨rfl, rfl⟩ := H
                obtain ⟨Ao18, co18, eo18⟩ := Kd.R_slice HO0.out
                subst eo18
                have p106 : 0 ≤ (a1 : Int) := of_decide_eq_true (by first | (with_reducible assumption) | assumption)
                have q106 : a1 < (l0.length : Int) := of_decide_eq_true (by first | (with_reducible assumption) | assumption)
                obtain ⟨ad106, e106, hx106_0, hx106_1, hx106_2, hx106_3⟩ := at_T33 (Kd.R_reads' HO0.out).2.2 a1 p106 q106
                (try rw [← Nbq10.out] at hx106_0)
                (try rw [← Nbq13.out] at hx106_0)
                (try rw [← Nbq10.out] at hx106_3)
                (try rw [← Nbq13.out] at hx106_3)
                cases e106
                replace p106 := eq_true p106
                replace q106 := eq_true q106
                have p107 : 0 ≤ (a1 : Int) := of_decide_eq_true (by first | (with_reducible assumption) | assumption)
                have q107 : a1 < (l0.length : Int) := of_decide_eq_true (by first | (with_reducible assumption) | assumption)
                obtain ⟨ad107, e107, hx107_0, hx107_1, hx107_2, hx107_3⟩ := at_T33 (Kd.R_reads' HO0.out).2.2 a1 p107 q107
                (try rw [← Nbq10.out] at hx107_0)
                (try rw [← Nbq13.out] at hx107_0)
                (try rw [← Nbq10.out] at hx107_3)
                (try rw [← Nbq13.out] at hx107_3)
                obtain rfl : ad106 = ad107 := (by injection e107)
                replace p107 := eq_true p107
                replace q107 := eq_true q107
                have p108 : 0 ≤ (a1 : Int) := of_decide_eq_true (by first | (with_reducible assumption) | assumption)
                have q108 : a1 < (l0.length : Int) := of_decide_eq_true (by first | (with_reducible assumption) | assumption)
                obtain ⟨ad108, e108, hx108_0, hx108_1, hx108_2, hx108_3⟩ := at_T33 (Kd.R_reads' HO0.out).2.2 a1 p108 q108
                (try rw [← Nbq10.out] at hx108_0)
                (try rw [← Nbq13.out] at hx108_0)
                (try rw [← Nbq10.out] at hx108_3)
                (try rw [← Nbq13.out] at hx108_3)
                obtain rfl : ad106 = ad108 := (by injection e108)
                replace p108 := eq_true p108
                replace q108 := eq_true q108
                have p17 : 0 ≤ (a1 : Int) := of_decide_eq_true (by first | (with_reducible assumption) | assumption)
                have q17 : (a1 : Int) < ((l0.length : Int) : Int) := of_decide_eq_true (by first | (with_reducible assumption) | assumption)
                obtain ⟨go17, co17, eo17, gb17, gl17, cl17, HG17⟩ := Kd.R_form HO0.out (by omega)
                (first | cases eo17 | (injection eo17 with ea_ en_ ec_; (first | subst ea_ | (injection ea_ with ea_; subst ea_)); subst ec_; clear en_))
                have GB17 := Aside0.mk gb17
                have GG17 := Aside0.mk HG17
                clear gb17 gl17 HG17
                have HMgo17 := Aside0.mk (show (P0_ go17 ∨ w.heap.size ≤ go17) from (HO0.out.1 _ rfl))
                (first | simp only [add_plain] at hx106_0 | skip)
                (first | simp only [add_plain] at hx106_1 | skip)
                (first | simp only [add_plain] at hx106_2 | skip)
                (first | simp only [add_plain] at hx106_3 | skip)
                (first | simp only [add_plain] at hx107_0 | skip)
                (first | simp only [add_plain] at hx107_1 | skip)
                (first | simp only [add_plain] at hx107_2 | skip)
                (first | simp only [add_plain] at hx107_3 | skip)
                (first | simp only [add_plain] at hx108_0 | skip)
                (first | simp only [add_plain] at hx108_1 | skip)
                (first | simp only [add_plain] at hx108_2 | skip)
                (first | simp only [add_plain] at hx108_3 | skip)
                obtain ⟨ce17, hcl17, hM17, hcc17, hfr17⟩ := Kd.R_elem HO0.out z33 (a1 : Int) p17 q17
                obtain rfl := k33_openM hM17
                have hx17_0 : w.cell? ⟨go17, (a1 : Int).toNat * 4, none⟩ = some (.bool ((rd_T33 l0 a1).f0)) := hcc17 0 _ rfl
                have hx17_1 : w.cell? ⟨go17, (a1 : Int).toNat * 4 + 1, none⟩ = some (.int .i64 ((rd_T33 l0 a1).f1)) := hcc17 1 _ rfl
                have hx17_2 : w.cell? ⟨go17, (a1 : Int).toNat * 4 + 2, none⟩ = some (.int .u64 ((rd_T33 l0 a1).f2)) := hcc17 2 _ rfl
                have hx17_3 : w.cell? ⟨go17, (a1 : Int).toNat * 4 + 3, none⟩ = some (.bool ((rd_T33 l0 a1).f3)) := hcc17 3 _ rfl
                have hf17_0 : w.frozen? ⟨go17, (a1 : Int).toNat * 4, none⟩ = false := hfr17 0
                have hf17_1 : w.frozen? ⟨go17, (a1 : Int).toNat * 4 + 1, none⟩ = false := hfr17 1
                have hf17_2 : w.frozen? ⟨go17, (a1 : Int).toNat * 4 + 2, none⟩ = false := hfr17 2
                have hf17_3 : w.frozen? ⟨go17, (a1 : Int).toNat * 4 + 3, none⟩ = false := hfr17 3
                clear hcl17 hcc17 hfr17 hM17
                replace p17 := eq_true p17
                replace q17 := eq_true q17
                have HX19 := Aside0.mk (show Kd.R k33 33 w w0.heap.size (fun k_ => (P0_ k_ ∨ w.heap.size ≤ k_)) (.slice (some ⟨go17, 0, none⟩) l0.length co18) l0 from (by (with_reducible repeat (first | apply Kd.R_alloc | apply Kd.R_drewN | apply Kd.R_drew)); exact HO0.out))
                obtain ⟨ce19, hcl19, hM19, hcc19, hfr19⟩ := Kd.R_elem HX19.out z33 (a1 : Int) (of_decide_eq_true (by first | (with_reducible assumption) | assumption)) (by have h_ : (a1 : Int) < ((l0.length : Int) : Int) := of_decide_eq_true (by first | (with_reducible assumption) | assumption); first | exact h_ | (have e_ := (Kd.R_reads' HO0.out).1; omega) | simpa using h_)
                obtain rfl := k33_openM hM19
                have HP19 := Kd.R_seg HX19.out (a1 : Int) (of_decide_eq_true (by first | (with_reducible assumption) | assumption)) (by have h_ : (a1 : Int) < ((l0.length : Int) : Int) := of_decide_eq_true (by first | (with_reducible assumption) | assumption); first | exact h_ | (have e_ := (Kd.R_reads' HO0.out).1; omega) | simpa using h_) (seg := [.bool true, .int .i64 a2, .int .u64 a3, .bool false]) (j := 0) hcl19 hcc19 (show 4 ≤ 4 from by decide) (x' := (⟨true, a2, a3, false⟩ : S33)) (k33_mkM _ _ _ (⟨true, a2, a3, false⟩ : S33) ) (fun _ hk => hk)
                have hx19_0 := hcc19 0 _ rfl
                (try simp only [show (k33).sz = 4 from rfl, Nat.mul_one, Nat.add_zero] at hx19_0)
                have hf19_0 := hfr19 0
                (try simp only [show (k33).sz = 4 from rfl, Nat.mul_one, Nat.add_zero] at hf19_0)
                have hx19_1 := hcc19 1 _ rfl
                (try simp only [show (k33).sz = 4 from rfl, Nat.mul_one, Nat.add_zero] at hx19_1)
                have hf19_1 := hfr19 1
                (try simp only [show (k33).sz = 4 from rfl, Nat.mul_one, Nat.add_zero] at hf19_1)
                have hx19_2 := hcc19 2 _ rfl
                (try simp only [show (k33).sz = 4 from rfl, Nat.mul_one, Nat.add_zero] at hx19_2)
                have hf19_2 := hfr19 2
                (try simp only [show (k33).sz = 4 from rfl, Nat.mul_one, Nat.add_zero] at hf19_2)
                have hx19_3 := hcc19 3 _ rfl
                (try simp only [show (k33).sz = 4 from rfl, Nat.mul_one, Nat.add_zero] at hx19_3)
                have hf19_3 := hfr19 3
                (try simp only [show (k33).sz = 4 from rfl, Nat.mul_one, Nat.add_zero] at hf19_3)
                clear hcl19 hcc19 hfr19 hM19
                go_enter Try.func12, Try.ntmps12
                go_wp2_with (first | ((with_reducible refine gate_store (t := 33) (p := 45) rfl ?_); refine store_event (t := 33) (p := 45) (v := ?vo_w20) (w1 := ((((w.setCell ⟨go17, (a1 : Int).toNat * 4, none⟩ (.bool true)).setCell ⟨go17, (a1 : Int).toNat * 4 + 1, none⟩ (.int .i64 a2)).setCell ⟨go17, (a1 : Int).toNat * 4 + 2, none⟩ (.int .u64 a3)).setCell ⟨go17, (a1 : Int).toNat * 4 + 3, none⟩ (.bool false))) ?hg ?ho ?hn ?hr ?_; (case ho => rfl); (case hg => rfl); (case hn => rfl); (case hr => first | (go_simp; done) | (go_simp; rfl)); intro w20 hw; have hg : w.grownBy w20 (some go17) := (by rw [hw]; exact HP19.2); have hp_ : Kd.R k33 33 w20 w0.heap.size (fun k_ => (P0_ k_ ∨ w.heap.size ≤ k_)) (.slice (some ⟨go17, 0, none⟩) l0.length co18) y109 := (by rw [hw, Ny109.out]; exact HP19.1); clear HP19; have n0_ := Aside0.mk (hp_); have n1_ := Aside0.mk ((by rw [hw]; exact below_set (below_set (below_set (below_set (HB.out) GB17.out) GB17.out) GB17.out) GB17.out : Below w0.heap.size w0 w20)); have n2_ := Aside0.mk (Kept.of_grown (S := (fun k_ => P0_ k_)) hg (by repeat (first | (with_reducible first | exact HK.out | apply Kept.alloc | apply Kept.drewN | apply Kept.drew) | exact HK.out)) (fun k_ e_ => (HO0.out.1 k_ e_))); clear HO0; clear HB; clear HK; have HO0 := n0_; have HB := n1_; have HK := n2_; clear n0_ n1_ n2_; clear hg hw hp_))
                go_ret
                exact ⟨by first | rfl | (simp [errW_none, errW_some] <;> rfl) | (simp [*, errW_none, errW_some] <;> rfl), by (with_reducible repeat (first | apply Kd.R_alloc | apply Kd.R_drewN | apply Kd.R_drew)); exact HO0.out, by repeat (first | (with_reducible first | exact HB.out | apply below_alloc | apply pw_below_drewN | apply below_drew1) | exact HB.out), by repeat (first | (with_reducible first | exact HK.out | apply Kept.alloc | apply Kept.drewN | apply Kept.drew) | exact HK.out)⟩
            · replace c14 := Bool.eq_false_iff.mpr c14
              subst c14
              have H1 : (some (true, (l0.set (a1 : Int).toNat (⟨true, a2, a3, false⟩ : S33)))) = some (r1, r2) := by rw [if_neg (show ¬ (false = true) by decide)] at H; exact H
              clear H
              have H := H1
              clear H1
              obtain ⟨y110, hy110⟩ : ∃ y_ : List (S33), y_ = (l0.set (a1 : Int).toNat (⟨true, a2, a3, false⟩ : S33)) := ⟨_, rfl⟩
              replace H : (some (true, y110)) = some (r1, r2) := by first | (rw [hy110]; with_reducible exact H) | (have H2_ := (Option.bind_some _ _).symm.trans H; rw [hy110]; with_reducible exact H2_) | (have H2_ := (Option.bind_some _ _).symm.trans H; with_reducible exact H2_) | with_reducible exact H | (rw [hy110]; exact H) | exact H
              have Ny110 := Aside0.mk hy110
              clear hy110
              simp only [Option.some.injEq, Prod.mk.injEq] at H
              obtain ⟨rfl, rfl⟩ := H
              obtain ⟨Ao22, co22, eo22⟩ := Kd.R_slice HO0.out
              subst eo22
              have p106 : 0 ≤ (a1 : Int) := of_decide_eq_true (by first | (with_reducible assumption) | assumption)
              have q106 : a1 < (l0.length : Int) := of_decide_eq_true (by first | (with_reducible assumption) | assumption)
              obtain ⟨ad106, e106, hx106_0, hx106_1, hx106_2, hx106_3⟩ := at_T33 (Kd.R_reads' HO0.out).2.2 a1 p106 q106
              (try rw [← Nbq10.out] at hx106_0)
              (try rw [← Nbq13.out] at hx106_0)
              (try rw [← Nbq10.out] at hx106_3)
              (try rw [← Nbq13.out] at hx106_3)
              cases e106
              replace p106 := eq_true p106
              replace q106 := eq_true q106
              have p107 : 0 ≤ (a1 : Int) := of_decide_eq_true (by first | (with_reducible assumption) | assumption)
              have q107 : a1 < (l0.length : Int) := of_decide_eq_true (by first | (with_reducible assumption) | assumption)
              obtain ⟨ad107, e107, hx107_0, hx107_1, hx107_2, hx107_3⟩ := at_T33 (Kd.R_reads' HO0.out).2.2 a1 p107 q107
              (try rw [← Nbq10.out] at hx107_0)
              (try rw [← Nbq13.out] at hx107_0)
              (try rw [← Nbq10.out] at hx107_3)
              (try rw [← Nbq13.out] at hx107_3)
              obtain rfl : ad106 = ad107 := (by injection e107)
              replace p107 := eq_true p107
              replace q107 := eq_true q107
              have p21 : 0 ≤ (a1 : Int) := of_decide_eq_true (by first | (with_reducible assumption) | assumption)
              have q21 : (a1 : Int) < ((l0.length : Int) : Int) := of_decide_eq_true (by first | (with_reducible assumption) | assumption)
              obtain ⟨go21, co21, eo21, gb21, gl21, cl21, HG21⟩ := Kd.R_form HO0.out (by omega)
              (first | cases eo21 | (injection eo21 with ea_ en_ ec_; (first | subst ea_ | (injection ea_ with ea_; subst ea_)); subst ec_; clear en_))
              have GB21 := Aside0.mk gb21
              have GG21 := Aside0.mk HG21
              clear gb21 gl21 HG21
              have HMgo21 := Aside0.mk (show (P0_ go21 ∨ w.heap.size ≤ go21) from (HO0.out.1 _ rfl))
              (first | simp only [add_plain] at hx106_0 | skip)
              (first | simp only [add_plain] at hx106_1 | skip)
              (first | simp only [add_plain] at hx106_2 | skip)
              (first | simp only [add_plain] at hx106_3 | skip)
              (first | simp only [add_plain] at hx107_0 | skip)
              (first | simp only [add_plain] at hx107_1 | skip)
              (first | simp only [add_plain] at hx107_2 | skip)
              (first | simp only [add_plain] at hx107_3 | skip)
              obtain ⟨ce21, hcl21, hM21, hcc21, hfr21⟩ := Kd.R_elem HO0.out z33 (a1 : Int) p21 q21
              obtain rfl := k33_openM hM21
              have hx21_0 : w.cell? ⟨go21, (a1 : Int).toNat * 4, none⟩ = some (.bool ((rd_T33 l0 a1).f0)) := hcc21 0 _ rfl
              have hx21_1 : w.cell? ⟨go21, (a1 : Int).toNat * 4 + 1, none⟩ = some (.int .i64 ((rd_T33 l0 a1).f1)) := hcc21 1 _ rfl
              have hx21_2 : w.cell? ⟨go21, (a1 : Int).toNat * 4 + 2, none⟩ = some (.int .u64 ((rd_T33 l0 a1).f2)) := hcc21 2 _ rfl
              have hx21_3 : w.cell? ⟨go21, (a1 : Int).toNat * 4 + 3, none⟩ = some (.bool ((rd_T33 l0 a1).f3)) := hcc21 3 _ rfl
              have hf21_0 : w.frozen? ⟨go21, (a1 : Int).toNat * 4, none⟩ = false := hfr21 0
              have hf21_1 : w.frozen? ⟨go21, (a1 : Int).toNat * 4 + 1, none⟩ = false := hfr21 1
              have hf21_2 : w.frozen? ⟨go21, (a1 : Int).toNat * 4 + 2, none⟩ = false := hfr21 2
              have hf21_3 : w.frozen? ⟨go21, (a1 : Int).toNat * 4 + 3, none⟩ = false := hfr21 3
              clear hcl21 hcc21 hfr21 hM21
              replace p21 := eq_true p21
              replace q21 := eq_true q21
              have HX23 := Aside0.mk (show Kd.R k33 33 w w0.heap.size (fun k_ => (P0_ k_ ∨ w.heap.size ≤ k_)) (.slice (some ⟨go21, 0, none⟩) l0.length co22) l0 from (by (with_reducible repeat (first | apply Kd.R_alloc | apply Kd.R_drewN | apply Kd.R_drew)); exact HO0.out))
              obtain ⟨ce23, hcl23, hM23, hcc23, hfr23⟩ := Kd.R_elem HX23.out z33 (a1 : Int) (of_decide_eq_true (by first | (with_reducible assumption) | assumption)) (by have h_ : (a1 : Int) < ((l0.length : Int) : Int) := of_decide_eq_true (by first | (with_reducible assumption) | assumption); first | exact h_ | (have e_ := (Kd.R_reads' HO0.out).1; omega) | simpa using h_)
              obtain rfl := k33_openM hM23
              have HP23 := Kd.R_seg HX23.out (a1 : Int) (of_decide_eq_true (by first | (with_reducible assumption) | assumption)) (by have h_ : (a1 : Int) < ((l0.length : Int) : Int) := of_decide_eq_true (by first | (with_reducible assumption) | assumption); first | exact h_ | (have e_ := (Kd.R_reads' HO0.out).1; omega) | simpa using h_) (seg := [.bool true, .int .i64 a2, .int .u64 a3, .bool false]) (j := 0) hcl23 hcc23 (show 4 ≤ 4 from by decide) (x' := (⟨true, a2, a3, false⟩ : S33)) (k33_mkM _ _ _ (⟨true, a2, a3, false⟩ : S33) ) (fun _ hk => hk)
              have hx23_0 := hcc23 0 _ rfl
              (try simp only [show (k33).sz = 4 from rfl, Nat.mul_one, Nat.add_zero] at hx23_0)
              have hf23_0 := hfr23 0
              (try simp only [show (k33).sz = 4 from rfl, Nat.mul_one, Nat.add_zero] at hf23_0)
              have hx23_1 := hcc23 1 _ rfl
              (try simp only [show (k33).sz = 4 from rfl, Nat.mul_one, Nat.add_zero] at hx23_1)
              have hf23_1 := hfr23 1
              (try simp only [show (k33).sz = 4 from rfl, Nat.mul_one, Nat.add_zero] at hf23_1)
              have hx23_2 := hcc23 2 _ rfl
              (try simp only [show (k33).sz = 4 from rfl, Nat.mul_one, Nat.add_zero] at hx23_2)
              have hf23_2 := hfr23 2
              (try simp only [show (k33).sz = 4 from rfl, Nat.mul_one, Nat.add_zero] at hf23_2)
              have hx23_3 := hcc23 3 _ rfl
              (try simp only [show (k33).sz = 4 from rfl, Nat.mul_one, Nat.add_zero] at hx23_3)
              have hf23_3 := hfr23 3
              (try simp only [show (k33).sz = 4 from rfl, Nat.mul_one, Nat.add_zero] at hf23_3)
              clear hcl23 hcc23 hfr23 hM23
              go_enter Try.func12, Try.ntmps12
              go_wp2_with (first | ((with_reducible refine gate_store (t := 33) (p := 45) rfl ?_); refine store_event (t := 33) (p := 45) (v := ?vo_w24) (w1 := ((((w.setCell ⟨go21, (a1 : Int).toNat * 4, none⟩ (.bool true)).setCell ⟨go21, (a1 : Int).toNat * 4 + 1, none⟩ (.int .i64 a2)).setCell ⟨go21, (a1 : Int).toNat * 4 + 2, none⟩ (.int .u64 a3)).setCell ⟨go21, (a1 : Int).toNat * 4 + 3, none⟩ (.bool false))) ?hg ?ho ?hn ?hr ?_; (case ho => rfl); (case hg => rfl); (case hn => rfl); (case hr => first | (go_simp; done) | (go_simp; rfl)); intro w24 hw; have hg : w.grownBy w24 (some go21) := (by rw [hw]; exact HP23.2); have hp_ : Kd.R k33 33 w24 w0.heap.size (fun k_ => (P0_ k_ ∨ w.heap.size ≤ k_)) (.slice (some ⟨go21, 0, none⟩) l0.length co22) y110 := (by rw [hw, Ny110.out]; exact HP23.1); clear HP23; have n0_ := Aside0.mk (hp_); have n1_ := Aside0.mk ((by rw [hw]; exact below_set (below_set (below_set (below_set (HB.out) GB21.out) GB21.out) GB21.out) GB21.out : Below w0.heap.size w0 w24)); have n2_ := Aside0.mk (Kept.of_grown (S := (fun k_ => P0_ k_)) hg (by repeat (first | (with_reducible first | exact HK.out | apply Kept.alloc | apply Kept.drewN | apply Kept.drew) | exact HK.out)) (fun k_ e_ => (HO0.out.1 k_ e_))); clear HO0; clear HB; clear HK; have HO0 := n0_; have HB := n1_; have HK := n2_; clear n0_ n1_ n2_; clear hg hw hp_))
              go_ret
              exact ⟨by first | rfl | (simp [errW_none, errW_some] <;> rfl) | (simp [*, errW_none, errW_some] <;> rfl), by (with_reducible repeat (first | apply Kd.R_alloc | apply Kd.R_drewN | apply Kd.R_drew)); exact HO0.out, by repeat (first | (with_reducible first | exact HB.out | apply below_alloc | apply pw_below_drewN | apply below_drew1) | exact HB.out), by repeat (first | (with_reducible first | exact HK.out | apply Kept.alloc | apply Kept.drewN | apply Kept.drew) | exact HK.out)⟩
        · rw [if_neg c9] at H
          exact absurd H (by simp)
      · rw [if_neg c8] at H
        exact absurd H (by simp)

/-! ### latest_Votes_Get: function 13 -/
def latest_Votes_Get.f (l0 : List (S33)) (a1 : Int) : Option (Int × Bool) := if a1 < 0 then (some (0, false)) else (if a1 ≥ (l0.length : Int) then (some (0, false)) else (if 0 ≤ a1 then (if a1 < (l0.length : Int) then (if ((rd_T33 l0 a1).f0 = true) then (if (rd_T33 l0 a1).f3 = true then (some (0, false)) else (some ((rd_T33 l0 a1).f2, true))) else (some (0, false))) else (none)) else (none)))
set_option maxHeartbeats 8000000 in
set_option maxRecDepth 100000 in
theorem latest_Votes_Get.calls (A0 : Option Addr) (c0 : Nat) (l0 : List (S33)) (a1 : Int) (r1 : Int) (r2 : Bool) (w : World) (hr0 : Kd.C k33 w A0 l0.length l0) (hc0 : l0.length ≤ c0) (h : latest_Votes_Get.f l0 a1 = some (r1, r2)) :
    Calls Try.prog 13 #[.slice A0 l0.length c0, .int .i64 a1] w fun e w' => e = .returned (.tuple #[.int .u64 r1, .bool r2]) ∧ Drawn0 w w' := by
  have HR0 := Aside0.mk hr0
  have HC0 := Aside0.mk hc0
  clear hr0 hc0
  have H : (if a1 < 0 then (some (0, false)) else (if a1 ≥ (l0.length : Int) then (some (0, false)) else (if 0 ≤ a1 then (if a1 < (l0.length : Int) then (if ((rd_T33 l0 a1).f0 = true) then (if (rd_T33 l0 a1).f3 = true then (some (0, false)) else (some ((rd_T33 l0 a1).f2, true))) else (some (0, false))) else (none)) else (none)))) = some (r1, r2) := h
  clear h
  by_cases c3 : a1 < 0
  · rw [if_pos c3] at H
    have c3b0 : decide (a1 < 0) = true := decide_eq_true c3
    clear c3
    simp only [Option.some.injEq, Prod.mk.injEq] at H
    obtain ⟨rfl, rfl⟩ := H
    go_enter Try.func13, Try.ntmps13
    go_wp2
    go_ret2
    exact ⟨by first | rfl | (simp; done) | (simp [*]; done), by repeat (first | exact Drawn0.refl _ | apply Drawn0.step)⟩
  · rw [if_neg c3] at H
    have c3b0 : decide (a1 < 0) = false := decide_eq_false c3
    clear c3
    by_cases c4 : a1 ≥ (l0.length : Int)
    · rw [if_pos c4] at H
      have c4b0 : decide ((l0.length : Int) ≤ a1) = true := decide_eq_true c4
      clear c4
      simp only [Option.some.injEq, Prod.mk.injEq] at H
      obtain ⟨rfl, rfl⟩ := H
      go_enter Try.func13, Try.ntmps13
      go_wp2
      go_ret2
      exact ⟨by first | rfl | (simp; done) | (simp [*]; done), by repeat (first | exact Drawn0.refl _ | apply Drawn0.step)⟩
    · rw [if_neg c4] at H
      have c4b0 : decide ((l0.length : Int) ≤ a1) = false := decide_eq_false c4
      clear c4
      by_cases c5 : 0 ≤ a1
      · rw [if_pos c5] at H
        have c5b0 : decide (0 ≤ a1) = true := decide_eq_true c5
        clear c5
        by_cases c6 : a1 < (l0.length : Int)
        · rw [if_pos c6] at H
          have c6b0 : decide (a1 < (l0.length : Int)) = true := decide_eq_true c6
          clear c6
          obtain ⟨bq7, hbq7⟩ : ∃ b_ : Bool, b_ = ((rd_T33 l0 a1).f0) := ⟨_, rfl⟩
          replace H : (if (bq7 = true) then (if (rd_T33 l0 a1).f3 = true then (some (0, false)) else (some ((rd_T33 l0 a1).f2, true))) else (some (0, false))) = some (r1, r2) := by rw [← hbq7] at H; exact H
          have Nbq7 := Aside0.mk hbq7
          clear hbq7
          by_cases c8 : (bq7 = true)
          · subst c8
            have H1 : (if (rd_T33 l0 a1).f3 = true then (some (0, false)) else (some ((rd_T33 l0 a1).f2, true))) = some (r1, r2) := by rw [if_pos rfl] at H; exact H
            clear H
            have H := H1
            clear H1
            obtain ⟨bq9, hbq9⟩ : ∃ b_ : Bool, b_ = ((rd_T33 l0 a1).f3) := ⟨_, rfl⟩
            replace H : (if bq9 = true then (some (0, false)) else (some ((rd_T33 l0 a1).f2, true))) = some (r1, r2) := by rw [← hbq9] at H; exact H
            have Nbq9 := Aside0.mk hbq9
            clear hbq9
            by_cases c10 : bq9 = true
            · subst c10
              have H1 : (some (0, false)) = some (r1, r2) := by rw [if_pos rfl] at H; exact H
              clear H
              have H := H1
              clear H1
              simp only [Option.some.injEq, Prod.mk.injEq] at H
              obtain ⟨rfl, rfl⟩ := H
              have p111 : 0 ≤ (a1 : Int) := of_decide_eq_true (by first | (with_reducible assumption) | assumption)
              have q111 : a1 < (l0.length : Int) := of_decide_eq_true (by first | (with_reducible assumption) | assumption)
              obtain ⟨ad111, e111, hx111_0, hx111_1, hx111_2, hx111_3⟩ := at_T33 HR0.out a1 p111 q111
              (try rw [← Nbq7.out] at hx111_0)
              (try rw [← Nbq9.out] at hx111_0)
              (try rw [← Nbq7.out] at hx111_3)
              (try rw [← Nbq9.out] at hx111_3)
              cases e111
              replace p111 := eq_true p111
              replace q111 := eq_true q111
              have p112 : 0 ≤ (a1 : Int) := of_decide_eq_true (by first | (with_reducible assumption) | assumption)
              have q112 : a1 < (l0.length : Int) := of_decide_eq_true (by first | (with_reducible assumption) | assumption)
              obtain ⟨ad112, e112, hx112_0, hx112_1, hx112_2, hx112_3⟩ := at_T33 HR0.out a1 p112 q112
              (try rw [← Nbq7.out] at hx112_0)
              (try rw [← Nbq9.out] at hx112_0)
              (try rw [← Nbq7.out] at hx112_3)
              (try rw [← Nbq9.out] at hx112_3)
              obtain rfl : ad111 = ad112 := (by injection e112)
              replace p112 := eq_true p112
              replace q112 := eq_true q112
              go_enter Try.func13, Try.ntmps13
              go_wp2
              go_ret2
              exact ⟨by first | rfl | (simp; done) | (simp [*]; done), by repeat (first | exact Drawn0.refl _ | apply Drawn0.step)⟩
            · replace c10 := Bool.eq_false_iff.mpr c10
              subst c10
              have H1 : (some ((rd_T33 l0 a1).f2, true)) = some (r1, r2) := by rw [if_neg (show ¬ (false = true) by decide)] at H; exact H
              clear H
              have H := H1
              clear H1
              simp only [Option.some.injEq, Prod.mk.injEq] at H
              obtain ⟨rfl, rfl⟩ := H
              have p111 : 0 ≤ (a1 : Int) := of_decide_eq_true (by first | (with_reducible assumption) | assumption)
              have q111 : a1 < (l0.length : Int) := of_decide_eq_true (by first | (with_reducible assumption) | assumption)
              obtain ⟨ad111, e111, hx111_0, hx111_1, hx111_2, hx111_3⟩ := at_T33 HR0.out a1 p111 q111
              (try rw [← Nbq7.out] at hx111_0)
              (try rw [← Nbq9.out] at hx111_0)
              (try rw [← Nbq7.out] at hx111_3)
              (try rw [← Nbq9.out] at hx111_3)
              cases e111
              replace p111 := eq_true p111
              replace q111 := eq_true q111
              have p112 : 0 ≤ (a1 : Int) := of_decide_eq_true (by first | (with_reducible assumption) | assumption)
              have q112 : a1 < (l0.length : Int) := of_decide_eq_true (by first | (with_reducible assumption) | assumption)
              obtain ⟨ad112, e112, hx112_0, hx112_1, hx112_2, hx112_3⟩ := at_T33 HR0.out a1 p112 q112
              (try rw [← Nbq7.out] at hx112_0)
              (try rw [← Nbq9.out] at hx112_0)
              (try rw [← Nbq7.out] at hx112_3)
              (try rw [← Nbq9.out] at hx112_3)
              obtain rfl : ad111 = ad112 := (by injection e112)
              replace p112 := eq_true p112
              replace q112 := eq_true q112
              have p113 : 0 ≤ (a1 : Int) := of_decide_eq_true (by first | (with_reducible assumption) | assumption)
              have q113 : a1 < (l0.length : Int) := of_decide_eq_true (by first | (with_reducible assumption) | assumption)
              obtain ⟨ad113, e113, hx113_0, hx113_1, hx113_2, hx113_3⟩ := at_T33 HR0.out a1 p113 q113
              (try rw [← Nbq7.out] at hx113_0)
              (try rw [← Nbq9.out] at hx113_0)
              (try rw [← Nbq7.out] at hx113_3)
              (try rw [← Nbq9.out] at hx113_3)
              obtain rfl : ad111 = ad113 := (by injection e113)
              replace p113 := eq_true p113
              replace q113 := eq_true q113
              go_enter Try.func13, Try.ntmps13
              go_wp2
              go_ret2
              exact ⟨by first | rfl | (simp; done) | (simp [*]; done), by repeat (first | exact Drawn0.refl _ | apply Drawn0.step)⟩
          · replace c8 := Bool.eq_false_iff.mpr c8
            subst c8
            have H1 : (some (0, false)) = some (r1, r2) := by rw [if_neg (show ¬ (false = true) by decide)] at H; exact H
            clear H
            have H := H1
            clear H1
            simp only [Option.some.injEq, Prod.mk.injEq] at H
            obtain ⟨rfl, rfl⟩ := H
            have p111 : 0 ≤ (a1 : Int) := of_decide_eq_true (by first | (with_reducible assumption) | assumption)
            have q111 : a1 < (l0.length : Int) := of_decide_eq_true (by first | (with_reducible assumption) | assumption)
            obtain ⟨ad111, e111, hx111_0, hx111_1, hx111_2, hx111_3⟩ := at_T33 HR0.out a1 p111 q111
            (try rw [← Nbq7.out] at hx111_0)
            (try rw [← Nbq7.out] at hx111_3)
            cases e111
            replace p111 := eq_true p111
            replace q111 := eq_true q111
            go_enter Try.func13, Try.ntmps13
            go_wp2
            go_ret2
            exact ⟨by first | rfl | (simp; done) | (simp [*]; done), by repeat (first | exact Drawn0.refl _ | apply Drawn0.step)⟩
        · rw [if_neg c6] at H
          exact absurd H (by simp)
      · rw [if_neg c5] at H
        exact absurd H (by simp)

/-! ### psephoslaw11_awake: function 9 -/
def psephoslaw11_awake.f  : Option (Bool) := (latest_Of.f 2).bind fun t114 => (if (t114.length : Int) = 2 then ((latest_Votes_Take.f t114 0 3 7).bind fun bt117 => ((latest_Votes_Take.f bt117.2 0 3 8).bind fun bt119 => ((latest_Votes_Get.f bt119.2 0).bind fun bt121 => ((latest_Votes_Ban.f bt119.2 0).bind fun bt123 => ((latest_Votes_Get.f bt123.2 0).bind fun bt125 => (if bt117.1 = true then (if bt119.1 = true then (some false) else (if bt121.1 = 7 then (if bt121.2 = true then (if bt123.1 = true then (some (!bt125.2)) else (some false)) else (some false)) else (some false))) else (some false))))))) else (some false))
set_option maxHeartbeats 8000000 in
set_option maxRecDepth 100000 in
theorem psephoslaw11_awake.calls  (r : Bool) (w : World) (h : psephoslaw11_awake.f  = some r) :
    Calls Try.prog 9 #[] w fun e w' => e = .returned (.bool r) ∧ Below w.heap.size w w' := by
  have HB := Aside0.mk (Below.refl w.heap.size w)
  have H : ((latest_Of.f 2).bind fun t114 => (if (t114.length : Int) = 2 then ((latest_Votes_Take.f t114 0 3 7).bind fun bt117 => ((latest_Votes_Take.f bt117.2 0 3 8).bind fun bt119 => ((latest_Votes_Get.f bt119.2 0).bind fun bt121 => ((latest_Votes_Ban.f bt119.2 0).bind fun bt123 => ((latest_Votes_Get.f bt123.2 0).bind fun bt125 => (if bt117.1 = true then (if bt119.1 = true then (some false) else (if bt121.1 = 7 then (if bt121.2 = true then (if bt123.1 = true then (some (!bt125.2)) else (some false)) else (some false)) else (some false))) else (some false))))))) else (some false))) = some r := h
  clear h
  replace H := Option.bind_eq_some_iff.mp H
  obtain ⟨t114, A10, H⟩ := H
  replace H : (if (t114.length : Int) = 2 then ((latest_Votes_Take.f t114 0 3 7).bind fun bt117 => ((latest_Votes_Take.f bt117.2 0 3 8).bind fun bt119 => ((latest_Votes_Get.f bt119.2 0).bind fun bt121 => ((latest_Votes_Ban.f bt119.2 0).bind fun bt123 => ((latest_Votes_Get.f bt123.2 0).bind fun bt125 => (if bt117.1 = true then (if bt119.1 = true then (some false) else (if bt121.1 = 7 then (if bt121.2 = true then (if bt123.1 = true then (some (!bt125.2)) else (some false)) else (some false)) else (some false))) else (some false))))))) else (some false)) = some r := H
  have A1 := Aside0.mk A10
  clear A10
  by_cases c2 : (t114.length : Int) = 2
  · rw [if_pos c2] at H
    have c2b0 : ((t114.length : Int) == 2) = true := beq_iff_eq.mpr c2
    have c2b1 : ((t114.length : Int) != 2) = false := bne_eq_false_iff_eq.mpr c2
    clear c2
    replace H := Option.bind_eq_some_iff.mp H
    obtain ⟨⟨t117, t118⟩, A30, H⟩ := H
    replace H : ((latest_Votes_Take.f t118 0 3 8).bind fun bt119 => ((latest_Votes_Get.f bt119.2 0).bind fun bt121 => ((latest_Votes_Ban.f bt119.2 0).bind fun bt123 => ((latest_Votes_Get.f bt123.2 0).bind fun bt125 => (if t117 = true then (if bt119.1 = true then (some false) else (if bt121.1 = 7 then (if bt121.2 = true then (if bt123.1 = true then (some (!bt125.2)) else (some false)) else (some false)) else (some false))) else (some false)))))) = some r := H
    have A3 := Aside0.mk A30
    clear A30
    replace H := Option.bind_eq_some_iff.mp H
    obtain ⟨⟨t119, t120⟩, A40, H⟩ := H
    replace H : ((latest_Votes_Get.f t120 0).bind fun bt121 => ((latest_Votes_Ban.f t120 0).bind fun bt123 => ((latest_Votes_Get.f bt123.2 0).bind fun bt125 => (if t117 = true then (if t119 = true then (some false) else (if bt121.1 = 7 then (if bt121.2 = true then (if bt123.1 = true then (some (!bt125.2)) else (some false)) else (some false)) else (some false))) else (some false))))) = some r := H
    have A4 := Aside0.mk A40
    clear A40
    replace H := Option.bind_eq_some_iff.mp H
    obtain ⟨⟨t121, t122⟩, A50, H⟩ := H
    replace H : ((latest_Votes_Ban.f t120 0).bind fun bt123 => ((latest_Votes_Get.f bt123.2 0).bind fun bt125 => (if t117 = true then (if t119 = true then (some false) else (if t121 = 7 then (if t122 = true then (if bt123.1 = true then (some (!bt125.2)) else (some false)) else (some false)) else (some false))) else (some false)))) = some r := H
    have A5 := Aside0.mk A50
    clear A50
    replace H := Option.bind_eq_some_iff.mp H
    obtain ⟨⟨t123, t124⟩, A60, H⟩ := H
    replace H : ((latest_Votes_Get.f t124 0).bind fun bt125 => (if t117 = true then (if t119 = true then (some false) else (if t121 = 7 then (if t122 = true then (if t123 = true then (some (!bt125.2)) else (some false)) else (some false)) else (some false))) else (some false))) = some r := H
    have A6 := Aside0.mk A60
    clear A60
    replace H := Option.bind_eq_some_iff.mp H
    obtain ⟨⟨t125, t126⟩, A70, H⟩ := H
    replace H : (if t117 = true then (if t119 = true then (some false) else (if t121 = 7 then (if t122 = true then (if t123 = true then (some (!t126)) else (some false)) else (some false)) else (some false))) else (some false)) = some r := H
    have A7 := Aside0.mk A70
    clear A70
    by_cases c8 : t117 = true
    · subst c8
      have H1 : (if t119 = true then (some false) else (if t121 = 7 then (if t122 = true then (if t123 = true then (some (!t126)) else (some false)) else (some false)) else (some false))) = some r := by rw [if_pos rfl] at H; exact H
      clear H
      have H := H1
      clear H1
      by_cases c9 : t119 = true
      · subst c9
        have H1 : (some false) = some r := by rw [if_pos rfl] at H; exact H
        clear H
        have H := H1
        clear H1
        obtain rfl := Option.some.inj H
        go_enter Try.func9, Try.ntmps9
        go_wp2_with (first | ((with_reducible refine gate_callee (f := 10) rfl ?_); refine goesL_ (some 9) rfl rfl Try.func10 (by kernel_rfl) rfl #[.int .i64 2] rfl (by (try simp only [List.map_toArray, List.map_cons, List.map_nil]); first | done | rfl | (simp only [List.length_drop, List.length_take]; rfl)) ?_; (with_reducible refine (latest_Of.calls 2 t114 _ A1.out).mono ?_); rintro e w10 ⟨v115, rfl, ho0, hb⟩; refine ⟨_, rfl, ?_⟩; have n0_ := Aside0.mk (Kd.R_lower ho0 (below_size (by repeat (first | (with_reducible first | exact HB.out | apply below_alloc | apply pw_below_drewN | apply below_drew1) | exact HB.out)))); have n1_ := Aside0.mk (below_step (by repeat (first | (with_reducible first | exact HB.out | apply below_alloc | apply pw_below_drewN | apply below_drew1) | exact HB.out)) hb); clear HB; have HO116 := n0_; have HB := n1_; clear n0_ n1_; (try clear hb); (try clear hb2); (try clear hk); (try clear hi); (try clear ho0); obtain ⟨Ao11, co11, eo11⟩ := Kd.R_slice HO116.out; subst eo11) | ((with_reducible refine gate_callee (f := 12) rfl ?_); refine goesL_ (some 14) rfl rfl Try.func12 (by kernel_rfl) rfl #[.slice Ao11 t114.length co11, .int .i64 0, .int .i64 3, .int .u64 7] rfl (by (try simp only [List.map_toArray, List.map_cons, List.map_nil]); first | done | rfl | (simp only [List.length_drop, List.length_take]; rfl)) ?_; (with_reducible refine (latest_Votes_Take.calls (fun k_ => some k_ = (.slice Ao11 t114.length co11 : Value).ownBlock) (.slice Ao11 t114.length co11) t114 0 3 7 true t118 w _ ?side1 ?side2 A3.out).mono ?_); (case side1 => repeat (first | (with_reducible first | exact HB.out | apply below_alloc | apply pw_below_drewN | apply below_drew1) | exact HB.out)); (case side2 => exact Kd.R_tight rfl HO116.out); rintro e w12 ⟨rfl, hy0, hb, hkp⟩; refine ⟨_, rfl, ?_⟩; have n0_ := Aside0.mk (Kd.R_reok rfl hy0 (fun k_ e_ => HO116.out.1 k_ e_)); have n1_ := Aside0.mk (hb); clear HO116; clear HB; have HO116 := n0_; have HB := n1_; clear n0_ n1_; (try clear hb); (try clear hkp); (try clear hy0)) | ((with_reducible refine gate_callee (f := 12) rfl ?_); refine goesL_ (some 16) rfl rfl Try.func12 (by kernel_rfl) rfl #[.slice Ao11 t114.length co11, .int .i64 0, .int .i64 3, .int .u64 8] rfl (by (try simp only [List.map_toArray, List.map_cons, List.map_nil]); first | done | rfl | (simp only [List.length_drop, List.length_take]; rfl)) ?_; (with_reducible refine (latest_Votes_Take.calls (fun k_ => some k_ = (.slice Ao11 t114.length co11 : Value).ownBlock) (.slice Ao11 t114.length co11) t118 0 3 8 true t120 w _ ?side1 ?side2 A4.out).mono ?_); (case side1 => repeat (first | (with_reducible first | exact HB.out | apply below_alloc | apply pw_below_drewN | apply below_drew1) | exact HB.out)); (case side2 => exact Kd.R_tight rfl HO116.out); rintro e w13 ⟨rfl, hy0, hb, hkp⟩; refine ⟨_, rfl, ?_⟩; have n0_ := Aside0.mk (Kd.R_reok rfl hy0 (fun k_ e_ => HO116.out.1 k_ e_)); have n1_ := Aside0.mk (hb); clear HO116; clear HB; have HO116 := n0_; have HB := n1_; clear n0_ n1_; (try clear hb); (try clear hkp); (try clear hy0)) | ((with_reducible refine gate_callee (f := 13) rfl ?_); refine goesL_ (some 19) rfl rfl Try.func13 (by kernel_rfl) rfl #[.slice Ao11 t120.length co11, .int .i64 0] rfl (by (try simp only [List.map_toArray, List.map_cons, List.map_nil]); first | done | (rw [show t120.length = t114.length from (Kd.R_reads' HO116.out).1.symm] <;> rfl) | rfl | (simp only [List.length_drop, List.length_take]; rfl)) ?_; (with_reducible refine (latest_Votes_Get.calls _ _ t120 0 t121 t122 _ ?side1 ?side2 A5.out).mono ?_); (case side1 => repeat (first | exact (Kd.R_reads' HO116.out).2.2 | (with_reducible refine Kd.C_alloc ?_ _) | (with_reducible refine Kd.C_drewN ?_ _) | (with_reducible refine Kd.C_drew ?_))); (case side2 => rw [show t120.length = t114.length from (Kd.R_reads' HO116.out).1.symm]; exact (Kd.R_reads' HO116.out).2.1); rintro e w' ⟨rfl, ⟨nd, rfl⟩⟩; refine ⟨_, rfl, ?_⟩) | ((with_reducible refine gate_callee (f := 11) rfl ?_); refine goesL_ (some 23) rfl rfl Try.func11 (by kernel_rfl) rfl #[.slice Ao11 t114.length co11, .int .i64 0] rfl (by (try simp only [List.map_toArray, List.map_cons, List.map_nil]); first | done | rfl | (simp only [List.length_drop, List.length_take]; rfl)) ?_; (with_reducible refine (latest_Votes_Ban.calls (fun k_ => some k_ = (.slice Ao11 t114.length co11 : Value).ownBlock) (.slice Ao11 t114.length co11) t120 0 t123 t124 w _ ?side1 ?side2 A6.out).mono ?_); (case side1 => repeat (first | (with_reducible first | exact HB.out | apply below_alloc | apply pw_below_drewN | apply below_drew1) | exact HB.out)); (case side2 => exact Kd.R_tight rfl HO116.out); rintro e w14 ⟨rfl, hy0, hb, hkp⟩; refine ⟨_, rfl, ?_⟩; have n0_ := Aside0.mk (Kd.R_reok rfl hy0 (fun k_ e_ => HO116.out.1 k_ e_)); have n1_ := Aside0.mk (hb); clear HO116; clear HB; have HO116 := n0_; have HB := n1_; clear n0_ n1_; (try clear hb); (try clear hkp); (try clear hy0)) | ((with_reducible refine gate_callee (f := 13) rfl ?_); refine goesL_ (some 26) rfl rfl Try.func13 (by kernel_rfl) rfl #[.slice Ao11 t124.length co11, .int .i64 0] rfl (by (try simp only [List.map_toArray, List.map_cons, List.map_nil]); first | done | (rw [show t124.length = t114.length from (Kd.R_reads' HO116.out).1.symm] <;> rfl) | rfl | (simp only [List.length_drop, List.length_take]; rfl)) ?_; (with_reducible refine (latest_Votes_Get.calls _ _ t124 0 t125 t126 _ ?side1 ?side2 A7.out).mono ?_); (case side1 => repeat (first | exact (Kd.R_reads' HO116.out).2.2 | (with_reducible refine Kd.C_alloc ?_ _) | (with_reducible refine Kd.C_drewN ?_ _) | (with_reducible refine Kd.C_drew ?_))); (case side2 => rw [show t124.length = t114.length from (Kd.R_reads' HO116.out).1.symm]; exact (Kd.R_reads' HO116.out).2.1); rintro e w' ⟨rfl, ⟨nd, rfl⟩⟩; refine ⟨_, rfl, ?_⟩))
        go_ret
        exact ⟨by first | rfl | (simp [errW_none, errW_some] <;> rfl) | (simp [*, errW_none, errW_some] <;> rfl), by repeat (first | (with_reducible first | exact HB.out | apply below_alloc | apply pw_below_drewN | apply below_drew1) | exact HB.out)⟩
      · replace c9 := Bool.eq_false_iff.mpr c9
        subst c9
        have H1 : (if t121 = 7 then (if t122 = true then (if t123 = true then (some (!t126)) else (some false)) else (some false)) else (some false)) = some r := by rw [if_neg (show ¬ (false = true) by decide)] at H; exact H
        clear H
        have H := H1
        clear H1
        by_cases c15 : t121 = 7
        · rw [if_pos c15] at H
          have c15b0 : (t121 == 7) = true := beq_iff_eq.mpr c15
          have c15b1 : (t121 != 7) = false := bne_eq_false_iff_eq.mpr c15
          clear c15
          by_cases c16 : t122 = true
          · subst c16
            have H1 : (if t123 = true then (some (!t126)) else (some false)) = some r := by rw [if_pos rfl] at H; exact H
            clear H
            have H := H1
            clear H1
            by_cases c17 : t123 = true
            · subst c17
              have H1 : (some (!t126)) = some r := by rw [if_pos rfl] at H; exact H
              clear H
              have H := H1
              clear H1
              obtain rfl := Option.some.inj H
              go_enter Try.func9, Try.ntmps9
              go_wp2_with (first | ((with_reducible refine gate_callee (f := 10) rfl ?_); refine goesL_ (some 9) rfl rfl Try.func10 (by kernel_rfl) rfl #[.int .i64 2] rfl (by (try simp only [List.map_toArray, List.map_cons, List.map_nil]); first | done | rfl | (simp only [List.length_drop, List.length_take]; rfl)) ?_; (with_reducible refine (latest_Of.calls 2 t114 _ A1.out).mono ?_); rintro e w18 ⟨v115, rfl, ho0, hb⟩; refine ⟨_, rfl, ?_⟩; have n0_ := Aside0.mk (Kd.R_lower ho0 (below_size (by repeat (first | (with_reducible first | exact HB.out | apply below_alloc | apply pw_below_drewN | apply below_drew1) | exact HB.out)))); have n1_ := Aside0.mk (below_step (by repeat (first | (with_reducible first | exact HB.out | apply below_alloc | apply pw_below_drewN | apply below_drew1) | exact HB.out)) hb); clear HB; have HO116 := n0_; have HB := n1_; clear n0_ n1_; (try clear hb); (try clear hb2); (try clear hk); (try clear hi); (try clear ho0); obtain ⟨Ao19, co19, eo19⟩ := Kd.R_slice HO116.out; subst eo19) | ((with_reducible refine gate_callee (f := 12) rfl ?_); refine goesL_ (some 14) rfl rfl Try.func12 (by kernel_rfl) rfl #[.slice Ao19 t114.length co19, .int .i64 0, .int .i64 3, .int .u64 7] rfl (by (try simp only [List.map_toArray, List.map_cons, List.map_nil]); first | done | rfl | (simp only [List.length_drop, List.length_take]; rfl)) ?_; (with_reducible refine (latest_Votes_Take.calls (fun k_ => some k_ = (.slice Ao19 t114.length co19 : Value).ownBlock) (.slice Ao19 t114.length co19) t114 0 3 7 true t118 w _ ?side1 ?side2 A3.out).mono ?_); (case side1 => repeat (first | (with_reducible first | exact HB.out | apply below_alloc | apply pw_below_drewN | apply below_drew1) | exact HB.out)); (case side2 => exact Kd.R_tight rfl HO116.out); rintro e w20 ⟨rfl, hy0, hb, hkp⟩; refine ⟨_, rfl, ?_⟩; have n0_ := Aside0.mk (Kd.R_reok rfl hy0 (fun k_ e_ => HO116.out.1 k_ e_)); have n1_ := Aside0.mk (hb); clear HO116; clear HB; have HO116 := n0_; have HB := n1_; clear n0_ n1_; (try clear hb); (try clear hkp); (try clear hy0)) | ((with_reducible refine gate_callee (f := 12) rfl ?_); refine goesL_ (some 16) rfl rfl Try.func12 (by kernel_rfl) rfl #[.slice Ao19 t114.length co19, .int .i64 0, .int .i64 3, .int .u64 8] rfl (by (try simp only [List.map_toArray, List.map_cons, List.map_nil]); first | done | rfl | (simp only [List.length_drop, List.length_take]; rfl)) ?_; (with_reducible refine (latest_Votes_Take.calls (fun k_ => some k_ = (.slice Ao19 t114.length co19 : Value).ownBlock) (.slice Ao19 t114.length co19) t118 0 3 8 false t120 w _ ?side1 ?side2 A4.out).mono ?_); (case side1 => repeat (first | (with_reducible first | exact HB.out | apply below_alloc | apply pw_below_drewN | apply below_drew1) | exact HB.out)); (case side2 => exact Kd.R_tight rfl HO116.out); rintro e w21 ⟨rfl, hy0, hb, hkp⟩; refine ⟨_, rfl, ?_⟩; have n0_ := Aside0.mk (Kd.R_reok rfl hy0 (fun k_ e_ => HO116.out.1 k_ e_)); have n1_ := Aside0.mk (hb); clear HO116; clear HB; have HO116 := n0_; have HB := n1_; clear n0_ n1_; (try clear hb); (try clear hkp); (try clear hy0)) | ((with_reducible refine gate_callee (f := 13) rfl ?_); refine goesL_ (some 19) rfl rfl Try.func13 (by kernel_rfl) rfl #[.slice Ao19 t120.length co19, .int .i64 0] rfl (by (try simp only [List.map_toArray, List.map_cons, List.map_nil]); first | done | (rw [show t120.length = t114.length from (Kd.R_reads' HO116.out).1.symm] <;> rfl) | rfl | (simp only [List.length_drop, List.length_take]; rfl)) ?_; (with_reducible refine (latest_Votes_Get.calls _ _ t120 0 t121 true _ ?side1 ?side2 A5.out).mono ?_); (case side1 => repeat (first | exact (Kd.R_reads' HO116.out).2.2 | (with_reducible refine Kd.C_alloc ?_ _) | (with_reducible refine Kd.C_drewN ?_ _) | (with_reducible refine Kd.C_drew ?_))); (case side2 => rw [show t120.length = t114.length from (Kd.R_reads' HO116.out).1.symm]; exact (Kd.R_reads' HO116.out).2.1); rintro e w' ⟨rfl, ⟨nd, rfl⟩⟩; refine ⟨_, rfl, ?_⟩) | ((with_reducible refine gate_callee (f := 11) rfl ?_); refine goesL_ (some 23) rfl rfl Try.func11 (by kernel_rfl) rfl #[.slice Ao19 t114.length co19, .int .i64 0] rfl (by (try simp only [List.map_toArray, List.map_cons, List.map_nil]); first | done | rfl | (simp only [List.length_drop, List.length_take]; rfl)) ?_; (with_reducible refine (latest_Votes_Ban.calls (fun k_ => some k_ = (.slice Ao19 t114.length co19 : Value).ownBlock) (.slice Ao19 t114.length co19) t120 0 true t124 w _ ?side1 ?side2 A6.out).mono ?_); (case side1 => repeat (first | (with_reducible first | exact HB.out | apply below_alloc | apply pw_below_drewN | apply below_drew1) | exact HB.out)); (case side2 => exact Kd.R_tight rfl HO116.out); rintro e w22 ⟨rfl, hy0, hb, hkp⟩; refine ⟨_, rfl, ?_⟩; have n0_ := Aside0.mk (Kd.R_reok rfl hy0 (fun k_ e_ => HO116.out.1 k_ e_)); have n1_ := Aside0.mk (hb); clear HO116; clear HB; have HO116 := n0_; have HB := n1_; clear n0_ n1_; (try clear hb); (try clear hkp); (try clear hy0)) | ((with_reducible refine gate_callee (f := 13) rfl ?_); refine goesL_ (some 26) rfl rfl Try.func13 (by kernel_rfl) rfl #[.slice Ao19 t124.length co19, .int .i64 0] rfl (by (try simp only [List.map_toArray, List.map_cons, List.map_nil]); first | done | (rw [show t124.length = t114.length from (Kd.R_reads' HO116.out).1.symm] <;> rfl) | rfl | (simp only [List.length_drop, List.length_take]; rfl)) ?_; (with_reducible refine (latest_Votes_Get.calls _ _ t124 0 t125 t126 _ ?side1 ?side2 A7.out).mono ?_); (case side1 => repeat (first | exact (Kd.R_reads' HO116.out).2.2 | (with_reducible refine Kd.C_alloc ?_ _) | (with_reducible refine Kd.C_drewN ?_ _) | (with_reducible refine Kd.C_drew ?_))); (case side2 => rw [show t124.length = t114.length from (Kd.R_reads' HO116.out).1.symm]; exact (Kd.R_reads' HO116.out).2.1); rintro e w' ⟨rfl, ⟨nd, rfl⟩⟩; refine ⟨_, rfl, ?_⟩))
              go_ret
              exact ⟨by first | rfl | (simp [errW_none, errW_some] <;> rfl) | (simp [*, errW_none, errW_some] <;> rfl), by repeat (first | (with_reducible first | exact HB.out | apply below_alloc | apply pw_below_drewN | apply below_drew1) | exact HB.out)⟩
            · replace c17 := Bool.eq_false_iff.mpr c17
              subst c17
              have H1 : (some false) = some r := by rw [if_neg (show ¬ (false = true) by decide)] at H; exact H
              clear H
              have H := H1
              clear H1
              obtain rfl := Option.some.inj H
              go_enter Try.func9, Try.ntmps9
              go_wp2_with (first | ((with_reducible refine gate_callee (f := 10) rfl ?_); refine goesL_ (some 9) rfl rfl Try.func10 (by kernel_rfl) rfl #[.int .i64 2] rfl (by (try simp only [List.map_toArray, List.map_cons, List.map_nil]); first | done | rfl | (simp only [List.length_drop, List.length_take]; rfl)) ?_; (with_reducible refine (latest_Of.calls 2 t114 _ A1.out).mono ?_); rintro e w23 ⟨v115, rfl, ho0, hb⟩; refine ⟨_, rfl, ?_⟩; have n0_ := Aside0.mk (Kd.R_lower ho0 (below_size (by repeat (first | (with_reducible first | exact HB.out | apply below_alloc | apply pw_below_drewN | apply below_drew1) | exact HB.out)))); have n1_ := Aside0.mk (below_step (by repeat (first | (with_reducible first | exact HB.out | apply below_alloc | apply pw_below_drewN | apply below_drew1) | exact HB.out)) hb); clear HB; have HO116 := n0_; have HB := n1_; clear n0_ n1_; (try clear hb); (try clear hb2); (try clear hk); (try clear hi); (try clear ho0); obtain ⟨Ao24, co24, eo24⟩ := Kd.R_slice HO116.out; subst eo24) | ((with_reducible refine gate_callee (f := 12) rfl ?_); refine goesL_ (some 14) rfl rfl Try.func12 (by kernel_rfl) rfl #[.slice Ao24 t114.length co24, .int .i64 0, .int .i64 3, .int .u64 7] rfl (by (try simp only [List.map_toArray, List.map_cons, List.map_nil]); first | done | rfl | (simp only [List.length_drop, List.length_take]; rfl)) ?_; (with_reducible refine (latest_Votes_Take.calls (fun k_ => some k_ = (.slice Ao24 t114.length co24 : Value).ownBlock) (.slice Ao24 t114.length co24) t114 0 3 7 true t118 w _ ?side1 ?side2 A3.out).mono ?_); (case side1 => repeat (first | (with_reducible first | exact HB.out | apply below_alloc | apply pw_below_drewN | apply below_drew1) | exact HB.out)); (case side2 => exact Kd.R_tight rfl HO116.out); rintro e w25 ⟨rfl, hy0, hb, hkp⟩; refine ⟨_, rfl, ?_⟩; have n0_ := Aside0.mk (Kd.R_reok rfl hy0 (fun k_ e_ => HO116.out.1 k_ e_)); have n1_ := Aside0.mk (hb); clear HO116; clear HB; have HO116 := n0_; have HB := n1_; clear n0_ n1_; (try clear hb); (try clear hkp); (try clear hy0)) | ((with_reducible refine gate_callee (f := 12) rfl ?_); refine goesL_ (some 16) rfl rfl Try.func12 (by kernel_rfl) rfl #[.slice Ao24 t114.length co24, .int .i64 0, .int .i64 3, .int .u64 8] rfl (by (try simp only [List.map_toArray, List.map_cons, List.map_nil]); first | done | rfl | (simp only [List.length_drop, List.length_take]; rfl)) ?_; (with_reducible refine (latest_Votes_Take.calls (fun k_ => some k_ = (.slice Ao24 t114.length co24 : Value).ownBlock) (.slice Ao24 t114.length co24) t118 0 3 8 false t120 w _ ?side1 ?side2 A4.out).mono ?_); (case side1 => repeat (first | (with_reducible first | exact HB.out | apply below_alloc | apply pw_below_drewN | apply below_drew1) | exact HB.out)); (case side2 => exact Kd.R_tight rfl HO116.out); rintro e w26 ⟨rfl, hy0, hb, hkp⟩; refine ⟨_, rfl, ?_⟩; have n0_ := Aside0.mk (Kd.R_reok rfl hy0 (fun k_ e_ => HO116.out.1 k_ e_)); have n1_ := Aside0.mk (hb); clear HO116; clear HB; have HO116 := n0_; have HB := n1_; clear n0_ n1_; (try clear hb); (try clear hkp); (try clear hy0)) | ((with_reducible refine gate_callee (f := 13) rfl ?_); refine goesL_ (some 19) rfl rfl Try.func13 (by kernel_rfl) rfl #[.slice Ao24 t120.length co24, .int .i64 0] rfl (by (try simp only [List.map_toArray, List.map_cons, List.map_nil]); first | done | (rw [show t120.length = t114.length from (Kd.R_reads' HO116.out).1.symm] <;> rfl) | rfl | (simp only [List.length_drop, List.length_take]; rfl)) ?_; (with_reducible refine (latest_Votes_Get.calls _ _ t120 0 t121 true _ ?side1 ?side2 A5.out).mono ?_); (case side1 => repeat (first | exact (Kd.R_reads' HO116.out).2.2 | (with_reducible refine Kd.C_alloc ?_ _) | (with_reducible refine Kd.C_drewN ?_ _) | (with_reducible refine Kd.C_drew ?_))); (case side2 => rw [show t120.length = t114.length from (Kd.R_reads' HO116.out).1.symm]; exact (Kd.R_reads' HO116.out).2.1); rintro e w' ⟨rfl, ⟨nd, rfl⟩⟩; refine ⟨_, rfl, ?_⟩) | ((with_reducible refine gate_callee (f := 11) rfl ?_); refine goesL_ (some 23) rfl rfl Try.func11 (by kernel_rfl) rfl #[.slice Ao24 t114.length co24, .int .i64 0] rfl (by (try simp only [List.map_toArray, List.map_cons, List.map_nil]); first | done | rfl | (simp only [List.length_drop, List.length_take]; rfl)) ?_; (with_reducible refine (latest_Votes_Ban.calls (fun k_ => some k_ = (.slice Ao24 t114.length co24 : Value).ownBlock) (.slice Ao24 t114.length co24) t120 0 false t124 w _ ?side1 ?side2 A6.out).mono ?_); (case side1 => repeat (first | (with_reducible first | exact HB.out | apply below_alloc | apply pw_below_drewN | apply below_drew1) | exact HB.out)); (case side2 => exact Kd.R_tight rfl HO116.out); rintro e w27 ⟨rfl, hy0, hb, hkp⟩; refine ⟨_, rfl, ?_⟩; have n0_ := Aside0.mk (Kd.R_reok rfl hy0 (fun k_ e_ => HO116.out.1 k_ e_)); have n1_ := Aside0.mk (hb); clear HO116; clear HB; have HO116 := n0_; have HB := n1_; clear n0_ n1_; (try clear hb); (try clear hkp); (try clear hy0)) | ((with_reducible refine gate_callee (f := 13) rfl ?_); refine goesL_ (some 26) rfl rfl Try.func13 (by kernel_rfl) rfl #[.slice Ao24 t124.length co24, .int .i64 0] rfl (by (try simp only [List.map_toArray, List.map_cons, List.map_nil]); first | done | (rw [show t124.length = t114.length from (Kd.R_reads' HO116.out).1.symm] <;> rfl) | rfl | (simp only [List.length_drop, List.length_take]; rfl)) ?_; (with_reducible refine (latest_Votes_Get.calls _ _ t124 0 t125 t126 _ ?side1 ?side2 A7.out).mono ?_); (case side1 => repeat (first | exact (Kd.R_reads' HO116.out).2.2 | (with_reducible refine Kd.C_alloc ?_ _) | (with_reducible refine Kd.C_drewN ?_ _) | (with_reducible refine Kd.C_drew ?_))); (case side2 => rw [show t124.length = t114.length from (Kd.R_reads' HO116.out).1.symm]; exact (Kd.R_reads' HO116.out).2.1); rintro e w' ⟨rfl, ⟨nd, rfl⟩⟩; refine ⟨_, rfl, ?_⟩))
              go_ret
              exact ⟨by first | rfl | (simp [errW_none, errW_some] <;> rfl) | (simp [*, errW_none, errW_some] <;> rfl), by repeat (first | (with_reducible first | exact HB.out | apply below_alloc | apply pw_below_drewN | apply below_drew1) | exact HB.out)⟩
          · replace c16 := Bool.eq_false_iff.mpr c16
            subst c16
            have H1 : (some false) = some r := by rw [if_neg (show ¬ (false = true) by decide)] at H; exact H
            clear H
            have H := H1
            clear H1
            obtain rfl := Option.some.inj H
            go_enter Try.func9, Try.ntmps9
            go_wp2_with (first | ((with_reducible refine gate_callee (f := 10) rfl ?_); refine goesL_ (some 9) rfl rfl Try.func10 (by kernel_rfl) rfl #[.int .i64 2] rfl (by (try simp only [List.map_toArray, List.map_cons, List.map_nil]); first | done | rfl | (simp only [List.length_drop, List.length_take]; rfl)) ?_; (with_reducible refine (latest_Of.calls 2 t114 _ A1.out).mono ?_); rintro e w28 ⟨v115, rfl, ho0, hb⟩; refine ⟨_, rfl, ?_⟩; have n0_ := Aside0.mk (Kd.R_lower ho0 (below_size (by repeat (first | (with_reducible first | exact HB.out | apply below_alloc | apply pw_below_drewN | apply below_drew1) | exact HB.out)))); have n1_ := Aside0.mk (below_step (by repeat (first | (with_reducible first | exact HB.out | apply below_alloc | apply pw_below_drewN | apply below_drew1) | exact HB.out)) hb); clear HB; have HO116 := n0_; have HB := n1_; clear n0_ n1_; (try clear hb); (try clear hb2); (try clear hk); (try clear hi); (try clear ho0); obtain ⟨Ao29, co29, eo29⟩ := Kd.R_slice HO116.out; subst eo29) | ((with_reducible refine gate_callee (f := 12) rfl ?_); refine goesL_ (some 14) rfl rfl Try.func12 (by kernel_rfl) rfl #[.slice Ao29 t114.length co29, .int .i64 0, .int .i64 3, .int .u64 7] rfl (by (try simp only [List.map_toArray, List.map_cons, List.map_nil]); first | done | rfl | (simp only [List.length_drop, List.length_take]; rfl)) ?_; (with_reducible refine (latest_Votes_Take.calls (fun k_ => some k_ = (.slice Ao29 t114.length co29 : Value).ownBlock) (.slice Ao29 t114.length co29) t114 0 3 7 true t118 w _ ?side1 ?side2 A3.out).mono ?_); (case side1 => repeat (first | (with_reducible first | exact HB.out | apply below_alloc | apply pw_below_drewN | apply below_drew1) | exact HB.out)); (case side2 => exact Kd.R_tight rfl HO116.out); rintro e w30 ⟨rfl, hy0, hb, hkp⟩; refine ⟨_, rfl, ?_⟩; have n0_ := Aside0.mk (Kd.R_reok rfl hy0 (fun k_ e_ => HO116.out.1 k_ e_)); have n1_ := Aside0.mk (hb); clear HO116; clear HB; have HO116 := n0_; have HB := n1_; clear n0_ n1_; (try clear hb); (try clear hkp); (try clear hy0)) | ((with_reducible refine gate_callee (f := 12) rfl ?_); refine goesL_ (some 16) rfl rfl Try.func12 (by kernel_rfl) rfl #[.slice Ao29 t114.length co29, .int .i64 0, .int .i64 3, .int .u64 8] rfl (by (try simp only [List.map_toArray, List.map_cons, List.map_nil]); first | done | rfl | (simp only [List.length_drop, List.length_take]; rfl)) ?_; (with_reducible refine (latest_Votes_Take.calls (fun k_ => some k_ = (.slice Ao29 t114.length co29 : Value).ownBlock) (.slice Ao29 t114.length co29) t118 0 3 8 false t120 w _ ?side1 ?side2 A4.out).mono ?_); (case side1 => repeat (first | (with_reducible first | exact HB.out | apply below_alloc | apply pw_below_drewN | apply below_drew1) | exact HB.out)); (case side2 => exact Kd.R_tight rfl HO116.out); rintro e w31 ⟨rfl, hy0, hb, hkp⟩; refine ⟨_, rfl, ?_⟩; have n0_ := Aside0.mk (Kd.R_reok rfl hy0 (fun k_ e_ => HO116.out.1 k_ e_)); have n1_ := Aside0.mk (hb); clear HO116; clear HB; have HO116 := n0_; have HB := n1_; clear n0_ n1_; (try clear hb); (try clear hkp); (try clear hy0)) | ((with_reducible refine gate_callee (f := 13) rfl ?_); refine goesL_ (some 19) rfl rfl Try.func13 (by kernel_rfl) rfl #[.slice Ao29 t120.length co29, .int .i64 0] rfl (by (try simp only [List.map_toArray, List.map_cons, List.map_nil]); first | done | (rw [show t120.length = t114.length from (Kd.R_reads' HO116.out).1.symm] <;> rfl) | rfl | (simp only [List.length_drop, List.length_take]; rfl)) ?_; (with_reducible refine (latest_Votes_Get.calls _ _ t120 0 t121 false _ ?side1 ?side2 A5.out).mono ?_); (case side1 => repeat (first | exact (Kd.R_reads' HO116.out).2.2 | (with_reducible refine Kd.C_alloc ?_ _) | (with_reducible refine Kd.C_drewN ?_ _) | (with_reducible refine Kd.C_drew ?_))); (case side2 => rw [show t120.length = t114.length from (Kd.R_reads' HO116.out).1.symm]; exact (Kd.R_reads' HO116.out).2.1); rintro e w' ⟨rfl, ⟨nd, rfl⟩⟩; refine ⟨_, rfl, ?_⟩) | ((with_reducible refine gate_callee (f := 11) rfl ?_); refine goesL_ (some 23) rfl rfl Try.func11 (by kernel_rfl) rfl #[.slice Ao29 t114.length co29, .int .i64 0] rfl (by (try simp only [List.map_toArray, List.map_cons, List.map_nil]); first | done | rfl | (simp only [List.length_drop, List.length_take]; rfl)) ?_; (with_reducible refine (latest_Votes_Ban.calls (fun k_ => some k_ = (.slice Ao29 t114.length co29 : Value).ownBlock) (.slice Ao29 t114.length co29) t120 0 t123 t124 w _ ?side1 ?side2 A6.out).mono ?_); (case side1 => repeat (first | (with_reducible first | exact HB.out | apply below_alloc | apply pw_below_drewN | apply below_drew1) | exact HB.out)); (case side2 => exact Kd.R_tight rfl HO116.out); rintro e w32 ⟨rfl, hy0, hb, hkp⟩; refine ⟨_, rfl, ?_⟩; have n0_ := Aside0.mk (Kd.R_reok rfl hy0 (fun k_ e_ => HO116.out.1 k_ e_)); have n1_ := Aside0.mk (hb); clear HO116; clear HB; have HO116 := n0_; have HB := n1_; clear n0_ n1_; (try clear hb); (try clear hkp); (try clear hy0)) | ((with_reducible refine gate_callee (f := 13) rfl ?_); refine goesL_ (some 26) rfl rfl Try.func13 (by kernel_rfl) rfl #[.slice Ao29 t124.length co29, .int .i64 0] rfl (by (try simp only [List.map_toArray, List.map_cons, List.map_nil]); first | done | (rw [show t124.length = t114.length from (Kd.R_reads' HO116.out).1.symm] <;> rfl) | rfl | (simp only [List.length_drop, List.length_take]; rfl)) ?_; (with_reducible refine (latest_Votes_Get.calls _ _ t124 0 t125 t126 _ ?side1 ?side2 A7.out).mono ?_); (case side1 => repeat (first | exact (Kd.R_reads' HO116.out).2.2 | (with_reducible refine Kd.C_alloc ?_ _) | (with_reducible refine Kd.C_drewN ?_ _) | (with_reducible refine Kd.C_drew ?_))); (case side2 => rw [show t124.length = t114.length from (Kd.R_reads' HO116.out).1.symm]; exact (Kd.R_reads' HO116.out).2.1); rintro e w' ⟨rfl, ⟨nd, rfl⟩⟩; refine ⟨_, rfl, ?_⟩))
            go_ret
            exact ⟨by first | rfl | (simp [errW_none, errW_some] <;> rfl) | (simp [*, errW_none, errW_some] <;> rfl), by repeat (first | (with_reducible first | exact HB.out | apply below_alloc | apply pw_below_drewN | apply below_drew1) | exact HB.out)⟩
        · rw [if_neg c15] at H
          have c15b0 : (t121 == 7) = false := beq_eq_false_iff_ne.mpr c15
          have c15b1 : (t121 != 7) = true := bne_iff_ne.mpr c15
          obtain rfl := Option.some.inj H
          go_enter Try.func9, Try.ntmps9
          go_wp2_with (first | ((with_reducible refine gate_callee (f := 10) rfl ?_); refine goesL_ (some 9) rfl rfl Try.func10 (by kernel_rfl) rfl #[.int .i64 2] rfl (by (try simp only [List.map_toArray, List.map_cons, List.map_nil]); first | done | rfl | (simp only [List.length_drop, List.length_take]; rfl)) ?_; (with_reducible refine (latest_Of.calls 2 t114 _ A1.out).mono ?_); rintro e w33 ⟨v115, rfl, ho0, hb⟩; refine ⟨_, rfl, ?_⟩; have n0_ := Aside0.mk (Kd.R_lower ho0 (below_size (by repeat (first | (with_reducible first | exact HB.out | apply below_alloc | apply pw_below_drewN | apply below_drew1) | exact HB.out)))); have n1_ := Aside0.mk (below_step (by repeat (first | (with_reducible first | exact HB.out | apply below_alloc | apply pw_below_drewN | apply below_drew1) | exact HB.out)) hb); clear HB; have HO116 := n0_; have HB := n1_; clear n0_ n1_; (try clear hb); (try clear hb2); (try clear hk); (try clear hi); (try clear ho0); obtain ⟨Ao34, co34, eo34⟩ := Kd.R_slice HO116.out; subst eo34) | ((with_reducible refine gate_callee (f := 12) rfl ?_); refine goesL_ (some 14) rfl rfl Try.func12 (by kernel_rfl) rfl #[.slice Ao34 t114.length co34, .int .i64 0, .int .i64 3, .int .u64 7] rfl (by (try simp only [List.map_toArray, List.map_cons, List.map_nil]); first | done | rfl | (simp only [List.length_drop, List.length_take]; rfl)) ?_; (with_reducible refine (latest_Votes_Take.calls (fun k_ => some k_ = (.slice Ao34 t114.length co34 : Value).ownBlock) (.slice Ao34 t114.length co34) t114 0 3 7 true t118 w _ ?side1 ?side2 A3.out).mono ?_); (case side1 => repeat (first | (with_reducible first | exact HB.out | apply below_alloc | apply pw_below_drewN | apply below_drew1) | exact HB.out)); (case side2 => exact Kd.R_tight rfl HO116.out); rintro e w35 ⟨rfl, hy0, hb, hkp⟩; refine ⟨_, rfl, ?_⟩; have n0_ := Aside0.mk (Kd.R_reok rfl hy0 (fun k_ e_ => HO116.out.1 k_ e_)); have n1_ := Aside0.mk (hb); clear HO116; clear HB; have HO116 := n0_; have HB := n1_; clear n0_ n1_; (try clear hb); (try clear hkp); (try clear hy0)) | ((with_reducible refine gate_callee (f := 12) rfl ?_); refine goesL_ (some 16) rfl rfl Try.func12 (by kernel_rfl) rfl #[.slice Ao34 t114.length co34, .int .i64 0, .int .i64 3, .int .u64 8] rfl (by (try simp only [List.map_toArray, List.map_cons, List.map_nil]); first | done | rfl | (simp only [List.length_drop, List.length_take]; rfl)) ?_; (with_reducible refine (latest_Votes_Take.calls (fun k_ => some k_ = (.slice Ao34 t114.length co34 : Value).ownBlock) (.slice Ao34 t114.length co34) t118 0 3 8 false t120 w _ ?side1 ?side2 A4.out).mono ?_); (case side1 => repeat (first | (with_reducible first | exact HB.out | apply below_alloc | apply pw_below_drewN | apply below_drew1) | exact HB.out)); (case side2 => exact Kd.R_tight rfl HO116.out); rintro e w36 ⟨rfl, hy0, hb, hkp⟩; refine ⟨_, rfl, ?_⟩; have n0_ := Aside0.mk (Kd.R_reok rfl hy0 (fun k_ e_ => HO116.out.1 k_ e_)); have n1_ := Aside0.mk (hb); clear HO116; clear HB; have HO116 := n0_; have HB := n1_; clear n0_ n1_; (try clear hb); (try clear hkp); (try clear hy0)) | ((with_reducible refine gate_callee (f := 13) rfl ?_); refine goesL_ (some 19) rfl rfl Try.func13 (by kernel_rfl) rfl #[.slice Ao34 t120.length co34, .int .i64 0] rfl (by (try simp only [List.map_toArray, List.map_cons, List.map_nil]); first | done | (rw [show t120.length = t114.length from (Kd.R_reads' HO116.out).1.symm] <;> rfl) | rfl | (simp only [List.length_drop, List.length_take]; rfl)) ?_; (with_reducible refine (latest_Votes_Get.calls _ _ t120 0 t121 t122 _ ?side1 ?side2 A5.out).mono ?_); (case side1 => repeat (first | exact (Kd.R_reads' HO116.out).2.2 | (with_reducible refine Kd.C_alloc ?_ _) | (with_reducible refine Kd.C_drewN ?_ _) | (with_reducible refine Kd.C_drew ?_))); (case side2 => rw [show t120.length = t114.length from (Kd.R_reads' HO116.out).1.symm]; exact (Kd.R_reads' HO116.out).2.1); rintro e w' ⟨rfl, ⟨nd, rfl⟩⟩; refine ⟨_, rfl, ?_⟩) | ((with_reducible refine gate_callee (f := 11) rfl ?_); refine goesL_ (some 23) rfl rfl Try.func11 (by kernel_rfl) rfl #[.slice Ao34 t114.length co34, .int .i64 0] rfl (by (try simp only [List.map_toArray, List.map_cons, List.map_nil]); first | done | rfl | (simp only [List.length_drop, List.length_take]; rfl)) ?_; (with_reducible refine (latest_Votes_Ban.calls (fun k_ => some k_ = (.slice Ao34 t114.length co34 : Value).ownBlock) (.slice Ao34 t114.length co34) t120 0 t123 t124 w _ ?side1 ?side2 A6.out).mono ?_); (case side1 => repeat (first | (with_reducible first | exact HB.out | apply below_alloc | apply pw_below_drewN | apply below_drew1) | exact HB.out)); (case side2 => exact Kd.R_tight rfl HO116.out); rintro e w37 ⟨rfl, hy0, hb, hkp⟩; refine ⟨_, rfl, ?_⟩; have n0_ := Aside0.mk (Kd.R_reok rfl hy0 (fun k_ e_ => HO116.out.1 k_ e_)); have n1_ := Aside0.mk (hb); clear HO116; clear HB; have HO116 := n0_; have HB := n1_; clear n0_ n1_; (try clear hb); (try clear hkp); (try clear hy0)) | ((with_reducible refine gate_callee (f := 13) rfl ?_); refine goesL_ (some 26) rfl rfl Try.func13 (by kernel_rfl) rfl #[.slice Ao34 t124.length co34, .int .i64 0] rfl (by (try simp only [List.map_toArray, List.map_cons, List.map_nil]); first | done | (rw [show t124.length = t114.length from (Kd.R_reads' HO116.out).1.symm] <;> rfl) | rfl | (simp only [List.length_drop, List.length_take]; rfl)) ?_; (with_reducible refine (latest_Votes_Get.calls _ _ t124 0 t125 t126 _ ?side1 ?side2 A7.out).mono ?_); (case side1 => repeat (first | exact (Kd.R_reads' HO116.out).2.2 | (with_reducible refine Kd.C_alloc ?_ _) | (with_reducible refine Kd.C_drewN ?_ _) | (with_reducible refine Kd.C_drew ?_))); (case side2 => rw [show t124.length = t114.length from (Kd.R_reads' HO116.out).1.symm]; exact (Kd.R_reads' HO116.out).2.1); rintro e w' ⟨rfl, ⟨nd, rfl⟩⟩; refine ⟨_, rfl, ?_⟩))
          go_ret
          exact ⟨by first | rfl | (simp [errW_none, errW_some] <;> rfl) | (simp [*, errW_none, errW_some] <;> rfl), by repeat (first | (with_reducible first | exact HB.out | apply below_alloc | apply pw_below_drewN | apply below_drew1) | exact HB.out)⟩
    · replace c8 := Bool.eq_false_iff.mpr c8
      subst c8
      have H1 : (some false) = some r := by rw [if_neg (show ¬ (false = true) by decide)] at H; exact H
      clear H
      have H := H1
      clear H1
      obtain rfl := Option.some.inj H
      go_enter Try.func9, Try.ntmps9
      go_wp2_with (first | ((with_reducible refine gate_callee (f := 10) rfl ?_); refine goesL_ (some 9) rfl rfl Try.func10 (by kernel_rfl) rfl #[.int .i64 2] rfl (by (try simp only [List.map_toArray, List.map_cons, List.map_nil]); first | done | rfl | (simp only [List.length_drop, List.length_take]; rfl)) ?_; (with_reducible refine (latest_Of.calls 2 t114 _ A1.out).mono ?_); rintro e w38 ⟨v115, rfl, ho0, hb⟩; refine ⟨_, rfl, ?_⟩; have n0_ := Aside0.mk (Kd.R_lower ho0 (below_size (by repeat (first | (with_reducible first | exact HB.out | apply below_alloc | apply pw_below_drewN | apply below_drew1) | exact HB.out)))); have n1_ := Aside0.mk (below_step (by repeat (first | (with_reducible first | exact HB.out | apply below_alloc | apply pw_below_drewN | apply below_drew1) | exact HB.out)) hb); clear HB; have HO116 := n0_; have HB := n1_; clear n0_ n1_; (try clear hb); (try clear hb2); (try clear hk); (try clear hi); (try clear ho0); obtain ⟨Ao39, co39, eo39⟩ := Kd.R_slice HO116.out; subst eo39) | ((with_reducible refine gate_callee (f := 12) rfl ?_); refine goesL_ (some 14) rfl rfl Try.func12 (by kernel_rfl) rfl #[.slice Ao39 t114.length co39, .int .i64 0, .int .i64 3, .int .u64 7] rfl (by (try simp only [List.map_toArray, List.map_cons, List.map_nil]); first | done | rfl | (simp only [List.length_drop, List.length_take]; rfl)) ?_; (with_reducible refine (latest_Votes_Take.calls (fun k_ => some k_ = (.slice Ao39 t114.length co39 : Value).ownBlock) (.slice Ao39 t114.length co39) t114 0 3 7 false t118 w _ ?side1 ?side2 A3.out).mono ?_); (case side1 => repeat (first | (with_reducible first | exact HB.out | apply below_alloc | apply pw_below_drewN | apply below_drew1) | exact HB.out)); (case side2 => exact Kd.R_tight rfl HO116.out); rintro e w40 ⟨rfl, hy0, hb, hkp⟩; refine ⟨_, rfl, ?_⟩; have n0_ := Aside0.mk (Kd.R_reok rfl hy0 (fun k_ e_ => HO116.out.1 k_ e_)); have n1_ := Aside0.mk (hb); clear HO116; clear HB; have HO116 := n0_; have HB := n1_; clear n0_ n1_; (try clear hb); (try clear hkp); (try clear hy0)) | ((with_reducible refine gate_callee (f := 12) rfl ?_); refine goesL_ (some 16) rfl rfl Try.func12 (by kernel_rfl) rfl #[.slice Ao39 t114.length co39, .int .i64 0, .int .i64 3, .int .u64 8] rfl (by (try simp only [List.map_toArray, List.map_cons, List.map_nil]); first | done | rfl | (simp only [List.length_drop, List.length_take]; rfl)) ?_; (with_reducible refine (latest_Votes_Take.calls (fun k_ => some k_ = (.slice Ao39 t114.length co39 : Value).ownBlock) (.slice Ao39 t114.length co39) t118 0 3 8 t119 t120 w _ ?side1 ?side2 A4.out).mono ?_); (case side1 => repeat (first | (with_reducible first | exact HB.out | apply below_alloc | apply pw_below_drewN | apply below_drew1) | exact HB.out)); (case side2 => exact Kd.R_tight rfl HO116.out); rintro e w41 ⟨rfl, hy0, hb, hkp⟩; refine ⟨_, rfl, ?_⟩; have n0_ := Aside0.mk (Kd.R_reok rfl hy0 (fun k_ e_ => HO116.out.1 k_ e_)); have n1_ := Aside0.mk (hb); clear HO116; clear HB; have HO116 := n0_; have HB := n1_; clear n0_ n1_; (try clear hb); (try clear hkp); (try clear hy0)) | ((with_reducible refine gate_callee (f := 13) rfl ?_); refine goesL_ (some 19) rfl rfl Try.func13 (by kernel_rfl) rfl #[.slice Ao39 t120.length co39, .int .i64 0] rfl (by (try simp only [List.map_toArray, List.map_cons, List.map_nil]); first | done | (rw [show t120.length = t114.length from (Kd.R_reads' HO116.out).1.symm] <;> rfl) | rfl | (simp only [List.length_drop, List.length_take]; rfl)) ?_; (with_reducible refine (latest_Votes_Get.calls _ _ t120 0 t121 t122 _ ?side1 ?side2 A5.out).mono ?_); (case side1 => repeat (first | exact (Kd.R_reads' HO116.out).2.2 | (with_reducible refine Kd.C_alloc ?_ _) | (with_reducible refine Kd.C_drewN ?_ _) | (with_reducible refine Kd.C_drew ?_))); (case side2 => rw [show t120.length = t114.length from (Kd.R_reads' HO116.out).1.symm]; exact (Kd.R_reads' HO116.out).2.1); rintro e w' ⟨rfl, ⟨nd, rfl⟩⟩; refine ⟨_, rfl, ?_⟩) | ((with_reducible refine gate_callee (f := 11) rfl ?_); refine goesL_ (some 23) rfl rfl Try.func11 (by kernel_rfl) rfl #[.slice Ao39 t114.length co39, .int .i64 0] rfl (by (try simp only [List.map_toArray, List.map_cons, List.map_nil]); first | done | rfl | (simp only [List.length_drop, List.length_take]; rfl)) ?_; (with_reducible refine (latest_Votes_Ban.calls (fun k_ => some k_ = (.slice Ao39 t114.length co39 : Value).ownBlock) (.slice Ao39 t114.length co39) t120 0 t123 t124 w _ ?side1 ?side2 A6.out).mono ?_); (case side1 => repeat (first | (with_reducible first | exact HB.out | apply below_alloc | apply pw_below_drewN | apply below_drew1) | exact HB.out)); (case side2 => exact Kd.R_tight rfl HO116.out); rintro e w42 ⟨rfl, hy0, hb, hkp⟩; refine ⟨_, rfl, ?_⟩; have n0_ := Aside0.mk (Kd.R_reok rfl hy0 (fun k_ e_ => HO116.out.1 k_ e_)); have n1_ := Aside0.mk (hb); clear HO116; clear HB; have HO116 := n0_; have HB := n1_; clear n0_ n1_; (try clear hb); (try clear hkp); (try clear hy0)) | ((with_reducible refine gate_callee (f := 13) rfl ?_); refine goesL_ (some 26) rfl rfl Try.func13 (by kernel_rfl) rfl #[.slice Ao39 t124.length co39, .int .i64 0] rfl (by (try simp only [List.map_toArray, List.map_cons, List.map_nil]); first | done | (rw [show t124.length = t114.length from (Kd.R_reads' HO116.out).1.symm] <;> rfl) | rfl | (simp only [List.length_drop, List.length_take]; rfl)) ?_; (with_reducible refine (latest_Votes_Get.calls _ _ t124 0 t125 t126 _ ?side1 ?side2 A7.out).mono ?_); (case side1 => repeat (first | exact (Kd.R_reads' HO116.out).2.2 | (with_reducible refine Kd.C_alloc ?_ _) | (with_reducible refine Kd.C_drewN ?_ _) | (with_reducible refine Kd.C_drew ?_))); (case side2 => rw [show t124.length = t114.length from (Kd.R_reads' HO116.out).1.symm]; exact (Kd.R_reads' HO116.out).2.1); rintro e w' ⟨rfl, ⟨nd, rfl⟩⟩; refine ⟨_, rfl, ?_⟩))
      go_ret
      exact ⟨by first | rfl | (simp [errW_none, errW_some] <;> rfl) | (simp [*, errW_none, errW_some] <;> rfl), by repeat (first | (with_reducible first | exact HB.out | apply below_alloc | apply pw_below_drewN | apply below_drew1) | exact HB.out)⟩
  · rw [if_neg c2] at H
    have c2b0 : ((t114.length : Int) == 2) = false := beq_eq_false_iff_ne.mpr c2
    have c2b1 : ((t114.length : Int) != 2) = true := bne_iff_ne.mpr c2
    obtain rfl := Option.some.inj H
    go_enter Try.func9, Try.ntmps9
    go_wp2_with (first | ((with_reducible refine gate_callee (f := 10) rfl ?_); refine goesL_ (some 9) rfl rfl Try.func10 (by kernel_rfl) rfl #[.int .i64 2] rfl (by (try simp only [List.map_toArray, List.map_cons, List.map_nil]); first | done | rfl | (simp only [List.length_drop, List.length_take]; rfl)) ?_; (with_reducible refine (latest_Of.calls 2 t114 _ A1.out).mono ?_); rintro e w43 ⟨v115, rfl, ho0, hb⟩; refine ⟨_, rfl, ?_⟩; have n0_ := Aside0.mk (Kd.R_lower ho0 (below_size (by repeat (first | (with_reducible first | exact HB.out | apply below_alloc | apply pw_below_drewN | apply below_drew1) | exact HB.out)))); have n1_ := Aside0.mk (below_step (by repeat (first | (with_reducible first | exact HB.out | apply below_alloc | apply pw_below_drewN | apply below_drew1) | exact HB.out)) hb); clear HB; have HO116 := n0_; have HB := n1_; clear n0_ n1_; (try clear hb); (try clear hb2); (try clear hk); (try clear hi); (try clear ho0); obtain ⟨Ao44, co44, eo44⟩ := Kd.R_slice HO116.out; subst eo44))
    go_ret
    exact ⟨by first | rfl | (simp [errW_none, errW_some] <;> rfl) | (simp [*, errW_none, errW_some] <;> rfl), by repeat (first | (with_reducible first | exact HB.out | apply below_alloc | apply pw_below_drewN | apply below_drew1) | exact HB.out)⟩

-- NOT PRINTED: function 3 (psephoslaw11_LatestScript)

end Go.Proofs.Ytadncnpgekkjbaa.PLatestScript
