/- The walk of SkipForks. -/
import Derived.Test.YtjoglfoioiedbaaTwiceWalk
namespace Go.Proofs.Ytjoglfoioiedbaa
open Go.RowKit Go.Maps SkipPure

/-- The block of height h on which x stands. -/
def lev (par : Int → Int) (x : Int) (i h : Nat) : Int := anc par x (i - h)
/-- Have they parted below height h? -/
def partB (par : Int → Int) (x y : Int) (i k : Nat) : Nat → Bool
  | 0 => false
  | h + 1 => lev par x i h != lev par y k h

theorem lev_par (par : Int → Int) (x : Int) (i h : Nat) (hi : h + 1 ≤ i) : lev par x i h = par (lev par x i (h + 1)) := by
  unfold lev
  rw [show i - h = i - (h + 1) + 1 by omega]
  rfl

theorem partB_next {par : Int → Int} {x y : Int} {i k : Nat} : ∀ h : Nat, h ≤ i → h ≤ k → partB par x y i k h = true → lev par x i h ≠ lev par y k h
  | 0, _, _, h => by cases h
  | h + 1, hi, hk, hp => by
    intro e
    have h1 := lev_par par x i h hi
    have h2 := lev_par par y k h hk
    rw [e, ← h2] at h1
    simp [partB, h1] at hp

theorem atF_lev {hgt : Int → Option Nat} {par : Int → Int} {x : Int} {i : Nat} (hx : hgt x = some i) (h : Nat) (hi : h ≤ i) : (atF hgt par x (h : Int)).1 = lev par x i h ∧ (atF hgt par x (h : Int)).2.2 = true := by
  unfold atF lev
  rw [hx]
  simp only
  rw [if_pos (by omega)]
  exact ⟨by simp, rfl⟩

theorem forks_below {hgt : Int → Option Nat} {par : Int → Int} {x y : Int} {i k : Nat} (hx : hgt x = some i) (hy : hgt y = some k) (h : partB par x y i k (min i k + 1) = false) : (belowF hgt par x y || belowF hgt par y x) = true := by
  have he : lev par x i (min i k) = lev par y k (min i k) := by simpa [partB] using h
  rcases Nat.le_total i k with c | c
  · rw [Nat.min_eq_left c] at he
    have h1 : lev par x i i = x := by simp [lev, anc]
    have h2 : belowF hgt par y x = true := by
      unfold belowF
      rw [hx]
      simp only
      rw [(atF_lev hy i c).1, (atF_lev hy i c).2, ← he, h1]
      simp
    rw [h2]; simp
  · rw [Nat.min_eq_right c] at he
    have h1 : lev par y k k = y := by simp [lev, anc]
    have h2 : belowF hgt par x y = true := by
      unfold belowF
      rw [hy]
      simp only
      rw [(atF_lev hx k c).1, (atF_lev hx k c).2, he, h1]
      simp
    rw [h2]; simp

theorem min2_nat (k k' : IntKind) (x y : Nat) : Builtin.min2 (.int k (x : Int)) (.int k' (y : Int)) = pure (.int k ((min x y : Nat) : Int)) := by
  simp only [Builtin.min2]
  congr 2
  by_cases c : (y : Int) < (x : Int)
  · rw [if_pos c]; omega
  · rw [if_neg c]; omega
theorem min_two' (ats : Array TypeId) (ty : TypeId) (a b : Value) : Builtin.min_ ats ty #[a, b] = (Builtin.min2 a b >>= fun s => pure s) := by simp only [Builtin.min_, List.foldlM_cons, List.foldlM_nil]

attribute [local go_sem] min2_nat min_two' in
set_option maxRecDepth 100000 in
set_option maxHeartbeats 8000000 in
theorem forks_walk (w : World) (ar : Option Addr) (len cap : Nat) (a b0 : Int) (ha : ArgU8 w ar len) (hlen : len ≤ 140737488351232) (ha0 : 0 ≤ a) (ha1 : a ≤ 255) (hb0 : 0 ≤ b0) (hb1 : b0 ≤ 255) :
    Calls Try.prog 7 #[.slice ar len cap, .int .u8 a, .int .u8 b0] w fun e w' => e = .returned (.bool true) ∧ w.grownBy w' none := by
  have HA := Lib.hid ha
  clear ha
  go_enter Try.func7, Try.ntmps7
  go_wp2_with fail
  refine (awake_calls w).mono ?_
  rintro e w0 ⟨rfl, hg0⟩
  have HG0 := Lib.hid hg0
  clear hg0
  go_wp2_with fail
  refine (of_H HG0.out (small_inU (by omega) (by omega))).mono ?_
  rintro e w1 ⟨p, b, rfl, hs, hg⟩
  have HS := Lib.hid hs
  clear hs hg
  go_wp2_with fail
  have ha1' : ArgU8 w1 ar len := fun i hi => by
    obtain ⟨ad, x, h1, h2, h3⟩ := HA.out i hi
    exact ⟨ad, x, h1, HS.out.grown.cell h2 (by simp), h3⟩
  refine (made_calls w1 ar len cap ha1' hlen).mono ?_
  rintro e w2 ⟨tp, tb, g, c, L, P, S, H, rfl, hm⟩
  obtain ⟨hL0, hL1, hLc⟩ := LawAt.start HS.out hm
  have HL := Lib.hid hL0
  have hL31 := hL0.2.2.2.2.1
  clear hL0 hm ha1'
  go_wp2
  · go_loopw [37] (fun v28 wr => ∃ i : Nat, v28 = .int .i64 (i : Int) ∧ i + 1 ≤ L ∧ ∃ hgt par, LawAt w wr p b g L (i + 1) hgt par P S) (fun v28 _ => 40 - (intOf v28).toNat)
    case atStart => exact ⟨0, rfl, hL1, _, _, HL.out⟩
    case round =>
      obtain ⟨i, rfl, hi, hgt, par, hl⟩ := hrel
      by_cases hlt : i < L - 1
      · exfalso; omega
      · have hiL : i + 1 = L := by omega
        rw [hiL] at hl
        have hm0 := Int.emod_nonneg a (show (L : Int) ≠ 0 by omega)
        have hm1 := Int.emod_lt_of_pos a (show 0 < (L : Int) by omega)
        have hn0 := Int.emod_nonneg b0 (show (L : Int) ≠ 0 by omega)
        have hn1 := Int.emod_lt_of_pos b0 (show 0 < (L : Int) by omega)
        obtain ⟨q, hq⟩ : ∃ q, q = ((a % (L : Int)).toNat : Int) + 1 := ⟨_, rfl⟩
        obtain ⟨s, hs⟩ : ∃ s, s = ((b0 % (L : Int)).toNat : Int) + 1 := ⟨_, rfl⟩
        have c0 := (hl.2.2.1 (a % (L : Int)).toNat (by omega)).1
        have d0 := (hl.2.2.1 (b0 % (L : Int)).toNat (by omega)).1
        rw [← hq] at c0
        rw [← hs] at d0
        have hq1 : 1 ≤ q ∧ q ≤ (L : Int) := by omega
        have hs1 : 1 ≤ s ∧ s ≤ (L : Int) := by omega
        have hqs := hl.2.1.1 q
        rw [decide_eq_true hq1] at hqs
        obtain ⟨hx, hk⟩ := Option.isSome_iff_exists.1 hqs
        have hss := hl.2.1.1 s
        rw [decide_eq_true hs1] at hss
        obtain ⟨hy, hj⟩ := Option.isSome_iff_exists.1 hss
        have hxb := hl.2.1.2.2.2.2 q hx hk
        have hyb := hl.2.1.2.2.2.2 s hy hj
        have hqU : inU q := ⟨by omega, by omega⟩
        have hsU : inU s := ⟨by omega, by omega⟩
        have HH := Lib.hid hl.1
        have HK := Lib.hid hk
        have HJ := Lib.hid hj
        have ht1 : a.tmod (L : Int) = a % (L : Int) := Int.tmod_eq_emod_of_nonneg ha0
        have ht2 : b0.tmod (L : Int) = b0 % (L : Int) := Int.tmod_eq_emod_of_nonneg hb0
        clear hl hq hs hqs hss hk hj hiL
        go_wp2
        go_quiet (fail)
        clear ht1 ht2
        go_wp2_with fail
        refine (height_H (HH.out.kept (drewN_grown wr nq)) hqU).mono ?_
        rintro e w3 ⟨rfl, hh, _⟩
        rw [HK.out]
        simp only [Option.getD_some, Option.isSome_some]
        have HH2 := Lib.hid hh
        clear hh
        go_wp2_with fail
        refine (height_H HH2.out hsU).mono ?_
        rintro e w4 ⟨rfl, hh, _⟩
        rw [HJ.out]
        simp only [Option.getD_some, Option.isSome_some]
        have HH3 := Lib.hid hh
        clear hh
        go_wp2
        go_loopw [18, 19] (fun v18 v19 wr => ∃ h : Nat, v19 = .int .i64 (h : Int) ∧ v18 = .bool (partB par q s hx hy h) ∧ h ≤ min hx hy + 1 ∧ Holds w wr p b L hgt par) (fun _ v19 _ => 40 - (intOf v19).toNat)
        case atStart => exact ⟨0, rfl, rfl, by omega, HH3.out⟩
        case round =>
          obtain ⟨h, rfl, rfl, hle, hh⟩ := hrel
          have HH4 := Lib.hid hh
          clear hh
          obtain ⟨mn, hmnE⟩ : ∃ mn, mn = min hx hy := ⟨_, rfl⟩
          have hmn : min hx hy = mn := hmnE.symm
          rw [← hmnE] at hle
          have hmnE1 : mn ≤ hx := by omega
          have hmnE2 : mn ≤ hy := by omega
          have HMN := Lib.hid hmnE
          clear hmnE
          by_cases hlt2 : h ≤ mn
          · obtain ⟨pb, hpb⟩ : ∃ pb, pb = partB par q s hx hy h := ⟨_, rfl⟩
            have hnext : pb = true → lev par q hx h ≠ lev par s hy h := fun e => partB_next h (by omega) (by omega) (by rw [← hpb]; exact e)
            rw [← hpb]
            have g9 : decide (h ≤ mn) = true := decide_eq_true hlt2
            clear hpb
            go_wp2_with fail
            refine (at_H HH4.out hqU (h : Int)).mono ?_
            rintro e w5 ⟨rfl, hh, _⟩
            rw [(atF_lev HK.out h (by omega)).1, (atF_lev HK.out h (by omega)).2]
            have HH5 := Lib.hid hh
            clear hh
            generalize (atF hgt par q (h : Int)).2.1 = j1
            go_wp2_with fail
            refine (at_H HH5.out hsU (h : Int)).mono ?_
            rintro e w6 ⟨rfl, hh, _⟩
            rw [(atF_lev HJ.out h (by omega)).1, (atF_lev HJ.out h (by omega)).2]
            have HH6 := Lib.hid hh
            clear hh
            generalize (atF hgt par s (h : Int)).2.1 = j2
            have hpn : partB par q s hx hy (h + 1) = (lev par q hx h != lev par s hy h) := rfl
            have HPN := Lib.hid hpn
            clear hpn
            generalize lev par q hx h = l1 at *
            generalize lev par s hy h = l2 at *
            cases pb with
            | false =>
              clear hnext
              go_wp2
              exact ⟨⟨h + 1, by simp, by rw [HPN.out], by omega, HH6.out⟩, by simp [intOf]; omega⟩
            | true =>
              have hne := hnext rfl
              have g7 : (l1 == l2) = false := beq_eq_false_iff_ne.2 hne
              have g8 : (l1 != l2) = true := by rw [bne_iff_ne]; exact hne
              have HG8 := Lib.hid g8
              clear hnext hne g8
              go_wp2
              exact ⟨⟨h + 1, by simp, by rw [HPN.out, HG8.out], by omega, HH6.out⟩, by simp [intOf]; omega⟩
          · have hhm : h = mn + 1 := by omega
            subst hhm
            have g9 : decide (mn + 1 ≤ mn) = false := decide_eq_false (by omega)
            cases hpb : partB par q s hx hy (mn + 1) with
            | true =>
              clear hpb
              go_wp2
              go_ret
              exact ⟨by simp, HH4.out.grown⟩
            | false =>
              have hbb := forks_below HK.out HJ.out (by rw [← HMN.out]; exact hpb)
              clear hpb
              have HBB := Lib.hid hbb
              clear hbb
              go_wp2_with fail
              refine (below_H HH4.out hqU hsU).mono ?_
              rintro e w5 ⟨rfl, hh, _⟩
              have HH5 := Lib.hid hh
              clear hh
              cases hb : belowF hgt par q s with
              | true =>
                clear hb
                go_wp2
                go_ret
                exact ⟨by simp, HH5.out.grown⟩
              | false =>
                have hb2 : belowF hgt par s q = true := by have := HBB.out; rw [hb] at this; simpa using this
                clear hb
                have HB2 := Lib.hid hb2
                clear hb2
                go_wp2_with fail
                refine (below_H HH5.out hsU hqU).mono ?_
                rintro e w6 ⟨rfl, hh, _⟩
                have HH6 := Lib.hid hh
                clear hh
                rw [HB2.out]
                go_wp2
                go_ret
                exact ⟨by simp, HH6.out.grown⟩
  · go_loopw [37] (fun v28 wr => ∃ i : Nat, v28 = .int .i64 (i : Int) ∧ i + 1 ≤ L ∧ ∃ hgt par, LawAt w wr p b g L (i + 1) hgt par P S) (fun v28 _ => 40 - (intOf v28).toNat)
    case atStart => exact ⟨0, rfl, hL1, _, _, HL.out⟩
    case round =>
      obtain ⟨i, rfl, hi, hgt, par, hl⟩ := hrel
      by_cases hlt : i < L - 1
      · have hm := hl.2.2.1 (i + 1) (by omega)
        have m0 : wr.cell? ⟨g, 3 + i * 3, none⟩ = some (.int .u64 (((i + 1 : Nat) : Int) + 1)) := by rw [show 3 + i * 3 = (i + 1) * 3 by omega]; exact hm.1
        have m1 : wr.cell? ⟨g, 3 + i * 3 + 1, none⟩ = some (.int .u64 (P (((i + 1 : Nat) : Int) + 1))) := by rw [show 3 + i * 3 + 1 = (i + 1) * 3 + 1 by omega]; exact hm.2.1
        have m2 : wr.cell? ⟨g, 3 + i * 3 + 2, none⟩ = some (.int .i64 (S (((i + 1 : Nat) : Int) + 1))) := by rw [show 3 + i * 3 + 2 = (i + 1) * 3 + 2 by omega]; exact hm.2.2
        have HL2 := Lib.hid (hl.kept (World.grownBy_alloc wr (Obj.cells #[Value.int .u64 (↑i + 1 + 1), Value.int .u64 (P (↑i + 1 + 1)), Value.int .i64 (S (↑i + 1 + 1))] 45) none))
        clear hl hm
        go_wp2_with fail
        refine (HL2.out.add (by omega) (by omega)).mono ?_
        rintro e w3 ⟨rfl, hgt', par', hl3⟩
        have HL3 := Lib.hid hl3
        clear hl3
        go_wp2
        exact ⟨⟨i + 1, by simp, by omega, hgt', par', HL3.out⟩, by simp [intOf]; omega⟩
      · have hiL : i + 1 = L := by omega
        rw [hiL] at hl
        have hm0 := Int.emod_nonneg a (show (L : Int) ≠ 0 by omega)
        have hm1 := Int.emod_lt_of_pos a (show 0 < (L : Int) by omega)
        have hn0 := Int.emod_nonneg b0 (show (L : Int) ≠ 0 by omega)
        have hn1 := Int.emod_lt_of_pos b0 (show 0 < (L : Int) by omega)
        obtain ⟨q, hq⟩ : ∃ q, q = ((a % (L : Int)).toNat : Int) + 1 := ⟨_, rfl⟩
        obtain ⟨s, hs⟩ : ∃ s, s = ((b0 % (L : Int)).toNat : Int) + 1 := ⟨_, rfl⟩
        have c0 := (hl.2.2.1 (a % (L : Int)).toNat (by omega)).1
        have d0 := (hl.2.2.1 (b0 % (L : Int)).toNat (by omega)).1
        rw [← hq] at c0
        rw [← hs] at d0
        have hq1 : 1 ≤ q ∧ q ≤ (L : Int) := by omega
        have hs1 : 1 ≤ s ∧ s ≤ (L : Int) := by omega
        have hqs := hl.2.1.1 q
        rw [decide_eq_true hq1] at hqs
        obtain ⟨hx, hk⟩ := Option.isSome_iff_exists.1 hqs
        have hss := hl.2.1.1 s
        rw [decide_eq_true hs1] at hss
        obtain ⟨hy, hj⟩ := Option.isSome_iff_exists.1 hss
        have hxb := hl.2.1.2.2.2.2 q hx hk
        have hyb := hl.2.1.2.2.2.2 s hy hj
        have hqU : inU q := ⟨by omega, by omega⟩
        have hsU : inU s := ⟨by omega, by omega⟩
        have HH := Lib.hid hl.1
        have HK := Lib.hid hk
        have HJ := Lib.hid hj
        have ht1 : a.tmod (L : Int) = a % (L : Int) := Int.tmod_eq_emod_of_nonneg ha0
        have ht2 : b0.tmod (L : Int) = b0 % (L : Int) := Int.tmod_eq_emod_of_nonneg hb0
        clear hl hq hs hqs hss hk hj hiL
        go_wp2
        go_quiet (fail)
        clear ht1 ht2
        go_wp2_with fail
        refine (height_H (HH.out.kept (drewN_grown wr nq)) hqU).mono ?_
        rintro e w3 ⟨rfl, hh, _⟩
        rw [HK.out]
        simp only [Option.getD_some, Option.isSome_some]
        have HH2 := Lib.hid hh
        clear hh
        go_wp2_with fail
        refine (height_H HH2.out hsU).mono ?_
        rintro e w4 ⟨rfl, hh, _⟩
        rw [HJ.out]
        simp only [Option.getD_some, Option.isSome_some]
        have HH3 := Lib.hid hh
        clear hh
        go_wp2
        go_loopw [18, 19] (fun v18 v19 wr => ∃ h : Nat, v19 = .int .i64 (h : Int) ∧ v18 = .bool (partB par q s hx hy h) ∧ h ≤ min hx hy + 1 ∧ Holds w wr p b L hgt par) (fun _ v19 _ => 40 - (intOf v19).toNat)
        case atStart => exact ⟨0, rfl, rfl, by omega, HH3.out⟩
        case round =>
          obtain ⟨h, rfl, rfl, hle, hh⟩ := hrel
          have HH4 := Lib.hid hh
          clear hh
          obtain ⟨mn, hmnE⟩ : ∃ mn, mn = min hx hy := ⟨_, rfl⟩
          have hmn : min hx hy = mn := hmnE.symm
          rw [← hmnE] at hle
          have hmnE1 : mn ≤ hx := by omega
          have hmnE2 : mn ≤ hy := by omega
          have HMN := Lib.hid hmnE
          clear hmnE
          by_cases hlt2 : h ≤ mn
          · obtain ⟨pb, hpb⟩ : ∃ pb, pb = partB par q s hx hy h := ⟨_, rfl⟩
            have hnext : pb = true → lev par q hx h ≠ lev par s hy h := fun e => partB_next h (by omega) (by omega) (by rw [← hpb]; exact e)
            rw [← hpb]
            have g9 : decide (h ≤ mn) = true := decide_eq_true hlt2
            clear hpb
            go_wp2_with fail
            refine (at_H HH4.out hqU (h : Int)).mono ?_
            rintro e w5 ⟨rfl, hh, _⟩
            rw [(atF_lev HK.out h (by omega)).1, (atF_lev HK.out h (by omega)).2]
            have HH5 := Lib.hid hh
            clear hh
            generalize (atF hgt par q (h : Int)).2.1 = j1
            go_wp2_with fail
            refine (at_H HH5.out hsU (h : Int)).mono ?_
            rintro e w6 ⟨rfl, hh, _⟩
            rw [(atF_lev HJ.out h (by omega)).1, (atF_lev HJ.out h (by omega)).2]
            have HH6 := Lib.hid hh
            clear hh
            generalize (atF hgt par s (h : Int)).2.1 = j2
            have hpn : partB par q s hx hy (h + 1) = (lev par q hx h != lev par s hy h) := rfl
            have HPN := Lib.hid hpn
            clear hpn
            generalize lev par q hx h = l1 at *
            generalize lev par s hy h = l2 at *
            cases pb with
            | false =>
              clear hnext
              go_wp2
              exact ⟨⟨h + 1, by simp, by rw [HPN.out], by omega, HH6.out⟩, by simp [intOf]; omega⟩
            | true =>
              have hne := hnext rfl
              have g7 : (l1 == l2) = false := beq_eq_false_iff_ne.2 hne
              have g8 : (l1 != l2) = true := by rw [bne_iff_ne]; exact hne
              have HG8 := Lib.hid g8
              clear hnext hne g8
              go_wp2
              exact ⟨⟨h + 1, by simp, by rw [HPN.out, HG8.out], by omega, HH6.out⟩, by simp [intOf]; omega⟩
          · have hhm : h = mn + 1 := by omega
            subst hhm
            have g9 : decide (mn + 1 ≤ mn) = false := decide_eq_false (by omega)
            cases hpb : partB par q s hx hy (mn + 1) with
            | true =>
              clear hpb
              go_wp2
              go_ret
              exact ⟨by simp, HH4.out.grown⟩
            | false =>
              have hbb := forks_below HK.out HJ.out (by rw [← HMN.out]; exact hpb)
              clear hpb
              have HBB := Lib.hid hbb
              clear hbb
              go_wp2_with fail
              refine (below_H HH4.out hqU hsU).mono ?_
              rintro e w5 ⟨rfl, hh, _⟩
              have HH5 := Lib.hid hh
              clear hh
              cases hb : belowF hgt par q s with
              | true =>
                clear hb
                go_wp2
                go_ret
                exact ⟨by simp, HH5.out.grown⟩
              | false =>
                have hb2 : belowF hgt par s q = true := by have := HBB.out; rw [hb] at this; simpa using this
                clear hb
                have HB2 := Lib.hid hb2
                clear hb2
                go_wp2_with fail
                refine (below_H HH5.out hsU hqU).mono ?_
                rintro e w6 ⟨rfl, hh, _⟩
                have HH6 := Lib.hid hh
                clear hh
                rw [HB2.out]
                go_wp2
                go_ret
                exact ⟨by simp, HH6.out.grown⟩

theorem forks_row (ar : Option Addr) (len cap : Nat) (zs : List Int) (a b0 : Int) (w : World) (h : (ar = none ∧ len = 0 ∧ cap = 0 ∧ zs = []) ∨ ∃ x, ar = some x ∧ len ≤ cap ∧ cap ≤ maxLen ∧ zs.length = cap ∧ (∀ i, i < zs.length → w.cell? (x.add i) = some (.int .u8 (zs.getD i 0))) ∧ ∀ n ∈ zs, (Lit.int .u8 n).wf = true) (hl : len * 1 ≤ 140737488351232) (ha : (Lit.int .u8 a).wf = true) (hb : (Lit.int .u8 b0).wf = true) :
    Calls Try.prog 7 #[.slice ar len cap, .int .u8 a, .int .u8 b0] w fun e w' => e = .returned (.bool true) ∧ Below w.heap.size w w' :=
  (forks_walk w ar len cap a b0 (arg_of_row h) (by omega) (u8_bd ha).1 (u8_bd ha).2 (u8_bd hb).1 (u8_bd hb).2).mono fun _ _ ⟨h1, h2⟩ => ⟨h1, grown_lt h2⟩
end Go.Proofs.Ytjoglfoioiedbaa
