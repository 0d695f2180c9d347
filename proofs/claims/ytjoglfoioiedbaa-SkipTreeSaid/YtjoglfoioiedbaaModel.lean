/- Contracts of the model's Find, Below, and of the law's own high. -/
import Derived.Test.YtjoglfoioiedbaaTwiceWalk
namespace Go.Proofs.Ytjoglfoioiedbaa
open Go.RowKit Go.Maps SkipPure

/-- The place of a block. -/
def findI (L : Nat) (r : Int) : Int := if 1 ≤ r ∧ r ≤ L then r - 1 else -1

set_option maxHeartbeats 2000000 in
theorem find_calls {w : World} {g L c : Nat} {P S : Int → Int} (hM : MRow w g L P S) (hL : L ≤ 31) (r : Int) :
    Calls Try.prog 19 #[.slice (some ⟨g, 0, none⟩) L c, .int .u64 r] w fun e w' => e = .returned (.int .i64 (findI L r)) ∧ w.grownBy w' none := by
  go_enter Try.func19, Try.ntmps19
  go_wp2
  go_loopw [9] (fun v9 wr => ∃ i : Nat, v9 = .int .i64 (i : Int) ∧ i ≤ L ∧ (r < 1 ∨ (i : Int) < r) ∧ w.grownBy wr none) (fun v9 _ => 40 - (intOf v9).toNat)
  case atStart => exact ⟨0, rfl, by omega, by omega, World.grownBy.refl w none⟩
  case round =>
    obtain ⟨i, rfl, hi, hir, hg⟩ := hrel
    by_cases hlt : i < L
    · obtain ⟨m0, m1, m2⟩ := hM.kept hg (by simp) i hlt
      have HG := Lib.hid hg
      have HMM := Lib.hid hM
      clear hg hM
      obtain ⟨pp, hpp⟩ : ∃ pp, pp = P ((i : Int) + 1) := ⟨_, rfl⟩
      obtain ⟨ss, hss⟩ : ∃ ss, ss = S ((i : Int) + 1) := ⟨_, rfl⟩
      rw [← hpp] at m1
      rw [← hss] at m2
      clear hpp hss
      by_cases he : (i : Int) + 1 = r
      · have g1 : ((i : Int) + 1 == r) = true := beq_iff_eq.2 he
        have hf : findI L r = (i : Int) := by unfold findI; rw [if_pos (by omega)]; omega
        have HF := Lib.hid hf
        clear hf he
        go_wp2
        go_ret
        exact ⟨by rw [HF.out]; simp, HG.out.andThen (World.grownBy_alloc wr _ none) (fun j e => by cases e)⟩
      · have g1 : ((i : Int) + 1 == r) = false := beq_eq_false_iff_ne.2 he
        go_wp2
        exact ⟨⟨i + 1, by simp, by omega, by omega, HG.out.andThen (World.grownBy_alloc wr _ none) (fun j e => by cases e)⟩, by simp [intOf]; omega⟩
    · have hiL : i = L := by omega
      have hf : findI L r = -1 := by unfold findI; rw [if_neg (by omega)]
      have HF := Lib.hid hf
      have HG := Lib.hid hg
      have HMM := Lib.hid hM
      clear hf hg hM hiL
      go_wp2
      go_ret
      exact ⟨by rw [HF.out]; simp, HG.out⟩

theorem grow_range {hgt : Int → Option Nat} {par P : Int → Int} {L : Nat} (G : Grow hgt par P L) {x : Int} {k : Nat} (hx : hgt x = some k) : 1 ≤ x ∧ x ≤ (L : Int) := by
  have := G.1 x
  rw [hx] at this
  exact of_decide_eq_true this.symm

theorem anc_range {hgt : Int → Option Nat} {par P : Int → Int} {L : Nat} (G : Grow hgt par P L) (T : Tree hgt par) {x : Int} {k : Nat} (hx : hgt x = some k) {d : Nat} (hd : d ≤ k) : 1 ≤ anc par x d ∧ anc par x d ≤ (L : Int) :=
  grow_range G (hgt_anc T hx d hd)

/-- One step down: the parent's place. -/
theorem step_down {hgt : Int → Option Nat} {par P : Int → Int} {L : Nat} (G : Grow hgt par P L) (T : Tree hgt par) {x : Int} {k : Nat} (hx : hgt x = some k) {d : Nat} (hd : d < k) :
    P (anc par x d) = anc par x (d + 1) ∧ findI L (P (anc par x d)) = anc par x (d + 1) - 1 := by
  have h1 := hgt_anc T hx d (by omega)
  have r1 := grow_range G h1
  have h2 := hgt_anc T hx (d + 1) (by omega)
  have r2 := grow_range G h2
  have hne : anc par x d ≠ 1 := by
    intro e
    rw [e, G.2.1] at h1
    have := Option.some.inj h1
    omega
  have e : P (anc par x d) = anc par x (d + 1) := (G.2.2.2.1 _ (by omega) r1.2).symm
  refine ⟨e, ?_⟩
  rw [e]
  unfold findI
  rw [if_pos r2]

set_option maxHeartbeats 2000000 in
theorem high_calls {w : World} {q g L c : Nat} {P S : Int → Int} {hgt : Int → Option Nat} {par : Int → Int} (hb : w.heap[q]? = some (.cells #[.slice (some ⟨g, 0, none⟩) L c] 41 (0, 0))) (hM : MRow w g L P S) (hL : L ≤ 31) (G : Grow hgt par P L) (T : Tree hgt par)
    {k : Nat} {h : Nat} (hk : hgt ((k : Int) + 1) = some h) :
    Calls Try.prog 18 #[.int .i64 k, .pointer (some ⟨q, 0, none⟩)] w fun e w' => e = .returned (.int .i64 (h : Int)) ∧ w.grownBy w' none := by
  have hqlt : q < w.heap.size := (Array.getElem?_eq_some_iff.1 hb).1
  have hh31 : h ≤ L := G.2.2.2.2 _ _ hk
  have HB := Lib.hid hb
  have HMR := Lib.hid hM
  have HG := Lib.hid G
  have HT := Lib.hid T
  have HK := Lib.hid hk
  have hk1 := grow_range G hk
  clear hb hM G T hk
  go_enter Try.func18, Try.ntmps18
  go_wp2
  go_loopw [0, 4] (fun v0 v4 wr => ∃ d i : Nat, v0 = .int .i64 (i : Int) ∧ (i : Int) + 1 = anc par ((k : Int) + 1) d ∧ v4 = .int .i64 (d : Int) ∧ d ≤ h ∧ w.grownBy wr none) (fun _ v4 _ => 40 - (intOf v4).toNat)
  case atStart => exact ⟨0, k, rfl, by simp [anc], rfl, by omega, World.grownBy.refl w none⟩
  case round =>
    obtain ⟨d, i, rfl, hx, rfl, hd, hg⟩ := hrel
    have hr := anc_range HG.out HT.out HK.out hd
    have hha := hgt_anc HT.out HK.out d hd
    rw [← hx] at hr hha
    by_cases hlt : d < h
    · have hst := step_down HG.out HT.out HK.out hlt
      rw [← hx] at hst
      have hx1 : 0 < i := by
        rcases Nat.eq_zero_or_pos i with e | e
        · subst e
          have e1 : ((0 : Nat) : Int) + 1 = 1 := rfl
          rw [e1, HG.out.2.1] at hha
          have := Option.some.inj hha
          omega
        · exact e
      have hm := (HMR.out.kept hg (by simp)) i (by omega)
      rw [hst.1] at hm
      have hpU := anc_range HG.out HT.out HK.out (d := d + 1) (by omega)
      obtain ⟨y, hy⟩ : ∃ y, y = anc par ((k : Int) + 1) (d + 1) := ⟨_, rfl⟩
      rw [← hy] at hm hpU
      have m1 := hm.2.1
      have hbb := (hg.block q hqlt (by simp)).trans HB.out
      have b0 : wr.cell? ⟨q, 0, none⟩ = some (.slice (some ⟨g, 0, none⟩) L c) := cel hbb 0
      have HGW := Lib.hid hg
      have HX := Lib.hid hx
      have HY := Lib.hid hy
      have HST := Lib.hid hst.2
      clear hx hy hst hm hha hg hbb
      have i1 : i < L := by omega
      have i3 : (i : Int) < (L : Int) := by omega
      go_wp2
      go_still_tail 6, (by kernel_rfl)
      change wpList _ _ _ _ _ wr.drew
      have HMD := (HMR.out.kept HGW.out (by simp)).kept (gdrew (World.grownBy.refl wr none)) (by simp)
      have HMDD := Lib.hid HMD
      have HGD := Lib.hid (HGW.out.andThen (gdrew (World.grownBy.refl wr none)) (fun j e => by cases e))
      clear HMD
      generalize wr.drew = wd at *
      go_wp2_with fail
      refine (find_calls HMDD.out hL y).mono ?_
      rintro e w3 ⟨rfl, hg3⟩
      have HG3 := Lib.hid (HGD.out.andThen hg3 (fun j e => by cases e))
      clear hg3
      have hf : findI L y = y - 1 := by unfold findI; rw [if_pos hpU]
      have HF := Lib.hid hf
      clear hf
      go_wp2
      exact ⟨⟨d + 1, (y - 1).toNat, by rw [HF.out]; congr 1; omega, by rw [← HY.out]; omega, by simp, by omega, HG3.out⟩, by simp [intOf]; omega⟩
    · have hdh : d = h := by omega
      subst hdh
      have hx1 : i = 0 := by
        rw [Nat.sub_self] at hha
        have := HG.out.2.2.1 _ hha
        omega
      subst hx1
      have HGW := Lib.hid hg
      clear hx hg hha
      go_wp2
      go_ret
      exact ⟨by simp, HGW.out⟩

/-- Below, told by ancestors. -/
theorem belowF_anc {hgt : Int → Option Nat} {par : Int → Int} (T : Tree hgt par) {r on : Int} {h : Nat} (hr : hgt r = some h) {d : Nat} (hd : d ≤ h) (e : anc par r d = on) : belowF hgt par r on = true := by
  have h1 := hgt_anc T hr d hd
  rw [e] at h1
  unfold belowF
  rw [h1]
  simp only
  unfold atF
  rw [hr]
  simp only
  rw [if_pos (by omega)]
  have e2 : h - ((h - d : Nat) : Int).toNat = d := by omega
  rw [e2, e]
  simp
theorem belowF_not {hgt : Int → Option Nat} {par : Int → Int} {r on : Int} {h : Nat} (hr : hgt r = some h) (hne : ∀ d, d ≤ h → anc par r d ≠ on) : belowF hgt par r on = false := by
  unfold belowF
  cases ho : hgt on with
  | none => rfl
  | some ko =>
    simp only
    unfold atF
    rw [hr]
    simp only
    by_cases c : 0 ≤ (ko : Int) ∧ (ko : Int) ≤ (h : Int)
    · rw [if_pos c]
      simp
      exact hne (h - ko) (by omega)
    · rw [if_neg c]; rfl

set_option maxHeartbeats 4000000 in
theorem mbelow_calls {w : World} {g L c : Nat} {P S : Int → Int} {hgt : Int → Option Nat} {par : Int → Int} (hM : MRow w g L P S) (hL : L ≤ 31) (G : Grow hgt par P L) (T : Tree hgt par)
    {r on : Int} {h : Nat} (hk : hgt r = some h) (ho : 1 ≤ on ∧ on ≤ (L : Int)) (hP : ∀ r, 2 ≤ r → r ≤ (L : Int) → 1 ≤ P r ∧ P r < r) :
    Calls Try.prog 20 #[.slice (some ⟨g, 0, none⟩) L c, .int .u64 r, .int .u64 on] w fun e w' => e = .returned (.bool (belowF hgt par r on)) ∧ w.grownBy w' none := by
  have hh31 : h ≤ L := G.2.2.2.2 _ _ hk
  have hr1 := grow_range G hk
  have f1 : findI L on = on - 1 := by unfold findI; rw [if_pos ho]
  have f2 : findI L r = r - 1 := by unfold findI; rw [if_pos hr1]
  have HMR := Lib.hid hM
  have HG := Lib.hid G
  have HT := Lib.hid T
  have HK := Lib.hid hk
  have HF1 := Lib.hid f1
  have HF2 := Lib.hid f2
  obtain ⟨ho0, ho1⟩ := ho
  have HP := Lib.hid hP
  clear hM G T hk f1 f2 hP
  go_enter Try.func20, Try.ntmps20
  go_wp2_with fail
  refine (find_calls HMR.out hL on).mono ?_
  rintro e w1 ⟨rfl, hg1⟩
  rw [HF1.out]
  have HG1 := Lib.hid hg1
  clear hg1
  go_wp2_with fail
  refine (find_calls (HMR.out.kept HG1.out (by simp)) hL r).mono ?_
  rintro e w2 ⟨rfl, hg2⟩
  rw [HF2.out]
  have HG2 := Lib.hid (HG1.out.andThen hg2 (fun j e => by cases e))
  clear hg2
  go_wp2
  go_loopw [7] (fun v7 wr => ∃ d i : Nat, v7 = .int .i64 (i : Int) ∧ (i : Int) + 1 = anc par r d ∧ d ≤ h ∧ (∀ d', d' < d → anc par r d' ≠ on) ∧ w.grownBy wr none) (fun v7 _ => (intOf v7).toNat)
  case atStart => exact ⟨0, (r - 1).toNat, by congr 1; omega, by simp [anc]; omega, by omega, fun d' hd => by omega, HG2.out⟩
  case round =>
    obtain ⟨d, i, rfl, hx, hd, hno, hg⟩ := hrel
    have hr := anc_range HG.out HT.out HK.out hd
    have hha := hgt_anc HT.out HK.out d hd
    rw [← hx] at hr hha
    have hm := (HMR.out.kept hg (by simp)) i (by omega)
    have m0 := hm.1
    have i1 : i < L := by omega
    have i3 : (i : Int) < (L : Int) := by omega
    have HX := Lib.hid hx
    have HGW := Lib.hid hg
    have HNO := Lib.hid hno
    by_cases he : (i : Int) + 1 = on
    · have hbt := belowF_anc HT.out HK.out hd (hx.symm.trans he)
      have g1 : ((i : Int) + 1 == on) = true := beq_iff_eq.2 he
      have HBT := Lib.hid hbt
      clear hx hg hno hm hha he hbt
      go_wp2
      go_ret
      exact ⟨by rw [HBT.out]; simp, HGW.out⟩
    · have g1 : ((i : Int) + 1 == on) = false := beq_eq_false_iff_ne.2 he
      by_cases hlt : d < h
      · have hst := step_down HG.out HT.out HK.out hlt
        rw [← hx] at hst
        have hx1 : 0 < i := by
          rcases Nat.eq_zero_or_pos i with e | e
          · subst e
            have e1 : ((0 : Nat) : Int) + 1 = 1 := rfl
            rw [e1, HG.out.2.1] at hha
            have := Option.some.inj hha
            omega
          · exact e
        have g2 : ((i : Int) == 0) = false := beq_eq_false_iff_ne.2 (by omega)
        have m1 := hm.2.1
        rw [hst.1] at m1
        have hpU := anc_range HG.out HT.out HK.out (d := d + 1) (by omega)
        have hpar := HP.out _ (show 2 ≤ (i : Int) + 1 by omega) hr.2
        rw [hst.1] at hpar
        obtain ⟨_, hpar⟩ := hpar
        obtain ⟨y, hy⟩ : ∃ y, y = anc par r (d + 1) := ⟨_, rfl⟩
        rw [← hy] at m1 hpU hpar
        have HY := Lib.hid hy
        have HE := Lib.hid he
        clear hx hg hno hm hha he hst hy
        go_wp2_with fail
        refine (find_calls (HMR.out.kept HGW.out (by simp)) hL y).mono ?_
        rintro e w3 ⟨rfl, hg3⟩
        have HG3 := Lib.hid (HGW.out.andThen hg3 (fun j e => by cases e))
        clear hg3
        have hf : findI L y = y - 1 := by unfold findI; rw [if_pos hpU]
        have HF := Lib.hid hf
        clear hf
        go_wp2
        refine ⟨⟨d + 1, (y - 1).toNat, by rw [HF.out]; congr 1; omega, by rw [← HY.out]; omega, by omega, fun d' hd' => ?_, HG3.out⟩, by rw [HF.out]; simp [intOf]; omega⟩
        rcases Nat.lt_or_ge d' d with c | c
        · exact HNO.out d' c
        · rw [show d' = d by omega, ← HX.out]; exact HE.out
      · have hdh : d = h := by omega
        subst hdh
        have hx1 : i = 0 := by
          rw [Nat.sub_self] at hha
          have := HG.out.2.2.1 _ hha
          omega
        have hbf := belowF_not (on := on) HK.out (fun d' hd' => by
          rcases Nat.lt_or_ge d' d with c | c
          · exact hno d' c
          · rw [show d' = d by omega, ← hx]; exact he)
        have HBF := Lib.hid hbf
        clear hx hg hno hm hha he hbf
        subst hx1
        go_wp2
        go_ret
        exact ⟨by rw [HBF.out]; simp, HGW.out⟩
end Go.Proofs.Ytjoglfoioiedbaa
