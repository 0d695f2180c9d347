/- The plain law of LatestApart: what is done to one validator changes nothing of another one; for all arguments of their kinds. -/
import Derived.Test.YtadncnpgekkjbaaPLatestApartx3
namespace Go.Proofs.Ytadncnpgekkjbaa.Pure
open Go.RowKit Go.Proofs.Ytadncnpgekkjbaa.PLatestApart Go.Proofs.YtadncnpgekkjbaaW.PrintWords Go.Proofs.YtadncnpgekkjbaaW.PrintLast
namespace LatestApartLemmas

theorem u64_bd {a : Int} (h : (Lit.int .u64 a).wf = true) : 0 ≤ a ∧ a ≤ 18446744073709551615 := by
  simpa [Lit.wf, IntKind.min, IntKind.max, IntKind.signed, IntKind.bits] using h
theorem i64_bd {a : Int} (h : (Lit.int .i64 a).wf = true) : -9223372036854775808 ≤ a ∧ a ≤ 9223372036854775807 := by
  simpa [Lit.wf, IntKind.min, IntKind.max, IntKind.signed, IntKind.bits] using h
theorem u8_bd {a : Int} (h : (Lit.int .u8 a).wf = true) : 0 ≤ a ∧ a ≤ 255 := by
  simpa [Lit.wf, IntKind.min, IntKind.max, IntKind.signed, IntKind.bits] using h
theorem i8_bd {a : Int} (h : (Lit.int .i8 a).wf = true) : -128 ≤ a ∧ a ≤ 127 := by
  simpa [Lit.wf, IntKind.min, IntKind.max, IntKind.signed, IntKind.bits] using h
theorem w64 (a : Int) (h0 : -9223372036854775808 ≤ a) (h1 : a ≤ 9223372036854775807) : wrap64 a = a := by
  unfold wrap64; omega

theorem rd_set (l : List S33) (i j : Int) (v : S33) (h0 : 0 ≤ i) (h1 : i < (l.length : Int)) (hj : 0 ≤ j) :
    rd_T33 (l.set i.toNat v) j = if j = i then v else rd_T33 l j := by
  unfold rd_T33
  rw [List.getD_eq_getElem?_getD, List.getD_eq_getElem?_getD, List.getElem?_set]
  by_cases h : j = i
  · subst h
    rw [if_pos rfl, if_pos (by omega), if_pos rfl]; rfl
  · have : ¬ i.toNat = j.toNat := by omega
    simp [h, this]

theorem rd_rep (n : Nat) (j : Int) : rd_T33 (List.replicate n z33) j = z33 := by
  unfold rd_T33
  rw [List.getD_eq_getElem?_getD, List.getElem?_replicate]
  split <;> rfl

theorem of_eq (n : Int) : latest_Of.f n = some (List.replicate (mx 0 (mn n 4096)).toNat z33) := by
  have h1 : 0 ≤ mx 0 (mn n 4096) := by unfold mx mn; omega
  have h2 : (mx 0 (mn n 4096)).toNat ≤ 8796093022208 := by unfold mx mn; omega
  unfold latest_Of.f
  rw [if_pos h1, if_pos h2]

theorem take_out (l : List S33) (i e r : Int) (h : i < 0 ∨ (l.length : Int) ≤ i) : latest_Votes_Take.f l i e r = some (false, l) := by
  unfold latest_Votes_Take.f
  by_cases h0 : i < 0
  · rw [if_pos h0]
  · rw [if_neg h0, if_pos (by omega)]
theorem take_no (l : List S33) (i e r : Int) (h0 : 0 ≤ i) (h1 : i < (l.length : Int)) (h : (rd_T33 l i).f3 = true ∨ (rd_T33 l i).f0 = true ∧ e ≤ (rd_T33 l i).f1) :
    latest_Votes_Take.f l i e r = some (false, l) := by
  unfold latest_Votes_Take.f
  rw [if_neg (by omega), if_neg (by omega), if_pos h0, if_pos h1]
  by_cases b : (rd_T33 l i).f3 = true
  · rw [if_pos b]
  · obtain ⟨g1, g2⟩ := h.resolve_left b
    rw [if_neg b, if_pos g1, if_pos g2]
theorem take_yes (l : List S33) (i e r : Int) (h0 : 0 ≤ i) (h1 : i < (l.length : Int)) (h3 : (rd_T33 l i).f3 = false) (h : (rd_T33 l i).f0 = true → (rd_T33 l i).f1 < e) :
    latest_Votes_Take.f l i e r = some (true, l.set i.toNat ⟨true, e, r, false⟩) := by
  unfold latest_Votes_Take.f
  rw [if_neg (by omega), if_neg (by omega), if_pos h0, if_pos h1, if_neg (by rw [h3]; decide)]
  by_cases b : (rd_T33 l i).f0 = true
  · have := h b
    rw [if_pos b, if_neg (by omega)]
  · rw [if_neg b]
theorem ban_out (l : List S33) (i : Int) (h : i < 0 ∨ (l.length : Int) ≤ i) : latest_Votes_Ban.f l i = some (false, l) := by
  unfold latest_Votes_Ban.f
  by_cases h0 : i < 0
  · rw [if_pos h0]
  · rw [if_neg h0, if_pos (by omega)]
theorem ban_no (l : List S33) (i : Int) (h0 : 0 ≤ i) (h1 : i < (l.length : Int)) (h : (rd_T33 l i).f3 = true) : latest_Votes_Ban.f l i = some (false, l) := by
  unfold latest_Votes_Ban.f
  rw [if_neg (by omega), if_neg (by omega), if_pos h0, if_pos h1, if_pos h]
theorem ban_yes (l : List S33) (i : Int) (h0 : 0 ≤ i) (h1 : i < (l.length : Int)) (h : (rd_T33 l i).f3 = false) :
    latest_Votes_Ban.f l i = some (true, l.set i.toNat ⟨(rd_T33 l i).f0, (rd_T33 l i).f1, (rd_T33 l i).f2, true⟩) := by
  unfold latest_Votes_Ban.f
  rw [if_neg (by omega), if_neg (by omega), if_pos h0, if_pos h1, if_neg (by rw [h]; decide)]
theorem get_out (l : List S33) (i : Int) (h : i < 0 ∨ (l.length : Int) ≤ i) : latest_Votes_Get.f l i = some (0, false) := by
  unfold latest_Votes_Get.f
  by_cases h0 : i < 0
  · rw [if_pos h0]
  · rw [if_neg h0, if_pos (by omega)]
theorem get_in (l : List S33) (i : Int) (h0 : 0 ≤ i) (h1 : i < (l.length : Int)) :
    latest_Votes_Get.f l i = some (if (rd_T33 l i).f0 = true ∧ (rd_T33 l i).f3 = false then ((rd_T33 l i).f2, true) else (0, false)) := by
  unfold latest_Votes_Get.f
  rw [if_neg (by omega), if_neg (by omega), if_pos h0, if_pos h1]
  by_cases a : (rd_T33 l i).f0 = true <;> by_cases b : (rd_T33 l i).f3 = true <;> simp [a, b]
theorem awake_eq : psephoslaw11_awake.f = some true := by
  rfl

theorem tail_ok (n i k e r : Int) (l : List S33) (hl : (l.length : Int) = n) (i0 : 0 ≤ i) (i1 : i < n) (k0 : 0 ≤ k) (hik : i ≠ k) (hz : ∀ j, rd_T33 l j = z33) :
    ((latest_Votes_Take.f l i e r).bind fun bt133 => ((latest_Votes_Ban.f bt133.2 i).bind fun bt135 => (if bt133.1 = true then (if bt135.1 = true then (if (((rd_T33 bt135.2 k).f0) == ((rd_T33 l k).f0) && (((rd_T33 bt135.2 k).f1) == ((rd_T33 l k).f1) && (((rd_T33 bt135.2 k).f2) == ((rd_T33 l k).f2) && (((rd_T33 bt135.2 k).f3) == ((rd_T33 l k).f3))))) = true then (if 0 ≤ i then (if i < (l.length : Int) then (some (((rd_T33 bt135.2 i).f0) && (((rd_T33 bt135.2 i).f1) == e && (((rd_T33 bt135.2 i).f2) == r && (((rd_T33 bt135.2 i).f3)))))) else (none)) else (none)) else (some false)) else (some false)) else (some false)))) = some true := by
  rw [take_yes l i e r i0 (by omega) (by rw [hz]; rfl) (by rw [hz]; intro h; cases h)]
  simp only [Option.bind_some]
  generalize hA : l.set i.toNat ⟨true, e, r, false⟩ = A
  have hAl : (A.length : Int) = n := by rw [← hA, List.length_set]; exact hl
  have hAr : rd_T33 A i = ⟨true, e, r, false⟩ := by rw [← hA, rd_set _ _ _ _ i0 (by omega) i0, if_pos rfl]
  have hAk : rd_T33 A k = z33 := by rw [← hA, rd_set _ _ _ _ i0 (by omega) k0, if_neg (fun h => hik h.symm), hz]
  rw [ban_yes A i i0 (by omega) (by rw [hAr])]
  simp only [Option.bind_some, if_true]
  rw [hAr]
  have hBr : rd_T33 (A.set i.toNat ⟨true, e, r, true⟩) i = ⟨true, e, r, true⟩ := by rw [rd_set _ _ _ _ i0 (by omega) i0, if_pos rfl]
  have hBk : rd_T33 (A.set i.toNat ⟨true, e, r, true⟩) k = z33 := by rw [rd_set _ _ _ _ i0 (by omega) k0, if_neg (fun h => hik h.symm), hAk]
  rw [hBr, hBk, hz, if_pos i0, if_pos (show i < (l.length : Int) by omega)]
  simp

end LatestApartLemmas
open LatestApartLemmas

theorem LatestApart : psephoslaw11_LatestApart.Pure := by
  intro n a b e r hn ha hb he _
  obtain ⟨hn0, hn⟩ := u8_bd hn
  obtain ⟨ha0, ha⟩ := u8_bd ha
  obtain ⟨hb0, hb⟩ := u8_bd hb
  obtain ⟨he0, he⟩ := i8_bd he
  unfold psephoslaw11_LatestApart.f
  rw [awake_eq]; simp only [Option.bind_some, if_true]
  rw [Int.tmod_eq_emod_of_nonneg hn0, w64 (n % 20) (by omega) (by omega), w64 (2 + n % 20) (by omega) (by omega), of_eq]
  simp only [Option.bind_some]
  have hm : mx 0 (mn (2 + n % 20) 4096) = 2 + n % 20 := by unfold mx mn; omega
  rw [hm]
  have m0 : 2 ≤ 2 + n % 20 := by omega
  have m1 : 2 + n % 20 ≤ 22 := by omega
  generalize 2 + n % 20 = m at *
  rw [w64 a (by omega) (by omega), w64 b (by omega) (by omega), w64 e (by omega) (by omega), Int.tmod_eq_emod_of_nonneg ha0, Int.tmod_eq_emod_of_nonneg hb0]
  have p1 := Int.emod_nonneg a (show m ≠ 0 by omega)
  have p2 := Int.emod_lt_of_pos a (show 0 < m by omega)
  have q1 := Int.emod_nonneg b (show m ≠ 0 by omega)
  have q2 := Int.emod_lt_of_pos b (show 0 < m by omega)
  generalize a % m = i at *
  generalize b % m = k at *
  have hl : ((List.replicate m.toNat z33).length : Int) = m := by rw [List.length_replicate]; omega
  have hz : ∀ j, rd_T33 (List.replicate m.toNat z33) j = z33 := fun j => rd_rep _ j
  generalize List.replicate m.toNat z33 = l at *
  rw [if_pos hl, if_neg (by omega), w64 (k + 1) (by omega) (by omega), Int.tmod_eq_emod_of_nonneg (show 0 ≤ k + 1 by omega)]
  by_cases hik : i = k
  · have r1 := Int.emod_nonneg (k + 1) (show m ≠ 0 by omega)
    have r2 := Int.emod_lt_of_pos (k + 1) (show 0 < m by omega)
    have r3 : (k + 1) % m ≠ k := by
      by_cases h : k + 1 = m
      · rw [h, Int.emod_self]; omega
      · rw [Int.emod_eq_of_lt (by omega) (by omega)]; omega
    generalize (k + 1) % m = q at *
    rw [if_pos hik, if_pos r1, if_pos (by omega)]
    exact tail_ok m i q e r l hl p1 p2 r1 (by omega) hz
  · rw [if_neg hik, if_pos q1, if_pos (by omega)]
    exact tail_ok m i k e r l hl p1 p2 q1 hik hz

end Go.Proofs.Ytadncnpgekkjbaa.Pure
