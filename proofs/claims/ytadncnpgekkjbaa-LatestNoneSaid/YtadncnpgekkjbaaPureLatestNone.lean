/- The plain law of LatestNone: latest.Of gives as many entries as are asked for, from 0 to 4096, and there is no vote of others; for all arguments of their kinds. -/
import Derived.Test.YtadncnpgekkjbaaPLatestNonex2
namespace Go.Proofs.Ytadncnpgekkjbaa.Pure
open Go.RowKit Go.Proofs.Ytadncnpgekkjbaa.PLatestNone Go.Proofs.YtadncnpgekkjbaaW.PrintWords Go.Proofs.YtadncnpgekkjbaaW.PrintLast
namespace LatestNoneLemmas

theorem u64_bd {a : Int} (h : (Lit.int .u64 a).wf = true) : 0 ≤ a ∧ a ≤ 18446744073709551615 := by
  simpa [Lit.wf, IntKind.min, IntKind.max, IntKind.signed, IntKind.bits] using h
theorem i64_bd {a : Int} (h : (Lit.int .i64 a).wf = true) : -9223372036854775808 ≤ a ∧ a ≤ 9223372036854775807 := by
  simpa [Lit.wf, IntKind.min, IntKind.max, IntKind.signed, IntKind.bits] using h
theorem u8_bd {a : Int} (h : (Lit.int .u8 a).wf = true) : 0 ≤ a ∧ a ≤ 255 := by
  simpa [Lit.wf, IntKind.min, IntKind.max, IntKind.signed, IntKind.bits] using h
theorem i8_bd {a : Int} (h : (Lit.int .i8 a).wf = true) : -128 ≤ a ∧ a ≤ 127 := by
  simpa [Lit.wf, IntKind.min, IntKind.max, IntKind.signed, IntKind.bits] using h
theorem w64 (a : Int) (h0 : -9223372036854775808 ≤ a) (h1 : a ≤ 9223372036854775807) : wrap64 a = a := by
  unfold wrap64; omega

theorem rd_set (l : List S33) (i j : Int) (v : S33) (h0 : 0 ≤ i) (h1 : i < (l.length : Int)) (hj : 0 ≤ j) :
    rd_T33 (l.set i.toNat v) j = if j = i then v else rd_T33 l j := by
  unfold rd_T33
  rw [List.getD_eq_getElem?_getD, List.getD_eq_getElem?_getD, List.getElem?_set]
  by_cases h : j = i
  · subst h
    rw [if_pos rfl, if_pos (by omega), if_pos rfl]; rfl
  · have : ¬ i.toNat = j.toNat := by omega
    simp [h, this]

theorem rd_rep (n : Nat) (j : Int) : rd_T33 (List.replicate n z33) j = z33 := by
  unfold rd_T33
  rw [List.getD_eq_getElem?_getD, List.getElem?_replicate]
  split <;> rfl

theorem of_eq (n : Int) : latest_Of.f n = some (List.replicate (mx 0 (mn n 4096)).toNat z33) := by
  have h1 : 0 ≤ mx 0 (mn n 4096) := by unfold mx mn; omega
  have h2 : (mx 0 (mn n 4096)).toNat ≤ 8796093022208 := by unfold mx mn; omega
  unfold latest_Of.f
  rw [if_pos h1, if_pos h2]

theorem take_out (l : List S33) (i e r : Int) (h : i < 0 ∨ (l.length : Int) ≤ i) : latest_Votes_Take.f l i e r = some (false, l) := by
  unfold latest_Votes_Take.f
  by_cases h0 : i < 0
  · rw [if_pos h0]
  · rw [if_neg h0, if_pos (by omega)]
theorem take_no (l : List S33) (i e r : Int) (h0 : 0 ≤ i) (h1 : i < (l.length : Int)) (h : (rd_T33 l i).f3 = true ∨ (rd_T33 l i).f0 = true ∧ e ≤ (rd_T33 l i).f1) :
    latest_Votes_Take.f l i e r = some (false, l) := by
  unfold latest_Votes_Take.f
  rw [if_neg (by omega), if_neg (by omega), if_pos h0, if_pos h1]
  by_cases b : (rd_T33 l i).f3 = true
  · rw [if_pos b]
  · obtain ⟨g1, g2⟩ := h.resolve_left b
    rw [if_neg b, if_pos g1, if_pos g2]
theorem take_yes (l : List S33) (i e r : Int) (h0 : 0 ≤ i) (h1 : i < (l.length : Int)) (h3 : (rd_T33 l i).f3 = false) (h : (rd_T33 l i).f0 = true → (rd_T33 l i).f1 < e) :
    latest_Votes_Take.f l i e r = some (true, l.set i.toNat ⟨true, e, r, false⟩) := by
  unfold latest_Votes_Take.f
  rw [if_neg (by omega), if_neg (by omega), if_pos h0, if_pos h1, if_neg (by rw [h3]; decide)]
  by_cases b : (rd_T33 l i).f0 = true
  · have := h b
    rw [if_pos b, if_neg (by omega)]
  · rw [if_neg b]
theorem ban_out (l : List S33) (i : Int) (h : i < 0 ∨ (l.length : Int) ≤ i) : latest_Votes_Ban.f l i = some (false, l) := by
  unfold latest_Votes_Ban.f
  by_cases h0 : i < 0
  · rw [if_pos h0]
  · rw [if_neg h0, if_pos (by omega)]
theorem ban_no (l : List S33) (i : Int) (h0 : 0 ≤ i) (h1 : i < (l.length : Int)) (h : (rd_T33 l i).f3 = true) : latest_Votes_Ban.f l i = some (false, l) := by
  unfold latest_Votes_Ban.f
  rw [if_neg (by omega), if_neg (by omega), if_pos h0, if_pos h1, if_pos h]
theorem ban_yes (l : List S33) (i : Int) (h0 : 0 ≤ i) (h1 : i < (l.length : Int)) (h : (rd_T33 l i).f3 = false) :
    latest_Votes_Ban.f l i = some (true, l.set i.toNat ⟨(rd_T33 l i).f0, (rd_T33 l i).f1, (rd_T33 l i).f2, true⟩) := by
  unfold latest_Votes_Ban.f
  rw [if_neg (by omega), if_neg (by omega), if_pos h0, if_pos h1, if_neg (by rw [h]; decide)]
theorem get_out (l : List S33) (i : Int) (h : i < 0 ∨ (l.length : Int) ≤ i) : latest_Votes_Get.f l i = some (0, false) := by
  unfold latest_Votes_Get.f
  by_cases h0 : i < 0
  · rw [if_pos h0]
  · rw [if_neg h0, if_pos (by omega)]
theorem get_in (l : List S33) (i : Int) (h0 : 0 ≤ i) (h1 : i < (l.length : Int)) :
    latest_Votes_Get.f l i = some (if (rd_T33 l i).f0 = true ∧ (rd_T33 l i).f3 = false then ((rd_T33 l i).f2, true) else (0, false)) := by
  unfold latest_Votes_Get.f
  rw [if_neg (by omega), if_neg (by omega), if_pos h0, if_pos h1]
  by_cases a : (rd_T33 l i).f0 = true <;> by_cases b : (rd_T33 l i).f3 = true <;> simp [a, b]
theorem awake_eq : psephoslaw11_awake.f = some true := by
  rfl

theorem j0_in (k : Nat) (w : Int) (n : Nat) (h0 : 0 ≤ w) (h1 : w < (n : Int)) : psephoslaw11_LatestNone.j0 (k + 1) w (List.replicate n z33) true = some true := by
  simp only [psephoslaw11_LatestNone.j0]
  rw [if_pos trivial]
  have hl : ((List.replicate n z33).length : Int) = n := by simp
  rw [take_yes _ w 0 3 h0 (by omega) (by rw [rd_rep]; rfl) (by rw [rd_rep]; intro h; cases h)]
  simp only [Option.bind_some, if_true]
  generalize hA : (List.replicate n z33).set w.toNat ⟨true, 0, 3, false⟩ = A
  have hAl : (A.length : Int) = n := by rw [← hA]; simp
  have hAr : rd_T33 A w = ⟨true, 0, 3, false⟩ := by rw [← hA, rd_set _ _ _ _ h0 (by omega) h0, if_pos rfl]
  rw [ban_yes A w h0 (by omega) (by rw [hAr])]
  simp only [Option.bind_some, if_true]
  rw [hAr]
  generalize hB : A.set w.toNat _ = B
  have hBl : (B.length : Int) = n := by rw [← hB]; simp; omega
  have hBr : rd_T33 B w = ⟨true, 0, 3, true⟩ := by rw [← hB, rd_set _ _ _ _ h0 (by omega) h0, if_pos rfl]
  rw [ban_no B w h0 (by omega) (by rw [hBr])]
  simp only [Option.bind_some]
  rw [if_neg (by decide), take_no B w 9 3 h0 (by omega) (Or.inl (by rw [hBr]))]
  rfl
theorem j0_out (k : Nat) (w : Int) (n : Nat) (h : w < 0 ∨ (n : Int) ≤ w) : psephoslaw11_LatestNone.j0 (k + 1) w (List.replicate n z33) false = some true := by
  simp only [psephoslaw11_LatestNone.j0]
  have hl : ((List.replicate n z33).length : Int) = n := by simp
  rw [if_neg (by decide), get_out _ _ (by omega)]
  simp only [Option.bind_some]
  rw [if_neg (by decide), take_out _ _ _ _ (by omega)]
  simp only [Option.bind_some]
  rw [if_neg (by decide), ban_out _ _ (by omega)]
  rfl

end LatestNoneLemmas
open LatestNoneLemmas

theorem LatestNone : psephoslaw11_LatestNone.Pure := by
  intro n w hn hw
  refine ⟨1, ?_⟩
  unfold psephoslaw11_LatestNone.f
  rw [awake_eq]; simp only [Option.bind_some, if_true]
  rw [of_eq]; simp only [Option.bind_some]
  have h1 : 0 ≤ mx 0 (mn n 4096) := by unfold mx mn; omega
  generalize mx 0 (mn n 4096) = m at *
  rw [if_pos (by rw [List.length_replicate]; omega)]
  by_cases h : w ≥ 0
  · rw [if_pos h]
    by_cases h2 : w < m
    · rw [decide_eq_true h2]; exact j0_in 0 w m.toNat h (by omega)
    · rw [decide_eq_false h2]; exact j0_out 0 w m.toNat (by omega)
  · rw [if_neg h]; exact j0_out 0 w m.toNat (by omega)

end Go.Proofs.Ytadncnpgekkjbaa.Pure
