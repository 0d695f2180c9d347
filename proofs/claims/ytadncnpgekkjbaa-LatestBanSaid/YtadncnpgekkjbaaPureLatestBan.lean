/- The plain law of LatestBan: who is banned has no vote that counts, ahead and behind; all others have theirs; for all arguments of their kinds. -/
import Derived.Test.YtadncnpgekkjbaaPLatestBanx2
namespace Go.Proofs.Ytadncnpgekkjbaa.Pure
open Go.RowKit Go.Proofs.Ytadncnpgekkjbaa.PLatestBan Go.Proofs.YtadncnpgekkjbaaW.PrintWords Go.Proofs.YtadncnpgekkjbaaW.PrintLast
namespace LatestBanLemmas

theorem u64_bd {a : Int} (h : (Lit.int .u64 a).wf = true) : 0 ≤ a ∧ a ≤ 18446744073709551615 := by
  simpa [Lit.wf, IntKind.min, IntKind.max, IntKind.signed, IntKind.bits] using h
theorem i64_bd {a : Int} (h : (Lit.int .i64 a).wf = true) : -9223372036854775808 ≤ a ∧ a ≤ 9223372036854775807 := by
  simpa [Lit.wf, IntKind.min, IntKind.max, IntKind.signed, IntKind.bits] using h
theorem u8_bd {a : Int} (h : (Lit.int .u8 a).wf = true) : 0 ≤ a ∧ a ≤ 255 := by
  simpa [Lit.wf, IntKind.min, IntKind.max, IntKind.signed, IntKind.bits] using h
theorem i8_bd {a : Int} (h : (Lit.int .i8 a).wf = true) : -128 ≤ a ∧ a ≤ 127 := by
  simpa [Lit.wf, IntKind.min, IntKind.max, IntKind.signed, IntKind.bits] using h
theorem w64 (a : Int) (h0 : -9223372036854775808 ≤ a) (h1 : a ≤ 9223372036854775807) : wrap64 a = a := by
  unfold wrap64; omega

theorem rd_set (l : List S33) (i j : Int) (v : S33) (h0 : 0 ≤ i) (h1 : i < (l.length : Int)) (hj : 0 ≤ j) :
    rd_T33 (l.set i.toNat v) j = if j = i then v else rd_T33 l j := by
  unfold rd_T33
  rw [List.getD_eq_getElem?_getD, List.getD_eq_getElem?_getD, List.getElem?_set]
  by_cases h : j = i
  · subst h
    rw [if_pos rfl, if_pos (by omega), if_pos rfl]; rfl
  · have : ¬ i.toNat = j.toNat := by omega
    simp [h, this]

theorem rd_rep (n : Nat) (j : Int) : rd_T33 (List.replicate n z33) j = z33 := by
  unfold rd_T33
  rw [List.getD_eq_getElem?_getD, List.getElem?_replicate]
  split <;> rfl

theorem of_eq (n : Int) : latest_Of.f n = some (List.replicate (mx 0 (mn n 4096)).toNat z33) := by
  have h1 : 0 ≤ mx 0 (mn n 4096) := by unfold mx mn; omega
  have h2 : (mx 0 (mn n 4096)).toNat ≤ 8796093022208 := by unfold mx mn; omega
  unfold latest_Of.f
  rw [if_pos h1, if_pos h2]

theorem take_out (l : List S33) (i e r : Int) (h : i < 0 ∨ (l.length : Int) ≤ i) : latest_Votes_Take.f l i e r = some (false, l) := by
  unfold latest_Votes_Take.f
  by_cases h0 : i < 0
  · rw [if_pos h0]
  · rw [if_neg h0, if_pos (by omega)]
theorem take_no (l : List S33) (i e r : Int) (h0 : 0 ≤ i) (h1 : i < (l.length : Int)) (h : (rd_T33 l i).f3 = true ∨ (rd_T33 l i).f0 = true ∧ e ≤ (rd_T33 l i).f1) :
    latest_Votes_Take.f l i e r = some (false, l) := by
  unfold latest_Votes_Take.f
  rw [if_neg (by omega), if_neg (by omega), if_pos h0, if_pos h1]
  by_cases b : (rd_T33 l i).f3 = true
  · rw [if_pos b]
  · obtain ⟨g1, g2⟩ := h.resolve_left b
    rw [if_neg b, if_pos g1, if_pos g2]
theorem take_yes (l : List S33) (i e r : Int) (h0 : 0 ≤ i) (h1 : i < (l.length : Int)) (h3 : (rd_T33 l i).f3 = false) (h : (rd_T33 l i).f0 = true → (rd_T33 l i).f1 < e) :
    latest_Votes_Take.f l i e r = some (true, l.set i.toNat ⟨true, e, r, false⟩) := by
  unfold latest_Votes_Take.f
  rw [if_neg (by omega), if_neg (by omega), if_pos h0, if_pos h1, if_neg (by rw [h3]; decide)]
  by_cases b : (rd_T33 l i).f0 = true
  · have := h b
    rw [if_pos b, if_neg (by omega)]
  · rw [if_neg b]
theorem ban_out (l : List S33) (i : Int) (h : i < 0 ∨ (l.length : Int) ≤ i) : latest_Votes_Ban.f l i = some (false, l) := by
  unfold latest_Votes_Ban.f
  by_cases h0 : i < 0
  · rw [if_pos h0]
  · rw [if_neg h0, if_pos (by omega)]
theorem ban_no (l : List S33) (i : Int) (h0 : 0 ≤ i) (h1 : i < (l.length : Int)) (h : (rd_T33 l i).f3 = true) : latest_Votes_Ban.f l i = some (false, l) := by
  unfold latest_Votes_Ban.f
  rw [if_neg (by omega), if_neg (by omega), if_pos h0, if_pos h1, if_pos h]
theorem ban_yes (l : List S33) (i : Int) (h0 : 0 ≤ i) (h1 : i < (l.length : Int)) (h : (rd_T33 l i).f3 = false) :
    latest_Votes_Ban.f l i = some (true, l.set i.toNat ⟨(rd_T33 l i).f0, (rd_T33 l i).f1, (rd_T33 l i).f2, true⟩) := by
  unfold latest_Votes_Ban.f
  rw [if_neg (by omega), if_neg (by omega), if_pos h0, if_pos h1, if_neg (by rw [h]; decide)]
theorem get_out (l : List S33) (i : Int) (h : i < 0 ∨ (l.length : Int) ≤ i) : latest_Votes_Get.f l i = some (0, false) := by
  unfold latest_Votes_Get.f
  by_cases h0 : i < 0
  · rw [if_pos h0]
  · rw [if_neg h0, if_pos (by omega)]
theorem get_in (l : List S33) (i : Int) (h0 : 0 ≤ i) (h1 : i < (l.length : Int)) :
    latest_Votes_Get.f l i = some (if (rd_T33 l i).f0 = true ∧ (rd_T33 l i).f3 = false then ((rd_T33 l i).f2, true) else (0, false)) := by
  unfold latest_Votes_Get.f
  rw [if_neg (by omega), if_neg (by omega), if_pos h0, if_pos h1]
  by_cases a : (rd_T33 l i).f0 = true <;> by_cases b : (rd_T33 l i).f3 = true <;> simp [a, b]
theorem awake_eq : psephoslaw11_awake.f = some true := by
  rfl

def sum64 (r k : Int) : Int := IntKind.u64.wrap (r + IntKind.u64.wrap k)
def At (l : List S33) (n : Int) (j : Int) (e r : Int) : Prop := (l.length : Int) = n ∧ ∀ k, 0 ≤ k → k < n → rd_T33 l k = if k < j then ⟨true, e, sum64 r k, false⟩ else z33
def Late (l : List S33) (n b e r : Int) : Prop := (l.length : Int) = n ∧ ∀ k, 0 ≤ k → k < n → rd_T33 l k = ⟨true, e, sum64 r k, decide (k = b)⟩
theorem l1_all (r n b e : Int) (l : List S33) (hn : n ≤ 100) (hL : Late l n b e r) (d : Nat) : ∀ (k : Nat) (i : Int), 0 ≤ i → n - i = d → d < k →
    psephoslaw11_LatestBan.l1 k r n l b true false i = some true := by
  induction d with
  | zero =>
    intro k i h0 hd hk
    obtain ⟨k, rfl⟩ : ∃ m, k = m + 1 := ⟨k - 1, by omega⟩
    simp only [psephoslaw11_LatestBan.l1]
    rw [if_neg (by omega)]; simp
  | succ d ih =>
    intro k i h0 hd hk
    obtain ⟨k, rfl⟩ : ∃ m, k = m + 1 := ⟨k - 1, by omega⟩
    simp only [psephoslaw11_LatestBan.l1]
    rw [if_pos (by omega), get_in l i h0 (by have := hL.1; omega), hL.2 i h0 (by omega), w64 (i + 1) (by omega) (by omega)]
    simp only [Option.bind_some]
    have hr := ih k (i + 1) (by omega) (by omega) (by omega)
    by_cases h : i = b
    · subst h; simp [hr]
    · simp only [h, decide_false, and_self, if_true]
      rw [if_neg (by simp [h]), if_pos (by rfl)]
      exact hr
theorem l0_all (who e r n : Int) (hw0 : 0 ≤ who) (hw : who ≤ 255) (he0 : 0 ≤ e) (he : e ≤ 255) (hn0 : 0 < n) (hn : n ≤ 100) (d : Nat) : ∀ (k : Nat) (l : List S33) (i : Int), 0 ≤ i → n - i = d → d + 101 < k → At l n i e r →
    psephoslaw11_LatestBan.l0 k who e r n l i = some true := by
  induction d with
  | zero =>
    intro k l i h0 hd hk hA
    obtain ⟨k, rfl⟩ : ∃ m, k = m + 1 := ⟨k - 1, by omega⟩
    simp only [psephoslaw11_LatestBan.l0]
    rw [if_neg (by omega), if_neg (by omega), w64 who (by omega) (by omega), w64 e (by omega) (by omega), w64 (e + 1) (by omega) (by omega), Int.tmod_eq_emod_of_nonneg hw0]
    have p1 := Int.emod_nonneg who (show n ≠ 0 by omega)
    have p2 := Int.emod_lt_of_pos who hn0
    generalize who % n = b at *
    have hb := hA.2 b p1 p2
    rw [if_pos (by omega)] at hb
    have hl := hA.1
    rw [ban_yes l b p1 (by omega) (by rw [hb])]
    simp only [Option.bind_some]
    rw [hb]
    generalize hB : l.set b.toNat _ = B
    have hBl : (B.length : Int) = n := by rw [← hB, List.length_set]; exact hl
    have hBr : ∀ j, 0 ≤ j → rd_T33 B j = if j = b then ⟨true, e, sum64 r b, true⟩ else rd_T33 l j := fun j hj => by rw [← hB, rd_set l b j _ p1 (by omega) hj]
    rw [take_no B b (e + 1) 5 p1 (by omega) (Or.inl (by rw [hBr b p1, if_pos rfl]))]
    simp only [Option.bind_some]
    refine l1_all r n b e B hn ⟨hBl, fun j j0 j1 => ?_⟩ n.toNat k 0 (by omega) (by omega) (by omega)
    rw [hBr j j0]
    by_cases h : j = b
    · subst h; simp
    · rw [if_neg h, hA.2 j j0 j1, if_pos (by omega)]; simp [h]
  | succ d ih =>
    intro k l i h0 hd hk hA
    obtain ⟨k, rfl⟩ : ∃ m, k = m + 1 := ⟨k - 1, by omega⟩
    simp only [psephoslaw11_LatestBan.l0]
    have hi := hA.2 i h0 (by omega)
    rw [if_neg (by omega)] at hi
    have hl := hA.1
    rw [if_pos (by omega), w64 e (by omega) (by omega), w64 (i + 1) (by omega) (by omega)]
    rw [take_yes l i e _ h0 (by omega) (by rw [hi]; rfl) (by rw [hi]; intro h; cases h)]
    simp only [Option.bind_some, if_true]
    refine ih k _ (i + 1) (by omega) (by omega) (by omega) ⟨by rw [List.length_set]; exact hl, fun j j0 j1 => ?_⟩
    rw [rd_set l i j _ h0 (by omega) j0]
    by_cases h : j = i
    · subst h; rw [if_pos rfl, if_pos (by omega)]; rfl
    · rw [if_neg h, hA.2 j j0 j1]
      by_cases h2 : j < i
      · rw [if_pos h2, if_pos (by omega)]
      · rw [if_neg h2, if_neg (by omega)]

end LatestBanLemmas
open LatestBanLemmas

theorem LatestBan : psephoslaw11_LatestBan.Pure := by
  intro n who e r hn hwho he _
  obtain ⟨hn0, hn⟩ := u8_bd hn
  obtain ⟨hw0, hw⟩ := u8_bd hwho
  obtain ⟨he0, he⟩ := u8_bd he
  refine ⟨300, ?_⟩
  unfold psephoslaw11_LatestBan.f
  rw [awake_eq]; simp only [Option.bind_some, if_true]
  rw [Int.tmod_eq_emod_of_nonneg hn0, w64 (n % 20) (by omega) (by omega), w64 (1 + n % 20) (by omega) (by omega), of_eq]
  simp only [Option.bind_some]
  have hm : mx 0 (mn (1 + n % 20) 4096) = 1 + n % 20 := by unfold mx mn; omega
  rw [hm]
  refine l0_all who e r (1 + n % 20) hw0 hw he0 he (by omega) (by omega) (1 + n % 20).toNat 300 _ 0 (by omega) (by omega) (by omega) ⟨by rw [List.length_replicate]; omega, fun k k0 _ => ?_⟩
  rw [rd_rep, if_neg (by omega)]

end Go.Proofs.Ytadncnpgekkjbaa.Pure
