/- The plain law of LatestOrder: in whatever order votes of unlike epochs come, the latest one is left; for all arguments of their kinds. -/
import Derived.Test.YtadncnpgekkjbaaPLatestOrderx2
import Derived.Test.YtadncnpgekkjbaaWSized
/-- The printed row names the word 'sized_ints' under this name. -/
theorem Go.Proofs.Ytadncnpgekkjbaa.PrintWords.sized_ints {H : Type} {enc : Go.TypeId × Go.Value → H} {P : Go.Program} {W : Go.World} {base : Nat} {spare : Nat → Bool} {held : Bool} {t e : Go.TypeId} {k : Go.IntKind} {a : Option Go.Addr} {len cap : Nat} {d : Go.DataW H} {ps : List Go.MemPlace} {ts : List Go.TypeId} {ds : List (Go.DataW H)} {j : Nat}
    (hsz : (Go.DataW.weightsEach P ts ds).all (· ≤ Go.reachBytes) = true) (ht : ts[j]? = some t) (hd : ds[j]? = some d) (hu : P.underlying t = some (.slice e)) (he : P.underlying e = some (.int k)) (hc : P.cellsOf e = 1) {B : Nat} (hB : P.bytesOf e = B)
    (h : Go.DataW.Trod enc P W base spare held t (.slice a len cap) d ps) : len * B ≤ 140737488351232 :=
  Go.Proofs.YtadncnpgekkjbaaW.PrintWords.sized_ints hsz ht hd hu he hc hB h
namespace Go.Proofs.Ytadncnpgekkjbaa.Pure
open Go.RowKit Go.Proofs.Ytadncnpgekkjbaa.PLatestOrder Go.Proofs.YtadncnpgekkjbaaW.PrintWords Go.Proofs.YtadncnpgekkjbaaW.PrintLast
namespace LatestOrderLemmas

theorem u64_bd {a : Int} (h : (Lit.int .u64 a).wf = true) : 0 ≤ a ∧ a ≤ 18446744073709551615 := by
  simpa [Lit.wf, IntKind.min, IntKind.max, IntKind.signed, IntKind.bits] using h
theorem i64_bd {a : Int} (h : (Lit.int .i64 a).wf = true) : -9223372036854775808 ≤ a ∧ a ≤ 9223372036854775807 := by
  simpa [Lit.wf, IntKind.min, IntKind.max, IntKind.signed, IntKind.bits] using h
theorem u8_bd {a : Int} (h : (Lit.int .u8 a).wf = true) : 0 ≤ a ∧ a ≤ 255 := by
  simpa [Lit.wf, IntKind.min, IntKind.max, IntKind.signed, IntKind.bits] using h
theorem i8_bd {a : Int} (h : (Lit.int .i8 a).wf = true) : -128 ≤ a ∧ a ≤ 127 := by
  simpa [Lit.wf, IntKind.min, IntKind.max, IntKind.signed, IntKind.bits] using h
theorem w64 (a : Int) (h0 : -9223372036854775808 ≤ a) (h1 : a ≤ 9223372036854775807) : wrap64 a = a := by
  unfold wrap64; omega

theorem rd_set (l : List S33) (i j : Int) (v : S33) (h0 : 0 ≤ i) (h1 : i < (l.length : Int)) (hj : 0 ≤ j) :
    rd_T33 (l.set i.toNat v) j = if j = i then v else rd_T33 l j := by
  unfold rd_T33
  rw [List.getD_eq_getElem?_getD, List.getD_eq_getElem?_getD, List.getElem?_set]
  by_cases h : j = i
  · subst h
    rw [if_pos rfl, if_pos (by omega), if_pos rfl]; rfl
  · have : ¬ i.toNat = j.toNat := by omega
    simp [h, this]

theorem rd_rep (n : Nat) (j : Int) : rd_T33 (List.replicate n z33) j = z33 := by
  unfold rd_T33
  rw [List.getD_eq_getElem?_getD, List.getElem?_replicate]
  split <;> rfl

theorem of_eq (n : Int) : latest_Of.f n = some (List.replicate (mx 0 (mn n 4096)).toNat z33) := by
  have h1 : 0 ≤ mx 0 (mn n 4096) := by unfold mx mn; omega
  have h2 : (mx 0 (mn n 4096)).toNat ≤ 8796093022208 := by unfold mx mn; omega
  unfold latest_Of.f
  rw [if_pos h1, if_pos h2]

theorem take_out (l : List S33) (i e r : Int) (h : i < 0 ∨ (l.length : Int) ≤ i) : latest_Votes_Take.f l i e r = some (false, l) := by
  unfold latest_Votes_Take.f
  by_cases h0 : i < 0
  · rw [if_pos h0]
  · rw [if_neg h0, if_pos (by omega)]
theorem take_no (l : List S33) (i e r : Int) (h0 : 0 ≤ i) (h1 : i < (l.length : Int)) (h : (rd_T33 l i).f3 = true ∨ (rd_T33 l i).f0 = true ∧ e ≤ (rd_T33 l i).f1) :
    latest_Votes_Take.f l i e r = some (false, l) := by
  unfold latest_Votes_Take.f
  rw [if_neg (by omega), if_neg (by omega), if_pos h0, if_pos h1]
  by_cases b : (rd_T33 l i).f3 = true
  · rw [if_pos b]
  · obtain ⟨g1, g2⟩ := h.resolve_left b
    rw [if_neg b, if_pos g1, if_pos g2]
theorem take_yes (l : List S33) (i e r : Int) (h0 : 0 ≤ i) (h1 : i < (l.length : Int)) (h3 : (rd_T33 l i).f3 = false) (h : (rd_T33 l i).f0 = true → (rd_T33 l i).f1 < e) :
    latest_Votes_Take.f l i e r = some (true, l.set i.toNat ⟨true, e, r, false⟩) := by
  unfold latest_Votes_Take.f
  rw [if_neg (by omega), if_neg (by omega), if_pos h0, if_pos h1, if_neg (by rw [h3]; decide)]
  by_cases b : (rd_T33 l i).f0 = true
  · have := h b
    rw [if_pos b, if_neg (by omega)]
  · rw [if_neg b]
theorem ban_out (l : List S33) (i : Int) (h : i < 0 ∨ (l.length : Int) ≤ i) : latest_Votes_Ban.f l i = some (false, l) := by
  unfold latest_Votes_Ban.f
  by_cases h0 : i < 0
  · rw [if_pos h0]
  · rw [if_neg h0, if_pos (by omega)]
theorem ban_no (l : List S33) (i : Int) (h0 : 0 ≤ i) (h1 : i < (l.length : Int)) (h : (rd_T33 l i).f3 = true) : latest_Votes_Ban.f l i = some (false, l) := by
  unfold latest_Votes_Ban.f
  rw [if_neg (by omega), if_neg (by omega), if_pos h0, if_pos h1, if_pos h]
theorem ban_yes (l : List S33) (i : Int) (h0 : 0 ≤ i) (h1 : i < (l.length : Int)) (h : (rd_T33 l i).f3 = false) :
    latest_Votes_Ban.f l i = some (true, l.set i.toNat ⟨(rd_T33 l i).f0, (rd_T33 l i).f1, (rd_T33 l i).f2, true⟩) := by
  unfold latest_Votes_Ban.f
  rw [if_neg (by omega), if_neg (by omega), if_pos h0, if_pos h1, if_neg (by rw [h]; decide)]
theorem get_out (l : List S33) (i : Int) (h : i < 0 ∨ (l.length : Int) ≤ i) : latest_Votes_Get.f l i = some (0, false) := by
  unfold latest_Votes_Get.f
  by_cases h0 : i < 0
  · rw [if_pos h0]
  · rw [if_neg h0, if_pos (by omega)]
theorem get_in (l : List S33) (i : Int) (h0 : 0 ≤ i) (h1 : i < (l.length : Int)) :
    latest_Votes_Get.f l i = some (if (rd_T33 l i).f0 = true ∧ (rd_T33 l i).f3 = false then ((rd_T33 l i).f2, true) else (0, false)) := by
  unfold latest_Votes_Get.f
  rw [if_neg (by omega), if_neg (by omega), if_pos h0, if_pos h1]
  by_cases a : (rd_T33 l i).f0 = true <;> by_cases b : (rd_T33 l i).f3 = true <;> simp [a, b]
theorem awake_eq : psephoslaw11_awake.f = some true := by
  rfl

def Ok (l : List S33) (m r : Int) : Prop := (m = -1 ∧ r = 0 ∧ l = [z33]) ∨ (0 ≤ m ∧ l = [⟨true, m, r, false⟩])
theorem rd_one (x : S33) : rd_T33 [x] 0 = x := rfl
theorem ok_get {l : List S33} {m r : Int} (h : Ok l m r) : latest_Votes_Get.f l 0 = some (r, decide (m ≥ 0)) := by
  rcases h with ⟨rfl, rfl, rfl⟩ | ⟨h, rfl⟩
  · rfl
  · rw [decide_eq_true h]; rfl
theorem ok_more {l : List S33} {m r : Int} (h : Ok l m r) (e q : Int) (he : 0 ≤ e) (hm : e > m) : ∃ b l', latest_Votes_Take.f l 0 e q = some (b, l') ∧ Ok l' e q := by
  rcases h with ⟨rfl, rfl, rfl⟩ | ⟨h, rfl⟩
  · exact ⟨_, _, take_yes _ 0 e q (by omega) (by simp) rfl (fun h => by cases h), Or.inr ⟨he, rfl⟩⟩
  · exact ⟨_, _, take_yes _ 0 e q (by omega) (by simp) rfl (fun _ => by rw [rd_one]; exact hm), Or.inr ⟨he, rfl⟩⟩
theorem ok_less {l : List S33} {m r : Int} (h : Ok l m r) (e q : Int) (he : 0 ≤ e) (hm : ¬ e > m) : latest_Votes_Take.f l 0 e q = some (false, l) := by
  rcases h with ⟨rfl, rfl, rfl⟩ | ⟨h, rfl⟩
  · omega
  · exact take_no _ 0 e q (by omega) (by simp) (Or.inr ⟨rfl, by rw [rd_one]; show e ≤ m; omega⟩)
theorem ok_end {l : List S33} {m r : Int} (h : Ok l m r) :
    ((latest_Votes_Get.f l 0).bind fun bt => (if (bt.2 == (decide (m ≥ 0))) = true then (some (bt.1 == r)) else (some false))) = some true := by
  rw [ok_get h]; simp
theorem rd_u8 (es : List Int) (h : ∀ x ∈ es, (Lit.int .u8 x).wf = true) (i : Int) (h0 : 0 ≤ i) (h1 : i < (es.length : Int)) : 0 ≤ rd es i ∧ rd es i ≤ 255 := by
  apply u8_bd
  apply h
  unfold rd
  rw [List.getD_eq_getElem?_getD, List.getElem?_eq_getElem (by omega)]
  simp
theorem loop (es rs : List Int) (he : ∀ x ∈ es, (Lit.int .u8 x).wf = true) (hm : es.length ≤ 140737488351232) (d : Nat) :
    ∀ (k : Nat) (l : List S33) (m r i : Int), 0 ≤ i → (es.length : Int) - i = d → d < k → Ok l m r →
      psephoslaw11_LatestOrder.l0 k rs l m r es (es.length : Int) i = some true := by
  induction d with
  | zero =>
    intro k l m r i h0 hd hk hok
    obtain ⟨k, rfl⟩ : ∃ m, k = m + 1 := ⟨k - 1, by omega⟩
    simp only [psephoslaw11_LatestOrder.l0]
    rw [if_neg (by omega)]
    exact ok_end hok
  | succ d ih =>
    intro k l m r i h0 hd hk hok
    obtain ⟨k, rfl⟩ : ∃ m, k = m + 1 := ⟨k - 1, by omega⟩
    have hi : i < (es.length : Int) := by omega
    have hb := rd_u8 es he i h0 hi
    simp only [psephoslaw11_LatestOrder.l0]
    rw [if_pos hi, if_pos h0, if_pos hi, w64 (rd es i) (by omega) (by omega), w64 (i + 1) (by omega) (by omega)]
    by_cases hr : i ≥ (rs.length : Int)
    · rw [if_pos hr]; exact ok_end hok
    · rw [if_neg hr]
      by_cases hm : rd es i > m
      · obtain ⟨b, l', e1, e2⟩ := ok_more hok (rd es i) (rd rs i) hb.1 hm
        rw [if_pos hm, if_pos (by omega), e1]
        exact ih k l' _ _ (i + 1) (by omega) (by omega) (by omega) e2
      · rw [if_neg hm, if_pos (by omega), ok_less hok _ _ hb.1 hm]
        exact ih k l _ _ (i + 1) (by omega) (by omega) (by omega) hok

end LatestOrderLemmas
open LatestOrderLemmas

theorem LatestOrder : psephoslaw11_LatestOrder.Pure := by
  intro es rs _ hl he _ _ _
  refine ⟨es.length + 1, ?_⟩
  unfold psephoslaw11_LatestOrder.f
  rw [awake_eq]; simp only [Option.bind_some, if_true]
  rw [of_eq]; simp only [Option.bind_some]
  exact loop es rs he (by omega) es.length _ _ _ _ 0 (by omega) (by omega) (by omega) (Or.inl ⟨rfl, rfl, rfl⟩)

end Go.Proofs.Ytadncnpgekkjbaa.Pure
