/- The plain law of LatestSame: a vote that is not later than the last one changes nothing; for all arguments of their kinds. -/
import Derived.Test.YtadncnpgekkjbaaCallsSame
import Derived.Test.YtadncnpgekkjbaaWSized
/-- The printed row names the word 'sized_ints' under this name. -/
theorem Go.Proofs.Ytadncnpgekkjbaa.PrintWords.sized_ints {H : Type} {enc : Go.TypeId × Go.Value → H} {P : Go.Program} {W : Go.World} {base : Nat} {spare : Nat → Bool} {held : Bool} {t e : Go.TypeId} {k : Go.IntKind} {a : Option Go.Addr} {len cap : Nat} {d : Go.DataW H} {ps : List Go.MemPlace} {ts : List Go.TypeId} {ds : List (Go.DataW H)} {j : Nat}
    (hsz : (Go.DataW.weightsEach P ts ds).all (· ≤ Go.reachBytes) = true) (ht : ts[j]? = some t) (hd : ds[j]? = some d) (hu : P.underlying t = some (.slice e)) (he : P.underlying e = some (.int k)) (hc : P.cellsOf e = 1) {B : Nat} (hB : P.bytesOf e = B)
    (h : Go.DataW.Trod enc P W base spare held t (.slice a len cap) d ps) : len * B ≤ 140737488351232 :=
  Go.Proofs.YtadncnpgekkjbaaW.PrintWords.sized_ints hsz ht hd hu he hc hB h
namespace Go.Proofs.Ytadncnpgekkjbaa.Pure
open Go.RowKit Go.Proofs.Ytadncnpgekkjbaa.PLatestSame Go.Proofs.YtadncnpgekkjbaaW.PrintWords Go.Proofs.YtadncnpgekkjbaaW.PrintLast
namespace LatestSameLemmas

theorem u64_bd {a : Int} (h : (Lit.int .u64 a).wf = true) : 0 ≤ a ∧ a ≤ 18446744073709551615 := by
  simpa [Lit.wf, IntKind.min, IntKind.max, IntKind.signed, IntKind.bits] using h
theorem i64_bd {a : Int} (h : (Lit.int .i64 a).wf = true) : -9223372036854775808 ≤ a ∧ a ≤ 9223372036854775807 := by
  simpa [Lit.wf, IntKind.min, IntKind.max, IntKind.signed, IntKind.bits] using h
theorem u8_bd {a : Int} (h : (Lit.int .u8 a).wf = true) : 0 ≤ a ∧ a ≤ 255 := by
  simpa [Lit.wf, IntKind.min, IntKind.max, IntKind.signed, IntKind.bits] using h
theorem i8_bd {a : Int} (h : (Lit.int .i8 a).wf = true) : -128 ≤ a ∧ a ≤ 127 := by
  simpa [Lit.wf, IntKind.min, IntKind.max, IntKind.signed, IntKind.bits] using h
theorem w64 (a : Int) (h0 : -9223372036854775808 ≤ a) (h1 : a ≤ 9223372036854775807) : wrap64 a = a := by
  unfold wrap64; omega

theorem rd_set (l : List S33) (i j : Int) (v : S33) (h0 : 0 ≤ i) (h1 : i < (l.length : Int)) (hj : 0 ≤ j) :
    rd_T33 (l.set i.toNat v) j = if j = i then v else rd_T33 l j := by
  unfold rd_T33
  rw [List.getD_eq_getElem?_getD, List.getD_eq_getElem?_getD, List.getElem?_set]
  by_cases h : j = i
  · subst h
    rw [if_pos rfl, if_pos (by omega), if_pos rfl]; rfl
  · have : ¬ i.toNat = j.toNat := by omega
    simp [h, this]

theorem rd_rep (n : Nat) (j : Int) : rd_T33 (List.replicate n z33) j = z33 := by
  unfold rd_T33
  rw [List.getD_eq_getElem?_getD, List.getElem?_replicate]
  split <;> rfl

theorem of_eq (n : Int) : latest_Of.f n = some (List.replicate (mx 0 (mn n 4096)).toNat z33) := by
  have h1 : 0 ≤ mx 0 (mn n 4096) := by unfold mx mn; omega
  have h2 : (mx 0 (mn n 4096)).toNat ≤ 8796093022208 := by unfold mx mn; omega
  unfold latest_Of.f
  rw [if_pos h1, if_pos h2]

theorem take_out (l : List S33) (i e r : Int) (h : i < 0 ∨ (l.length : Int) ≤ i) : latest_Votes_Take.f l i e r = some (false, l) := by
  unfold latest_Votes_Take.f
  by_cases h0 : i < 0
  · rw [if_pos h0]
  · rw [if_neg h0, if_pos (by omega)]
theorem take_no (l : List S33) (i e r : Int) (h0 : 0 ≤ i) (h1 : i < (l.length : Int)) (h : (rd_T33 l i).f3 = true ∨ (rd_T33 l i).f0 = true ∧ e ≤ (rd_T33 l i).f1) :
    latest_Votes_Take.f l i e r = some (false, l) := by
  unfold latest_Votes_Take.f
  rw [if_neg (by omega), if_neg (by omega), if_pos h0, if_pos h1]
  by_cases b : (rd_T33 l i).f3 = true
  · rw [if_pos b]
  · obtain ⟨g1, g2⟩ := h.resolve_left b
    rw [if_neg b, if_pos g1, if_pos g2]
theorem take_yes (l : List S33) (i e r : Int) (h0 : 0 ≤ i) (h1 : i < (l.length : Int)) (h3 : (rd_T33 l i).f3 = false) (h : (rd_T33 l i).f0 = true → (rd_T33 l i).f1 < e) :
    latest_Votes_Take.f l i e r = some (true, l.set i.toNat ⟨true, e, r, false⟩) := by
  unfold latest_Votes_Take.f
  rw [if_neg (by omega), if_neg (by omega), if_pos h0, if_pos h1, if_neg (by rw [h3]; decide)]
  by_cases b : (rd_T33 l i).f0 = true
  · have := h b
    rw [if_pos b, if_neg (by omega)]
  · rw [if_neg b]
theorem ban_out (l : List S33) (i : Int) (h : i < 0 ∨ (l.length : Int) ≤ i) : latest_Votes_Ban.f l i = some (false, l) := by
  unfold latest_Votes_Ban.f
  by_cases h0 : i < 0
  · rw [if_pos h0]
  · rw [if_neg h0, if_pos (by omega)]
theorem ban_no (l : List S33) (i : Int) (h0 : 0 ≤ i) (h1 : i < (l.length : Int)) (h : (rd_T33 l i).f3 = true) : latest_Votes_Ban.f l i = some (false, l) := by
  unfold latest_Votes_Ban.f
  rw [if_neg (by omega), if_neg (by omega), if_pos h0, if_pos h1, if_pos h]
theorem ban_yes (l : List S33) (i : Int) (h0 : 0 ≤ i) (h1 : i < (l.length : Int)) (h : (rd_T33 l i).f3 = false) :
    latest_Votes_Ban.f l i = some (true, l.set i.toNat ⟨(rd_T33 l i).f0, (rd_T33 l i).f1, (rd_T33 l i).f2, true⟩) := by
  unfold latest_Votes_Ban.f
  rw [if_neg (by omega), if_neg (by omega), if_pos h0, if_pos h1, if_neg (by rw [h]; decide)]
theorem get_out (l : List S33) (i : Int) (h : i < 0 ∨ (l.length : Int) ≤ i) : latest_Votes_Get.f l i = some (0, false) := by
  unfold latest_Votes_Get.f
  by_cases h0 : i < 0
  · rw [if_pos h0]
  · rw [if_neg h0, if_pos (by omega)]
theorem get_in (l : List S33) (i : Int) (h0 : 0 ≤ i) (h1 : i < (l.length : Int)) :
    latest_Votes_Get.f l i = some (if (rd_T33 l i).f0 = true ∧ (rd_T33 l i).f3 = false then ((rd_T33 l i).f2, true) else (0, false)) := by
  unfold latest_Votes_Get.f
  rw [if_neg (by omega), if_neg (by omega), if_pos h0, if_pos h1]
  by_cases a : (rd_T33 l i).f0 = true <;> by_cases b : (rd_T33 l i).f3 = true <;> simp [a, b]
theorem awake_eq : psephoslaw11_awake.f = some true := by
  rfl

def Ok (l : List S33) : Prop := l.length = 2 ∧ rd_T33 l 0 = z33 ∧ (rd_T33 l 1).f3 = false
theorem loop (es rs : List Int) (hm : es.length ≤ 140737488351232) (d : Nat) :
    ∀ (k : Nat) (l : List S33) (i : Int), 0 ≤ i → (es.length : Int) - i = d → d < k → Ok l →
      psephoslaw11_LatestSame.l0 k rs l es (es.length : Int) i = some true := by
  induction d with
  | zero =>
    intro k l i h0 hd hk _
    obtain ⟨k, rfl⟩ : ∃ m, k = m + 1 := ⟨k - 1, by omega⟩
    simp only [psephoslaw11_LatestSame.l0]
    rw [if_neg (by omega)]
  | succ d ih =>
    intro k l i h0 hd hk hok
    obtain ⟨k, rfl⟩ : ∃ m, k = m + 1 := ⟨k - 1, by omega⟩
    obtain ⟨o1, o2, o3⟩ := hok
    have hi : i < (es.length : Int) := by omega
    simp only [psephoslaw11_LatestSame.l0]
    rw [if_pos hi, if_pos h0, if_pos hi, w64 (i + 1) (by omega) (by omega)]
    by_cases hr : i ≥ (rs.length : Int)
    · rw [if_pos hr]
    · rw [if_neg hr, if_pos (by omega), if_pos (by omega)]
      generalize wrap64 (rd es i) = e
      generalize rd rs i = q
      by_cases c : (rd_T33 l 1).f0 = true ∧ e ≤ (rd_T33 l 1).f1
      · rw [take_no l 1 e q (by omega) (by omega) (Or.inr c)]
        simp only [Option.bind_some]
        rw [if_pos c.1, decide_eq_true c.2, if_neg (by decide), if_neg (by decide), if_neg (by simp), if_pos (by omega), o2, if_neg (by decide)]
        exact ih k l (i + 1) (by omega) (by omega) (by omega) ⟨o1, o2, o3⟩
      · have hty := take_yes l 1 e q (by omega) (by omega) o3 (fun h => Int.lt_of_not_ge (fun g => c ⟨h, g⟩))
        rw [hty]
        simp only [Option.bind_some]
        have n2 : rd_T33 (l.set (1 : Int).toNat ⟨true, e, q, false⟩) 0 = z33 := by rw [rd_set l 1 0 _ (by omega) (by omega) (by omega), if_neg (by omega), o2]
        have n3 : rd_T33 (l.set (1 : Int).toNat ⟨true, e, q, false⟩) 1 = ⟨true, e, q, false⟩ := by rw [rd_set l 1 1 _ (by omega) (by omega) (by omega), if_pos rfl]
        have hgo := ih k (l.set (1 : Int).toNat ⟨true, e, q, false⟩) (i + 1) (by omega) (by omega) (by omega) ⟨by rw [List.length_set]; exact o1, n2, by rw [n3]⟩
        generalize l.set (1 : Int).toNat ⟨true, e, q, false⟩ = B at *
        by_cases f : (rd_T33 l 1).f0 = true
        · rw [if_pos f, decide_eq_false (fun g => c ⟨f, g⟩), if_neg (by decide), if_pos trivial, if_pos (by omega), n2, if_neg (by decide)]
          exact hgo
        · rw [if_neg f, if_neg (by decide), if_pos trivial, if_pos (by omega), n2, if_neg (by decide)]
          exact hgo

end LatestSameLemmas
open LatestSameLemmas

theorem LatestSame : psephoslaw11_LatestSame.Pure := by
  intro es rs _ hl _ _ _ _
  refine ⟨es.length + 1, ?_⟩
  unfold psephoslaw11_LatestSame.f
  rw [awake_eq]; simp only [Option.bind_some, if_true]
  rw [of_eq]; simp only [Option.bind_some]
  rw [if_pos (by decide)]
  exact loop es rs (by omega) es.length _ _ 0 (by omega) (by omega) (by omega) ⟨rfl, rfl, rfl⟩

end Go.Proofs.Ytadncnpgekkjbaa.Pure
