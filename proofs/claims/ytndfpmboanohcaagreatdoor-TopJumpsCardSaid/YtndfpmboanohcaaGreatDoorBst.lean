/- Contract of weight.Best. -/
import Derived.Test.YtndfpmboanohcaaGreatDoorBfd
namespace Go.Proofs.YtndfpmboanohcaaGreatDoor
set_option maxRecDepth 100000
open Go.RowKit Go.Maps SkipPure

def bstep (wt : Int → Int) (s : Int × Int × Bool) (r : Int) : Int × Int × Bool :=
  if !s.2.2 || decide (s.2.1 < wt r) || (wt r == s.2.1 && decide (s.1 < r)) then (r, wt r, true) else s
def bestF (wt : Int → Int) (rs : List Int) : Int × Int × Bool := rs.foldl (bstep wt) (0, 0, false)
theorem bestF_take (wt : Int → Int) (rs : List Int) {j : Nat} (h : j < rs.length) : bestF wt (rs.take (j + 1)) = bstep wt (bestF wt (rs.take j)) (rs.getD j 0) := by
  unfold bestF
  rw [List.take_add_one, List.foldl_append]
  simp [List.getElem?_eq_getElem h, List.getD_eq_getElem?_getD]
section
variable {w : World}
set_option maxHeartbeats 2000000 in
theorem best_calls {base : Nat} {v : Value} {rs : List Int} (hv : w.ownsRow base 27 1 v rs.length (rs.map encU)) (hl : rs.length ≤ 1000000) {q : Nat} (wt : Int → Int)
    (hw : ∀ W, w.grownBy W none → ∀ r, r ∈ rs → Calls Tryz.prog 176 #[.pointer (some ⟨q, 0, none⟩), .int .u64 r] W fun e W' => e = .returned (.int .u64 (wt r)) ∧ W.grownBy W' none) :
    Calls Tryz.prog 151 #[.func (.func 176) #[.pointer (some ⟨q, 0, none⟩)] #[], v] w fun e w' => e = .returned (.tuple #[.int .u64 (bestF wt rs).1, .bool (bestF wt rs).2.2]) ∧ w.grownBy w' none := by
  have HV := Lib.hid hv
  have HW := Lib.hid hw
  have hlen := len_any (P := Tryz.prog) (t := 34) hv Tryz.underlying34 3
  clear hw
  go_enter Tryz.func151, Tryz.ntmps151
  go_wp2_with fail
  clear hlen
  go_loopw [14, 6, 7, 8] (fun v14 v6 v7 v8 wr => ∃ (j : Nat), v14 = .int .i64 (j : Int) ∧ j ≤ rs.length ∧ v6 = .int .u64 (bestF wt (rs.take j)).1 ∧ v7 = .int .u64 (bestF wt (rs.take j)).2.1 ∧ v8 = .bool (bestF wt (rs.take j)).2.2 ∧ w.grownBy wr none) (fun v14 _ _ _ _ => rs.length - (intOf v14).toNat)
  case atStart => exact ⟨0, rfl, by omega, rfl, rfl, rfl, World.grownBy.refl w none⟩
  case round =>
    obtain ⟨j, rfl, hj, rfl, rfl, rfl, hg⟩ := hrel
    have HG := Lib.hid hg
    clear hg
    by_cases hlt : j < rs.length
    · obtain ⟨g, c, rfl, _, _⟩ := hv.form (by omega)
      obtain ⟨r, hr⟩ : ∃ r, r = rs.getD j 0 := ⟨_, rfl⟩
      have hrm : r ∈ rs := by rw [hr, List.getD_eq_getElem?_getD, List.getElem?_eq_getElem hlt]; exact List.getElem_mem hlt
      have c0 : wr.cell? ⟨g, j, none⟩ = some (.int .u64 r) := by
        have h1 := (HV.out.kept HG.out (.inr (by simp [Value.ownBlock]))).cells (g := g) rfl j (encU r) (by rw [List.getElem?_map, List.getElem?_eq_getElem hlt, hr, List.getD_eq_getElem?_getD, List.getElem?_eq_getElem hlt]; rfl)
        have e : (⟨g, 0, none⟩ : Addr).add j = ⟨g, j, none⟩ := by unfold Addr.add; split <;> simp_all
        rw [e] at h1
        exact h1
      have hwr := HW.out wr HG.out r hrm
      obtain ⟨x, hx⟩ : ∃ x, x = wt r := ⟨_, rfl⟩
      rw [← hx] at hwr
      have HWR := Lib.hid hwr
      have hnext := bestF_take wt rs hlt
      rw [← hr] at hnext
      obtain ⟨s, hs⟩ : ∃ s, s = bestF wt (rs.take j) := ⟨_, rfl⟩
      rw [← hs] at hnext ⊢
      unfold bstep at hnext
      rw [← hx] at hnext
      obtain ⟨b, m, has⟩ := s
      simp only at hnext ⊢
      have HN := Lib.hid hnext
      clear hwr hr hrm hx hs hnext hv
      cases has with
      | false =>
        have hn := HN.out
        simp only [Bool.not_false, Bool.true_or, if_true] at hn
        replace HN := Lib.hid hn
        clear hn
        go_wp2_with fail
        refine HWR.out.mono ?_
        rintro e w2 ⟨rfl, hg2⟩
        replace HG := Lib.hid (g2 HG.out hg2)
        clear hg2
        go_wp2
        exact ⟨⟨j + 1, by simp, by omega, by rw [HN.out], by rw [HN.out], by rw [HN.out], HG.out⟩, by simp [intOf]; omega⟩
      | true =>
        by_cases h1 : m < x
        · have hn := HN.out
          rw [decide_eq_true h1] at hn
          simp only [Bool.or_true, Bool.true_or, if_true] at hn
          replace HN := Lib.hid hn
          have hd : decide (x > m) = true := decide_eq_true h1
          clear hn h1
          go_wp2_with fail
          refine HWR.out.mono ?_
          rintro e w2 ⟨rfl, hg2⟩
          replace HG := Lib.hid (g2 HG.out hg2)
          clear hg2
          go_wp2
          exact ⟨⟨j + 1, by simp, by omega, by rw [HN.out], by rw [HN.out], by rw [HN.out], HG.out⟩, by simp [intOf]; omega⟩
        · by_cases h2 : x = m
          · by_cases h3 : b < r
            · have hn := HN.out
              rw [decide_eq_true h3] at hn
              simp only [h2, beq_self_eq_true, Bool.and_true, Bool.or_true, if_true] at hn
              replace HN := Lib.hid hn
              have hd : decide (x > m) = false := decide_eq_false h1
              have hd2 : (x == m) = true := by simp [h2]
              have hd3 : decide (r > b) = true := decide_eq_true h3
              have HX := Lib.hid h2
              clear hn h1 h2 h3
              go_wp2_with fail
              refine HWR.out.mono ?_
              rintro e w2 ⟨rfl, hg2⟩
              replace HG := Lib.hid (g2 HG.out hg2)
              clear hg2
              go_wp2
              exact ⟨⟨j + 1, by simp, by omega, by rw [HN.out], by rw [HN.out, HX.out], by rw [HN.out], HG.out⟩, by simp [intOf]; omega⟩
            · have hn := HN.out
              rw [decide_eq_false h3, decide_eq_false h1] at hn
              simp only [Bool.not_true, Bool.or_false, Bool.and_false] at hn
              replace HN := Lib.hid hn
              have hd : decide (x > m) = false := decide_eq_false h1
              have hd2 : (x == m) = true := by simp [h2]
              have hd3 : decide (r > b) = false := decide_eq_false h3
              clear hn h1 h2 h3
              go_wp2_with fail
              refine HWR.out.mono ?_
              rintro e w2 ⟨rfl, hg2⟩
              replace HG := Lib.hid (g2 HG.out hg2)
              clear hg2
              go_wp2
              exact ⟨⟨j + 1, by simp, by omega, by rw [HN.out]; rfl, by rw [HN.out]; rfl, by rw [HN.out]; rfl, HG.out⟩, by simp [intOf]; omega⟩
          · have hd2 : (x == m) = false := by simp [h2]
            have hn := HN.out
            rw [decide_eq_false h1, hd2] at hn
            simp only [Bool.not_true, Bool.or_false, Bool.false_and] at hn
            replace HN := Lib.hid hn
            have hd : decide (x > m) = false := decide_eq_false h1
            clear hn h1 h2
            go_wp2_with fail
            refine HWR.out.mono ?_
            rintro e w2 ⟨rfl, hg2⟩
            replace HG := Lib.hid (g2 HG.out hg2)
            clear hg2
            go_wp2
            exact ⟨⟨j + 1, by simp, by omega, by rw [HN.out]; rfl, by rw [HN.out]; rfl, by rw [HN.out]; rfl, HG.out⟩, by simp [intOf]; omega⟩
    · obtain rfl : j = rs.length := by omega
      rw [List.take_length]
      go_wp2
      go_ret2
      exact ⟨rfl, HG.out⟩
end
end Go.Proofs.YtndfpmboanohcaaGreatDoor
