/- The list beside the model: what the laws over trees share; and the walk of SkipTwice. -/
import Derived.Test.YtjoglfoioiedbaaMade
namespace Go.Proofs.Ytjoglfoioiedbaa
open Go.RowKit Go.Maps SkipPure

/-- The first i blocks are laid, as P says. -/
def Grow (hgt : Int → Option Nat) (par P : Int → Int) (i : Nat) : Prop :=
  (∀ x, (hgt x).isSome = decide (1 ≤ x ∧ x ≤ (i : Int))) ∧ hgt 1 = some 0 ∧ (∀ x, hgt x = some 0 → x = 1) ∧ (∀ x, 2 ≤ x → x ≤ (i : Int) → par x = P x) ∧ ∀ x h, hgt x = some h → h ≤ i

def MRow (w : World) (g L : Nat) (P S : Int → Int) : Prop :=
  ∀ i, i < L → w.cell? ⟨g, i * 3, none⟩ = some (.int .u64 ((i : Int) + 1)) ∧ w.cell? ⟨g, i * 3 + 1, none⟩ = some (.int .u64 (P ((i : Int) + 1))) ∧ w.cell? ⟨g, i * 3 + 2, none⟩ = some (.int .i64 (S ((i : Int) + 1)))

def LawAt (w0 w : World) (p b g L i : Nat) (hgt : Int → Option Nat) (par P S : Int → Int) : Prop :=
  Holds w0 w p b i hgt par ∧ Grow hgt par P i ∧ MRow w g L P S ∧ b < g ∧ L ≤ 31 ∧ (∀ r, 2 ≤ r → r ≤ (L : Int) → 1 ≤ P r ∧ P r < r) ∧ P 1 = 1 ∧ i ≤ L ∧ ∀ r, 1 ≤ r → r ≤ (L : Int) → 0 ≤ S r ∧ S r ≤ 400

theorem MRow.kept {w w' : World} {g L : Nat} {P S : Int → Int} {row : Option Nat} (h : MRow w g L P S) (hg : w.grownBy w' row) (hne : row ≠ some g) : MRow w' g L P S := fun i hi => by
  obtain ⟨h0, h1, h2⟩ := h i hi
  exact ⟨hg.cell h0 (fun e => hne e.symm), hg.cell h1 (fun e => hne e.symm), hg.cell h2 (fun e => hne e.symm)⟩

theorem LawAt.kept {w0 w w' : World} {p b g L i : Nat} {hgt : Int → Option Nat} {par P S : Int → Int} (h : LawAt w0 w p b g L i hgt par P S) (hg : w.grownBy w' none) : LawAt w0 w' p b g L i hgt par P S := by
  obtain ⟨h1, h2, h3, h4⟩ := h
  exact ⟨h1.kept hg, h2, h3.kept hg (by simp), h4⟩

theorem LawAt.start {w0 w1 w2 : World} {p b tp tb g c L : Nat} {P S H : Int → Int} (h : Holds w0 w1 p b 1 (hgtOne 1) (fun x => x)) (hm : MadeAt w1 w2 tp tb g c L P S H) : LawAt w0 w2 p b g L 1 (hgtOne 1) (fun x => x) P S ∧ 1 ≤ L ∧ L ≤ c := by
  obtain ⟨⟨w1', w2', w3', w4', w5'⟩, hrow, _, _, _, _, _, hg⟩ := hm
  have hgl := hrow.lt g rfl
  have hb : b < w1.heap.size := by
    obtain ⟨ok, h1, h2, _⟩ := h
    exact (h2 b h1.2.1).2
  refine ⟨⟨h.kept hg, ⟨fun x => ?_, rfl, fun x hx => ?_, fun x h1 h2 => by omega, fun x k hk => ?_⟩, fun i hi => ?_, by omega, w2', w4', w3', w1', fun r h1 h2 => ?_⟩, w1', ?_⟩
  · unfold hgtOne
    by_cases e : x = 1
    · rw [if_pos e]; simp; omega
    · rw [if_neg e]; simp; omega
  · unfold hgtOne at hx
    split at hx
    · assumption
    · cases hx
  · unfold hgtOne at hk
    split at hk
    · cases hk; omega
    · cases hk
  · have hget := mcells_get P S L i hi
    exact ⟨(hrow.cellAt (i * 3) (by omega)).trans hget.1, (hrow.cellAt (i * 3 + 1) (by omega)).trans hget.2.1, (hrow.cellAt (i * 3 + 2) (by omega)).trans hget.2.2⟩
  · have := w5' r h1 h2
    omega
  · rcases hrow.2 with ⟨h, _⟩ | ⟨g', cap, cur, h, _, _, hle, _⟩
    · cases h
    · cases h; exact hle

theorem LawAt.add {w0 w : World} {p b g L i : Nat} {hgt : Int → Option Nat} {par P S : Int → Int} (h : LawAt w0 w p b g L i hgt par P S) (hi1 : 1 ≤ i) (hi : i < L) :
    Calls Try.prog 11 #[.pointer (some ⟨p, 0, none⟩), .int .u64 ((i : Int) + 1), .int .u64 (P ((i : Int) + 1))] w fun e w' => e = .returned (.bool true) ∧ ∃ hgt' par', LawAt w0 w' p b g L (i + 1) hgt' par' P S := by
  obtain ⟨h1, ⟨g1, g2, g3, g4, g5⟩, h3, h4, h5, h6, h6', h7, h8⟩ := h
  have hP := h6 ((i : Int) + 1) (by omega) (by omega)
  have hs1 := g1 (P ((i : Int) + 1))
  rw [decide_eq_true (by omega)] at hs1
  obtain ⟨k, hk⟩ := Option.isSome_iff_exists.1 hs1
  have hs2 := g1 ((i : Int) + 1)
  rw [decide_eq_false (by omega)] at hs2
  have hn : hgt ((i : Int) + 1) = none := by simpa using hs2
  have hkb := g5 _ _ hk
  refine (add_H h1 (by omega) ⟨by omega, by omega⟩ (by omega) hk hn).mono ?_
  rintro e w' ⟨rfl, h', hg⟩
  refine ⟨rfl, _, _, h', ⟨fun x => ?_, ?_, fun x hx => ?_, fun x hx1 hx2 => ?_, fun x m hm => ?_⟩, h3.kept hg (by intro e; have := Option.some.inj e; omega), h4, h5, h6, h6', by omega, h8⟩
  · unfold setHgt
    by_cases e : x = (i : Int) + 1
    · rw [if_pos e]; simp; omega
    · rw [if_neg e, g1 x, decide_eq_decide]; omega
  · unfold setHgt
    rw [if_neg (by omega)]; exact g2
  · unfold setHgt at hx
    split at hx
    · cases hx
    · exact g3 x hx
  · unfold setPar
    by_cases e : x = (i : Int) + 1
    · rw [if_pos e, e]
    · rw [if_neg e]; exact g4 x hx1 (by omega)
  · unfold setHgt at hm
    split at hm
    · cases hm; omega
    · have := g5 x m hm; omega

set_option maxRecDepth 100000 in
set_option maxHeartbeats 4000000 in
theorem twice_walk (w : World) (a : Option Addr) (len cap : Nat) (r : Int) (ha : ArgU8 w a len) (hlen : len ≤ 140737488351232) (hr0 : 0 ≤ r) (hr : r ≤ 255) :
    Calls Try.prog 6 #[.slice a len cap, .int .u8 r] w fun e w' => e = .returned (.bool true) ∧ w.grownBy w' none := by
  have HA := Lib.hid ha
  clear ha
  go_enter Try.func6, Try.ntmps6
  go_wp2_with fail
  refine (awake_calls w).mono ?_
  rintro e w0 ⟨rfl, hg0⟩
  have HG0 := Lib.hid hg0
  clear hg0
  go_wp2_with fail
  refine (of_H HG0.out (small_inU (by omega) (by omega))).mono ?_
  rintro e w1 ⟨p, b, rfl, hs, hg⟩
  have HS := Lib.hid hs
  clear hs hg
  go_wp2_with fail
  have ha1 : ArgU8 w1 a len := fun i hi => by
    obtain ⟨ad, x, h1, h2, h3⟩ := HA.out i hi
    exact ⟨ad, x, h1, HS.out.grown.cell h2 (by simp), h3⟩
  refine (made_calls w1 a len cap ha1 hlen).mono ?_
  rintro e w2 ⟨tp, tb, g, c, L, P, S, H, rfl, hm⟩
  obtain ⟨hL0, hL1, hLc⟩ := LawAt.start HS.out hm
  have HL := Lib.hid hL0
  have hL31 := hL0.2.2.2.2.1
  clear hL0 hm ha1
  go_wp2
  · go_loopw [28] (fun v28 wr => ∃ i : Nat, v28 = .int .i64 (i : Int) ∧ i + 1 ≤ L ∧ ∃ hgt par, LawAt w wr p b g L (i + 1) hgt par P S) (fun v28 _ => 40 - (intOf v28).toNat)
    case atStart => exact ⟨0, rfl, hL1, _, _, HL.out⟩
    case round =>
      obtain ⟨i, rfl, hi, hgt, par, hl⟩ := hrel
      by_cases hlt : i < L - 1
      · exfalso; omega
      · have hiL : i + 1 = L := by omega
        rw [hiL] at hl
        have hm0 := Int.emod_nonneg r (show (L : Int) ≠ 0 by omega)
        have hm1 := Int.emod_lt_of_pos r (show 0 < (L : Int) by omega)
        obtain ⟨q, hq⟩ : ∃ q, q = ((r % (L : Int)).toNat : Int) + 1 := ⟨_, rfl⟩
        have hm := hl.2.2.1 (r % (L : Int)).toNat (by omega)
        rw [← hq] at hm
        have hq1 : 1 ≤ q := by omega
        have hq2 : q ≤ (L : Int) := by omega
        obtain ⟨c0, c1, c2⟩ := hm
        have hqs := hl.2.1.1 q
        rw [decide_eq_true ⟨hq1, hq2⟩] at hqs
        obtain ⟨k, hk⟩ := Option.isSome_iff_exists.1 hqs
        have h400 := hl.2.1.1 400
        rw [decide_eq_false (by omega)] at h400
        have h500 := hl.2.1.1 500
        rw [decide_eq_false (by omega)] at h500
        have h400' : hgt 400 = none := by simpa using h400
        have h500' : hgt 500 = none := by simpa using h500
        have hqU : inU q := ⟨by omega, by omega⟩
        obtain ⟨pq, hpq⟩ : ∃ pq, pq = P q := ⟨_, rfl⟩
        obtain ⟨sq, hsq⟩ : ∃ sq, sq = S q := ⟨_, rfl⟩
        rw [← hpq] at c1
        rw [← hsq] at c2
        have HH := Lib.hid hl.1
        have HQS := Lib.hid hqs
        have HK := Lib.hid hk
        have H4 := Lib.hid h400'
        have H5 := Lib.hid h500'
        clear hl hq hpq hsq hqs hk h400 h500 h400' h500' hiL
        go_wp2_with fail
        have hbx : (wr.alloc (Obj.cells #[Value.int .u64 q, Value.int .u64 pq, Value.int .i64 sq] 45)).heap[wr.heap.size]? = some (.cells #[Value.int .u64 q, Value.int .u64 pq, Value.int .i64 sq] 45 (0, 0)) := (MapKept.heap_alloc wr _).1
        have hbl : wr.heap.size < (wr.alloc (Obj.cells #[Value.int .u64 q, Value.int .u64 pq, Value.int .i64 sq] 45)).heap.size := by simp
        have HB := Lib.hid hbx
        have HH1 := Lib.hid (HH.out.kept (World.grownBy_alloc wr (Obj.cells #[Value.int .u64 q, Value.int .u64 pq, Value.int .i64 sq] 45) none))
        clear hbx
        refine (height_H HH1.out hqU).mono ?_
        rintro e w3 ⟨rfl, hh, hg3⟩
        rw [HK.out]
        simp only [Option.getD_some, Option.isSome_some]
        have HH2 := Lib.hid hh
        have HB2 := Lib.hid ((hg3.block wr.heap.size hbl (by simp)).trans HB.out)
        have d0 : w3.cell? ⟨wr.heap.size, 0, none⟩ = some (.int .u64 q) := cel HB2.out 0
        have hbl2 := Nat.lt_of_lt_of_le hbl hg3.size
        clear hh hg3
        go_wp2_with fail
        refine (add_not_H HH2.out hqU (small_inU (by omega) (by omega)) (Or.inr HQS.out)).mono ?_
        rintro e w4 ⟨rfl, hh, hg3⟩
        have HH3 := Lib.hid hh
        have HB3 := Lib.hid ((hg3.block wr.heap.size hbl2 (by simp)).trans HB2.out)
        have d0' : w4.cell? ⟨wr.heap.size, 0, none⟩ = some (.int .u64 q) := cel HB3.out 0
        have hbl3 := Nat.lt_of_lt_of_le hbl2 hg3.size
        clear hh hg3
        go_wp2_with fail
        refine (add_not_H HH3.out hqU hqU (Or.inr HQS.out)).mono ?_
        rintro e w5 ⟨rfl, hh, hg3⟩
        have HH4 := Lib.hid hh
        have HB4 := Lib.hid ((hg3.block wr.heap.size hbl3 (by simp)).trans HB3.out)
        have hbl4 := Nat.lt_of_lt_of_le hbl3 hg3.size
        clear hh hg3
        go_wp2_with fail
        refine (add_not_H HH4.out (small_inU (by omega) (by omega)) (small_inU (by omega) (by omega)) (Or.inl H4.out)).mono ?_
        rintro e w6 ⟨rfl, hh, hg3⟩
        have HH5 := Lib.hid hh
        have HB5 := Lib.hid ((hg3.block wr.heap.size hbl4 (by simp)).trans HB4.out)
        have d0'' : w6.cell? ⟨wr.heap.size, 0, none⟩ = some (.int .u64 q) := cel HB5.out 0
        clear hh hg3
        go_wp2_with fail
        refine (height_H HH5.out hqU).mono ?_
        rintro e w7 ⟨rfl, hh, hg3⟩
        rw [HK.out]
        simp only [Option.getD_some, Option.isSome_some]
        have HH6 := Lib.hid hh
        clear hh hg3
        go_wp2_with fail
        refine (height_H HH6.out (small_inU (by omega) (by omega))).mono ?_
        rintro e w8 ⟨rfl, hh, hg3⟩
        rw [H5.out]
        simp only [Option.getD_none, Option.isSome_none]
        have HH7 := Lib.hid hh
        clear hh hg3
        go_wp2_with fail
        refine (len_H HH7.out).mono ?_
        rintro e w9 ⟨rfl, rfl⟩
        go_wp2
        go_ret
        exact ⟨by simp, HH7.out.grown⟩
  · go_loopw [28] (fun v28 wr => ∃ i : Nat, v28 = .int .i64 (i : Int) ∧ i + 1 ≤ L ∧ ∃ hgt par, LawAt w wr p b g L (i + 1) hgt par P S) (fun v28 _ => 40 - (intOf v28).toNat)
    case atStart => exact ⟨0, rfl, hL1, _, _, HL.out⟩
    case round =>
      obtain ⟨i, rfl, hi, hgt, par, hl⟩ := hrel
      by_cases hlt : i < L - 1
      · have hm := hl.2.2.1 (i + 1) (by omega)
        have m0 : wr.cell? ⟨g, 3 + i * 3, none⟩ = some (.int .u64 (((i + 1 : Nat) : Int) + 1)) := by rw [show 3 + i * 3 = (i + 1) * 3 by omega]; exact hm.1
        have m1 : wr.cell? ⟨g, 3 + i * 3 + 1, none⟩ = some (.int .u64 (P (((i + 1 : Nat) : Int) + 1))) := by rw [show 3 + i * 3 + 1 = (i + 1) * 3 + 1 by omega]; exact hm.2.1
        have m2 : wr.cell? ⟨g, 3 + i * 3 + 2, none⟩ = some (.int .i64 (S (((i + 1 : Nat) : Int) + 1))) := by rw [show 3 + i * 3 + 2 = (i + 1) * 3 + 2 by omega]; exact hm.2.2
        have HL2 := Lib.hid (hl.kept (World.grownBy_alloc wr (Obj.cells #[Value.int .u64 (↑i + 1 + 1), Value.int .u64 (P (↑i + 1 + 1)), Value.int .i64 (S (↑i + 1 + 1))] 45) none))
        clear hl hm
        go_wp2_with fail
        refine (HL2.out.add (by omega) (by omega)).mono ?_
        rintro e w3 ⟨rfl, hgt', par', hl3⟩
        have HL3 := Lib.hid hl3
        clear hl3
        go_wp2
        exact ⟨⟨i + 1, by simp, by omega, hgt', par', HL3.out⟩, by simp [intOf]; omega⟩
      · have hiL : i + 1 = L := by omega
        rw [hiL] at hl
        have hm0 := Int.emod_nonneg r (show (L : Int) ≠ 0 by omega)
        have hm1 := Int.emod_lt_of_pos r (show 0 < (L : Int) by omega)
        obtain ⟨q, hq⟩ : ∃ q, q = ((r % (L : Int)).toNat : Int) + 1 := ⟨_, rfl⟩
        have hm := hl.2.2.1 (r % (L : Int)).toNat (by omega)
        rw [← hq] at hm
        have hq1 : 1 ≤ q := by omega
        have hq2 : q ≤ (L : Int) := by omega
        obtain ⟨c0, c1, c2⟩ := hm
        have hqs := hl.2.1.1 q
        rw [decide_eq_true ⟨hq1, hq2⟩] at hqs
        obtain ⟨k, hk⟩ := Option.isSome_iff_exists.1 hqs
        have h400 := hl.2.1.1 400
        rw [decide_eq_false (by omega)] at h400
        have h500 := hl.2.1.1 500
        rw [decide_eq_false (by omega)] at h500
        have h400' : hgt 400 = none := by simpa using h400
        have h500' : hgt 500 = none := by simpa using h500
        have hqU : inU q := ⟨by omega, by omega⟩
        obtain ⟨pq, hpq⟩ : ∃ pq, pq = P q := ⟨_, rfl⟩
        obtain ⟨sq, hsq⟩ : ∃ sq, sq = S q := ⟨_, rfl⟩
        rw [← hpq] at c1
        rw [← hsq] at c2
        have HH := Lib.hid hl.1
        have HQS := Lib.hid hqs
        have HK := Lib.hid hk
        have H4 := Lib.hid h400'
        have H5 := Lib.hid h500'
        clear hl hq hpq hsq hqs hk h400 h500 h400' h500' hiL
        go_wp2_with fail
        have hbx : (wr.alloc (Obj.cells #[Value.int .u64 q, Value.int .u64 pq, Value.int .i64 sq] 45)).heap[wr.heap.size]? = some (.cells #[Value.int .u64 q, Value.int .u64 pq, Value.int .i64 sq] 45 (0, 0)) := (MapKept.heap_alloc wr _).1
        have hbl : wr.heap.size < (wr.alloc (Obj.cells #[Value.int .u64 q, Value.int .u64 pq, Value.int .i64 sq] 45)).heap.size := by simp
        have HB := Lib.hid hbx
        have HH1 := Lib.hid (HH.out.kept (World.grownBy_alloc wr (Obj.cells #[Value.int .u64 q, Value.int .u64 pq, Value.int .i64 sq] 45) none))
        clear hbx
        refine (height_H HH1.out hqU).mono ?_
        rintro e w3 ⟨rfl, hh, hg3⟩
        rw [HK.out]
        simp only [Option.getD_some, Option.isSome_some]
        have HH2 := Lib.hid hh
        have HB2 := Lib.hid ((hg3.block wr.heap.size hbl (by simp)).trans HB.out)
        have d0 : w3.cell? ⟨wr.heap.size, 0, none⟩ = some (.int .u64 q) := cel HB2.out 0
        have hbl2 := Nat.lt_of_lt_of_le hbl hg3.size
        clear hh hg3
        go_wp2_with fail
        refine (add_not_H HH2.out hqU (small_inU (by omega) (by omega)) (Or.inr HQS.out)).mono ?_
        rintro e w4 ⟨rfl, hh, hg3⟩
        have HH3 := Lib.hid hh
        have HB3 := Lib.hid ((hg3.block wr.heap.size hbl2 (by simp)).trans HB2.out)
        have d0' : w4.cell? ⟨wr.heap.size, 0, none⟩ = some (.int .u64 q) := cel HB3.out 0
        have hbl3 := Nat.lt_of_lt_of_le hbl2 hg3.size
        clear hh hg3
        go_wp2_with fail
        refine (add_not_H HH3.out hqU hqU (Or.inr HQS.out)).mono ?_
        rintro e w5 ⟨rfl, hh, hg3⟩
        have HH4 := Lib.hid hh
        have HB4 := Lib.hid ((hg3.block wr.heap.size hbl3 (by simp)).trans HB3.out)
        have hbl4 := Nat.lt_of_lt_of_le hbl3 hg3.size
        clear hh hg3
        go_wp2_with fail
        refine (add_not_H HH4.out (small_inU (by omega) (by omega)) (small_inU (by omega) (by omega)) (Or.inl H4.out)).mono ?_
        rintro e w6 ⟨rfl, hh, hg3⟩
        have HH5 := Lib.hid hh
        have HB5 := Lib.hid ((hg3.block wr.heap.size hbl4 (by simp)).trans HB4.out)
        have d0'' : w6.cell? ⟨wr.heap.size, 0, none⟩ = some (.int .u64 q) := cel HB5.out 0
        clear hh hg3
        go_wp2_with fail
        refine (height_H HH5.out hqU).mono ?_
        rintro e w7 ⟨rfl, hh, hg3⟩
        rw [HK.out]
        simp only [Option.getD_some, Option.isSome_some]
        have HH6 := Lib.hid hh
        clear hh hg3
        go_wp2_with fail
        refine (height_H HH6.out (small_inU (by omega) (by omega))).mono ?_
        rintro e w8 ⟨rfl, hh, hg3⟩
        rw [H5.out]
        simp only [Option.getD_none, Option.isSome_none]
        have HH7 := Lib.hid hh
        clear hh hg3
        go_wp2_with fail
        refine (len_H HH7.out).mono ?_
        rintro e w9 ⟨rfl, rfl⟩
        go_wp2
        go_ret
        exact ⟨by simp, HH7.out.grown⟩

theorem twice_row (a : Option Addr) (len cap : Nat) (zs : List Int) (r : Int) (w : World) (h : (a = none ∧ len = 0 ∧ cap = 0 ∧ zs = []) ∨ ∃ x, a = some x ∧ len ≤ cap ∧ cap ≤ maxLen ∧ zs.length = cap ∧ (∀ i, i < zs.length → w.cell? (x.add i) = some (.int .u8 (zs.getD i 0))) ∧ ∀ n ∈ zs, (Lit.int .u8 n).wf = true) (hl : len * 1 ≤ 140737488351232) (hr : (Lit.int .u8 r).wf = true) :
    Calls Try.prog 6 #[.slice a len cap, .int .u8 r] w fun e w' => e = .returned (.bool true) ∧ Below w.heap.size w w' :=
  (twice_walk w a len cap r (arg_of_row h) (by omega) (u8_bd hr).1 (u8_bd hr).2).mono fun _ _ ⟨h1, h2⟩ => ⟨h1, grown_lt h2⟩
end Go.Proofs.Ytjoglfoioiedbaa
