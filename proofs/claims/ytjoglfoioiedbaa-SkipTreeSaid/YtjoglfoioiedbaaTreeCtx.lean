/- The walk of SkipTree. -/
import Derived.Test.YtjoglfoioiedbaaModel
import Derived.Deep.RegionHeld3
import Derived.Deep.DeepCutAuto
namespace Go.Proofs.Ytjoglfoioiedbaa
open Go.RowKit Go.Maps SkipPure

theorem LawAt.add' {w0 w : World} {p b g L i : Nat} {hgt : Int → Option Nat} {par P S : Int → Int} (h : LawAt w0 w p b g L i hgt par P S) (hi1 : 1 ≤ i) (hi : i < L) :
    Calls Try.prog 11 #[.pointer (some ⟨p, 0, none⟩), .int .u64 ((i : Int) + 1), .int .u64 (P ((i : Int) + 1))] w fun e w' => e = .returned (.bool true) ∧ (∃ hgt' par', LawAt w0 w' p b g L (i + 1) hgt' par' P S) ∧ w.grownBy w' (some b) := by
  obtain ⟨h1, ⟨g1, g2, g3, g4, g5⟩, h3, h4, h5, h6, h6', h7, h8⟩ := h
  have hP := h6 ((i : Int) + 1) (by omega) (by omega)
  have hs1 := g1 (P ((i : Int) + 1))
  rw [decide_eq_true (by omega)] at hs1
  obtain ⟨k, hk⟩ := Option.isSome_iff_exists.1 hs1
  have hs2 := g1 ((i : Int) + 1)
  rw [decide_eq_false (by omega)] at hs2
  have hn : hgt ((i : Int) + 1) = none := by simpa using hs2
  have hkb := g5 _ _ hk
  refine (add_H h1 (by omega) ⟨by omega, by omega⟩ (by omega) hk hn).mono ?_
  rintro e w' ⟨rfl, h', hg⟩
  refine ⟨rfl, ⟨_, _, h', ⟨fun x => ?_, ?_, fun x hx => ?_, fun x hx1 hx2 => ?_, fun x m hm => ?_⟩, h3.kept hg (by intro e; have := Option.some.inj e; omega), h4, h5, h6, h6', by omega, h8⟩, hg⟩
  · unfold setHgt
    by_cases e : x = (i : Int) + 1
    · rw [if_pos e]; simp; omega
    · rw [if_neg e, g1 x, decide_eq_decide]; omega
  · unfold setHgt
    rw [if_neg (by omega)]; exact g2
  · unfold setHgt at hx
    split at hx
    · cases hx
    · exact g3 x hx
  · unfold setPar
    by_cases e : x = (i : Int) + 1
    · rw [if_pos e, e]
    · rw [if_neg e]; exact g4 x hx1 (by omega)
  · unfold setHgt at hm
    split at hm
    · cases hm; omega
    · have := g5 x m hm; omega


/-- While the blocks are laid: the model in its box. -/
def TAdd (w0 w : World) (p b g c q L i : Nat) (P S : Int → Int) : Prop :=
  (∃ hgt par, LawAt w0 w p b g L i hgt par P S) ∧ w.heap[q]? = some (.cells #[.slice (some ⟨g, 0, none⟩) L c] 41 (0, 0)) ∧ b < q

theorem TAdd.kept {w0 w w' : World} {p b g c q L i : Nat} {P S : Int → Int} (h : TAdd w0 w p b g c q L i P S) (hg : w.grownBy w' none) : TAdd w0 w' p b g c q L i P S := by
  obtain ⟨⟨hgt, par, h1⟩, h2, h3⟩ := h
  exact ⟨⟨hgt, par, h1.kept hg⟩, (hg.block q (Array.getElem?_eq_some_iff.1 h2).1 (by simp)).trans h2, h3⟩

theorem TAdd.add {w0 w : World} {p b g c q L i : Nat} {P S : Int → Int} (h : TAdd w0 w p b g c q L i P S) (hi1 : 1 ≤ i) (hi : i < L) :
    Calls Try.prog 11 #[.pointer (some ⟨p, 0, none⟩), .int .u64 ((i : Int) + 1), .int .u64 (P ((i : Int) + 1))] w fun e w' => e = .returned (.bool true) ∧ TAdd w0 w' p b g c q L (i + 1) P S ∧ w.grownBy w' (some b) := by
  obtain ⟨⟨hgt, par, h1⟩, h2, h3⟩ := h
  refine (h1.add' hi1 hi).mono ?_
  rintro e w' ⟨rfl, h4, hg⟩
  exact ⟨rfl, ⟨h4, (hg.block q (Array.getElem?_eq_some_iff.1 h2).1 (by intro e; have := Option.some.inj e; omega)).trans h2, h3⟩, hg⟩

theorem TAdd.twice {w0 w : World} {p b g c q L i : Nat} {P S : Int → Int} (h : TAdd w0 w p b g c q L (i + 1) P S) (hi : i < L) (hi1 : 1 ≤ i) :
    Calls Try.prog 11 #[.pointer (some ⟨p, 0, none⟩), .int .u64 ((i : Int) + 1), .int .u64 (P ((i : Int) + 1))] w fun e w' => e = .returned (.bool false) ∧ TAdd w0 w' p b g c q L (i + 1) P S ∧ w.grownBy w' none := by
  have h0 := h
  obtain ⟨⟨hgt, par, h1⟩, h2, h3⟩ := h
  have hs := h1.2.1.1 ((i : Int) + 1)
  rw [decide_eq_true (by omega)] at hs
  have hP := h1.2.2.2.2.2.1 ((i : Int) + 1) (by omega) (by omega)
  have := h1.2.2.2.2.1
  refine (add_not_H h1.1 ⟨by omega, by omega⟩ ⟨by omega, by omega⟩ (Or.inr hs)).mono ?_
  rintro e w' ⟨rfl, h4, hg⟩
  exact ⟨rfl, h0.kept hg, hg⟩

/-- All blocks are laid. -/
def TAt (w0 w : World) (p b g c q L : Nat) (hgt : Int → Option Nat) (par P S : Int → Int) : Prop :=
  LawAt w0 w p b g L L hgt par P S ∧ w.heap[q]? = some (.cells #[.slice (some ⟨g, 0, none⟩) L c] 41 (0, 0))
def BoxAt (w : World) (xb : Nat) (r : Int) : Prop := ∃ pq sq, w.heap[xb]? = some (.cells #[.int .u64 r, .int .u64 pq, .int .i64 sq] 45 (0, 0))

theorem TAt.kept {w0 w w' : World} {p b g c q L : Nat} {hgt : Int → Option Nat} {par P S : Int → Int} (h : TAt w0 w p b g c q L hgt par P S) (hg : w.grownBy w' none) : TAt w0 w' p b g c q L hgt par P S := by
  obtain ⟨h1, h2⟩ := h
  exact ⟨h1.kept hg, (hg.block q (Array.getElem?_eq_some_iff.1 h2).1 (by simp)).trans h2⟩
theorem TAt.cell {w0 w : World} {p b g c q L : Nat} {hgt : Int → Option Nat} {par P S : Int → Int} (h : TAt w0 w p b g c q L hgt par P S) : w.cell? ⟨q, 0, none⟩ = some (.slice (some ⟨g, 0, none⟩) L c) := cel h.2 0
theorem BoxAt.kept {w w' : World} {xb : Nat} {r : Int} (h : BoxAt w xb r) (hg : w.grownBy w' none) : BoxAt w' xb r := by
  obtain ⟨pq, sq, h⟩ := h
  exact ⟨pq, sq, (hg.block xb (Array.getElem?_eq_some_iff.1 h).1 (by simp)).trans h⟩
theorem BoxAt.cell {w : World} {xb : Nat} {r : Int} (h : BoxAt w xb r) : w.cell? ⟨xb, 0, none⟩ = some (.int .u64 r) := by
  obtain ⟨pq, sq, h⟩ := h
  exact cel h 0
theorem BoxAt.made (w : World) (r pq sq : Int) : BoxAt (w.alloc (Obj.cells #[.int .u64 r, .int .u64 pq, .int .i64 sq] 45)) w.heap.size r := ⟨pq, sq, (MapKept.heap_alloc w _).1⟩

section
variable {w0 w : World} {p b g c q L : Nat} {hgt : Int → Option Nat} {par P S : Int → Int}
theorem TAt.inU (h : TAt w0 w p b g c q L hgt par P S) {r : Int} (h1 : 1 ≤ r) (h2 : r ≤ (L : Int)) : inU r := by
  have := h.1.2.2.2.2.1
  exact ⟨by omega, by omega⟩
theorem TAt.there (h : TAt w0 w p b g c q L hgt par P S) {r : Int} (h1 : 1 ≤ r) (h2 : r ≤ (L : Int)) : ∃ k, hgt r = some k := by
  have := h.1.2.1.1 r
  rw [decide_eq_true ⟨h1, h2⟩] at this
  exact Option.isSome_iff_exists.1 this
theorem TAt.height (h : TAt w0 w p b g c q L hgt par P S) {r : Int} {k : Nat} (hk : hgt r = .some k) :
    Calls Try.prog 14 #[.pointer (some ⟨p, 0, none⟩), .int .u64 r] w fun e w' => e = .returned (.tuple #[.int .i64 (k : Int), .bool true]) ∧ w.grownBy w' none := by
  have hr := grow_range h.1.2.1 hk
  refine (height_H h.1.1 (h.inU hr.1 hr.2)).mono ?_
  rintro e w' ⟨rfl, _, hg⟩
  rw [hk]
  exact ⟨rfl, hg⟩
theorem TAt.high (h : TAt w0 w p b g c q L hgt par P S) {k : Nat} {m : Nat} (hk : hgt ((k : Int) + 1) = .some m) :
    Calls Try.prog 18 #[.int .i64 k, .pointer (some ⟨q, 0, none⟩)] w fun e w' => e = .returned (.int .i64 (m : Int)) ∧ w.grownBy w' none := by
  obtain ⟨ok, _, _, T, _⟩ := h.1.1
  exact high_calls h.2 h.1.2.2.1 h.1.2.2.2.2.1 h.1.2.1 T hk
theorem TAt.find (h : TAt w0 w p b g c q L hgt par P S) (r : Int) :
    Calls Try.prog 19 #[.slice (some ⟨g, 0, none⟩) L c, .int .u64 r] w fun e w' => e = .returned (.int .i64 (findI L r)) ∧ w.grownBy w' none :=
  find_calls h.1.2.2.1 h.1.2.2.2.2.1 r
theorem TAt.at_ (h : TAt w0 w p b g c q L hgt par P S) {r : Int} {k : Nat} (hk : hgt r = .some k) {m : Nat} (hm : m ≤ k) :
    Calls Try.prog 12 #[.pointer (some ⟨p, 0, none⟩), .int .u64 r, .int .i64 (m : Int)] w fun e w' => e = .returned (.tuple #[.int .u64 (anc par r (k - m)), .int .i64 (pop (k - m) : Nat), .bool true]) ∧ w.grownBy w' none := by
  have hr := grow_range h.1.2.1 hk
  refine (at_H h.1.1 (h.inU hr.1 hr.2) (m : Int)).mono ?_
  rintro e w' ⟨rfl, _, hg⟩
  refine ⟨?_, hg⟩
  unfold atF
  rw [hk]
  simp only
  rw [if_pos (by omega)]
  simp
theorem TAt.above (h : TAt w0 w p b g c q L hgt par P S) {r : Int} {k : Nat} (hk : hgt r = .some k) :
    Calls Try.prog 12 #[.pointer (some ⟨p, 0, none⟩), .int .u64 r, .int .i64 ((k : Int) + 1)] w fun e w' => e = .returned (.tuple #[.int .u64 0, .int .i64 0, .bool false]) ∧ w.grownBy w' none := by
  have hr := grow_range h.1.2.1 hk
  refine (at_H h.1.1 (h.inU hr.1 hr.2) _).mono ?_
  rintro e w' ⟨rfl, _, hg⟩
  refine ⟨?_, hg⟩
  unfold atF
  rw [hk]
  simp only
  rw [if_neg (by omega)]
  rfl
theorem TAt.below (h : TAt w0 w p b g c q L hgt par P S) {r on : Int} (h1 : 1 ≤ r ∧ r ≤ (L : Int)) (h2 : 1 ≤ on ∧ on ≤ (L : Int)) :
    Calls Try.prog 16 #[.pointer (some ⟨p, 0, none⟩), .int .u64 r, .int .u64 on] w fun e w' => e = .returned (.bool (belowF hgt par r on)) ∧ w.grownBy w' none := by
  refine (below_H h.1.1 (h.inU h1.1 h1.2) (h.inU h2.1 h2.2)).mono ?_
  rintro e w' ⟨rfl, _, hg⟩
  exact ⟨rfl, hg⟩
theorem TAt.mbelow (h : TAt w0 w p b g c q L hgt par P S) {r on : Int} (h1 : 1 ≤ r ∧ r ≤ (L : Int)) (h2 : 1 ≤ on ∧ on ≤ (L : Int)) :
    Calls Try.prog 20 #[.slice (some ⟨g, 0, none⟩) L c, .int .u64 r, .int .u64 on] w fun e w' => e = .returned (.bool (belowF hgt par r on)) ∧ w.grownBy w' none := by
  obtain ⟨k, hk⟩ := h.there h1.1 h1.2
  obtain ⟨ok, _, _, T, _⟩ := h.1.1
  exact mbelow_calls h.1.2.2.1 h.1.2.2.2.2.1 h.1.2.1 T hk h2 h.1.2.2.2.2.2.1
theorem TAt.below99 (h : TAt w0 w p b g c q L hgt par P S) :
    Calls Try.prog 16 #[.pointer (some ⟨p, 0, none⟩), .int .u64 99, .int .u64 1] w fun e w' => e = .returned (.bool false) ∧ w.grownBy w' none := by
  refine (below_H h.1.1 (small_inU (by omega) (by omega)) (small_inU (by omega) (by omega))).mono ?_
  rintro e w' ⟨rfl, _, hg⟩
  refine ⟨?_, hg⟩
  have h99 := h.1.2.1.1 99
  have hl := h.1.2.2.2.2.1
  rw [decide_eq_false (by omega)] at h99
  have h99' : hgt 99 = none := by simpa using h99
  unfold belowF
  rw [h.1.2.1.2.1]
  simp only
  unfold atF
  rw [h99']
  rfl
theorem TAt.below1 (h : TAt w0 w p b g c q L hgt par P S) :
    Calls Try.prog 16 #[.pointer (some ⟨p, 0, none⟩), .int .u64 1, .int .u64 99] w fun e w' => e = .returned (.bool false) ∧ w.grownBy w' none := by
  refine (below_H h.1.1 (small_inU (by omega) (by omega)) (small_inU (by omega) (by omega))).mono ?_
  rintro e w' ⟨rfl, _, hg⟩
  refine ⟨?_, hg⟩
  have h99 := h.1.2.1.1 99
  have hl := h.1.2.2.2.2.1
  rw [decide_eq_false (by omega)] at h99
  have h99' : hgt 99 = none := by simpa using h99
  unfold belowF
  rw [h99']
theorem TAt.addNot (h : TAt w0 w p b g c q L hgt par P S) :
    Calls Try.prog 11 #[.pointer (some ⟨p, 0, none⟩), .int .u64 50, .int .u64 99] w fun e w' => e = .returned (.bool false) ∧ w.grownBy w' none := by
  have h99 := h.1.2.1.1 99
  have hl := h.1.2.2.2.2.1
  rw [decide_eq_false (by omega)] at h99
  have h99' : hgt 99 = none := by simpa using h99
  refine (add_not_H h.1.1 (small_inU (by omega) (by omega)) (small_inU (by omega) (by omega)) (Or.inl h99')).mono ?_
  rintro e w' ⟨rfl, _, hg⟩
  exact ⟨rfl, hg⟩
theorem TAt.len (h : TAt w0 w p b g c q L hgt par P S) :
    Calls Try.prog 15 #[.pointer (some ⟨p, 0, none⟩)] w fun e w' => e = .returned (.int .i64 (L : Int)) ∧ w = w' := len_H h.1.1
theorem TAt.grown (h : TAt w0 w p b g c q L hgt par P S) : w0.grownBy w none := h.1.1.grown
end
end Go.Proofs.Ytjoglfoioiedbaa
