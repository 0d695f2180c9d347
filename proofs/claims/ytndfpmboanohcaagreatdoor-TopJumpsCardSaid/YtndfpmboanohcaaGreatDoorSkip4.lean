/- Contracts of (*skip.List).At in one word, of Below, of the law's own ones and awake. -/
import Derived.Test.YtndfpmboanohcaaGreatDoorSkip3
namespace Go.Proofs.YtndfpmboanohcaaGreatDoor
set_option maxRecDepth 100000
open Go.RowKit Go.Maps SkipPure

/-- What At answers. -/
def atF (hgt : Int → Option Nat) (par : Int → Int) (r at_ : Int) : Int × Nat × Bool :=
  match hgt r with
  | none => (0, 0, false)
  | some k => if 0 ≤ at_ ∧ at_ ≤ k then (anc par r (k - at_.toNat), pop (k - at_.toNat), true) else (0, 0, false)

theorem at_any {w : World} {ok : Nat → Prop} {p b n : Nat} {hgt : Int → Option Nat} {par : Int → Int} (h : SkipAt w ok p b n hgt par) (hok : ∀ j, ok j → j < w.heap.size) (T : Tree hgt par) (K : Keys hgt) {r : Int} (hr : inU r) (at_ : Int) :
    Calls Tryz.prog 10 #[.pointer (some ⟨p, 0, none⟩), .int .u64 r, .int .i64 at_] w fun e w' => e = .returned (.tuple #[.int .u64 (atF hgt par r at_).1, .int .i64 ((atF hgt par r at_).2.1 : Nat), .bool (atF hgt par r at_).2.2]) ∧ w.grownBy w' none := by
  unfold atF
  cases hh : hgt r with
  | none => exact at_none h hr hh
  | some k =>
    by_cases hc : 0 ≤ at_ ∧ at_ ≤ k
    · obtain ⟨m, rfl⟩ := Int.eq_ofNat_of_zero_le hc.1
      simp only [hc, and_self, if_true, Int.toNat_natCast]
      exact at_in h hok T K hh (by omega)
    · simp only [hc, if_false]
      exact at_out h hr hh (by omega)

/-- What Below answers. -/
def belowF (hgt : Int → Option Nat) (par : Int → Int) (r on : Int) : Bool :=
  match hgt on with
  | none => false
  | some h => (atF hgt par r (h : Int)).2.2 && ((atF hgt par r (h : Int)).1 == on)

theorem below_calls {w : World} {ok : Nat → Prop} {p b n : Nat} {hgt : Int → Option Nat} {par : Int → Int} (h : SkipAt w ok p b n hgt par) (hok : ∀ j, ok j → j < w.heap.size) (T : Tree hgt par) (K : Keys hgt) {r on : Int} (hr : inU r) (ho : inU on) :
    Calls Tryz.prog 11 #[.pointer (some ⟨p, 0, none⟩), .int .u64 r, .int .u64 on] w fun e w' => e = .returned (.bool (belowF hgt par r on)) ∧ w.grownBy w' none := by
  have HH := Lib.hid h
  have HT := Lib.hid T
  have HK := Lib.hid K
  have HOK := Lib.hid hok
  clear h T K hok
  unfold belowF
  cases hh : hgt on with
  | none =>
    have H1 := Lib.hid hh
    clear hh
    go_enter Tryz.func11, Tryz.ntmps11
    go_wp2_with fail
    refine (height_calls HH.out ho).mono ?_
    rintro e w1 ⟨rfl, hg1⟩
    rw [H1.out]
    simp only [Option.getD_none, Option.isSome_none]
    go_wp2_with fail
    refine (at_any (HH.out.kept hg1 (fun j e => by cases e)) (fun j h => Nat.lt_of_lt_of_le (HOK.out j h) hg1.size) HT.out HK.out hr _).mono ?_
    rintro e w2 ⟨rfl, hg2⟩
    generalize atF hgt par r _ = x
    go_wp2
    go_ret
    exact ⟨by simp, hg1.andThen hg2 (fun j e => by cases e)⟩
  | some m =>
    have H1 := Lib.hid hh
    clear hh
    go_enter Tryz.func11, Tryz.ntmps11
    go_wp2_with fail
    refine (height_calls HH.out ho).mono ?_
    rintro e w1 ⟨rfl, hg1⟩
    rw [H1.out]
    simp only [Option.getD_some, Option.isSome_some]
    go_wp2_with fail
    refine (at_any (HH.out.kept hg1 (fun j e => by cases e)) (fun j h => Nat.lt_of_lt_of_le (HOK.out j h) hg1.size) HT.out HK.out hr _).mono ?_
    rintro e w2 ⟨rfl, hg2⟩
    simp only
    obtain ⟨v, hv⟩ : ∃ v, v = (atF hgt par r (m : Int)).1 := ⟨_, rfl⟩
    obtain ⟨s, hs⟩ : ∃ s, s = (atF hgt par r (m : Int)).2.2 := ⟨_, rfl⟩
    rw [← hv, ← hs]
    have HV := Lib.hid hv
    have HS := Lib.hid hs
    clear hv hs
    generalize (atF hgt par r (m : Int)).2.1 = jj
    cases s with
    | false =>
      go_wp2
      go_ret
      exact ⟨by rw [← HV.out, ← HS.out]; simp, hg1.andThen hg2 (fun j e => by cases e)⟩
    | true =>
      go_wp2
      go_ret
      exact ⟨by rw [← HV.out, ← HS.out]; simp, hg1.andThen hg2 (fun j e => by cases e)⟩

/-- A list of the call's own, of these heights and parents. -/
def Holds (w0 w : World) (p b n : Nat) (hgt : Int → Option Nat) (par : Int → Int) : Prop :=
  ∃ ok, SkipAt w ok p b n hgt par ∧ (∀ j, ok j → w0.heap.size ≤ j ∧ j < w.heap.size) ∧ Tree hgt par ∧ Keys hgt ∧ w0.grownBy w none

section
variable {w0 w : World} {p b n : Nat} {hgt : Int → Option Nat} {par : Int → Int}

theorem Holds.kept {w' : World} (h : Holds w0 w p b n hgt par) (hg : w.grownBy w' none) : Holds w0 w' p b n hgt par := by
  obtain ⟨ok, h1, h2, h3, h4, h5⟩ := h
  exact ⟨ok, h1.kept hg (fun j e => by cases e), fun j hj => ⟨(h2 j hj).1, Nat.lt_of_lt_of_le (h2 j hj).2 hg.size⟩, h3, h4, h5.andThen hg (fun j e => by cases e)⟩

theorem of_H (hg : w0.grownBy w none) {r : Int} (hr : inU r) :
    Calls Tryz.prog 7 #[.int .u64 r] w fun e w' => ∃ p b, e = .returned (.pointer (some ⟨p, 0, none⟩)) ∧ Holds w0 w' p b 1 (hgtOne r) (fun x => x) ∧ w.grownBy w' none := by
  refine (of_calls w hr).mono ?_
  rintro e w' ⟨p, b, rfl, hs, hg'⟩
  refine ⟨p, b, rfl, ⟨_, hs, fun j hj => ⟨Nat.le_trans hg.size hj.1, hj.2⟩, fun x h hx => ?_, fun x h hx => ?_, hg.andThen hg' (fun j e => by cases e)⟩, hg'⟩
  · unfold hgtOne at hx
    split at hx
    · cases hx
    · cases hx
  · unfold hgtOne at hx
    split at hx
    · rename_i e
      subst e
      cases hx
      exact ⟨hr, by omega⟩
    · cases hx

theorem add_H (h : Holds w0 w p b n hgt par) (hn : n < 1099511627776) {root parent : Int} (hr : inU root) {k : Nat} (hk : k < 1099511627775) (hq : hgt parent = some k) (hx : hgt root = none) :
    Calls Tryz.prog 8 #[.pointer (some ⟨p, 0, none⟩), .int .u64 root, .int .u64 parent] w fun e w' => e = .returned (.bool true) ∧ Holds w0 w' p b (n + 1) (setHgt hgt root (k + 1)) (setPar par root parent) ∧ w.grownBy w' (some b) := by
  obtain ⟨ok, h1, h2, h3, h4, h5⟩ := h
  refine (add_yes h1 (fun j hj => (h2 j hj).2) h3 h4 hn hr hk hq hx).mono ?_
  rintro e w' ⟨rfl, hg, hs⟩
  have hb := (h2 b h1.2.1).1
  refine ⟨rfl, ⟨_, hs, fun j hj => ?_, h3.set hx hq, fun x m hm => ?_, h5.andThen hg (fun j e => Or.inl (by cases e; exact hb))⟩, hg⟩
  · rcases hj with hj | hj
    · exact ⟨(h2 j hj).1, Nat.lt_of_lt_of_le (h2 j hj).2 hg.size⟩
    · exact ⟨Nat.le_trans h5.size hj.1, hj.2⟩
  · unfold setHgt at hm
    split at hm
    · rename_i e
      subst e
      cases hm
      exact ⟨hr, by omega⟩
    · exact h4 x m hm

theorem add_not_H (h : Holds w0 w p b n hgt par) {root parent : Int} (hr : inU root) (hp : inU parent) (hno : hgt parent = none ∨ (hgt root).isSome = true) :
    Calls Tryz.prog 8 #[.pointer (some ⟨p, 0, none⟩), .int .u64 root, .int .u64 parent] w fun e w' => e = .returned (.bool false) ∧ Holds w0 w' p b n hgt par ∧ w.grownBy w' none := by
  have h' := h
  obtain ⟨ok, h1, _⟩ := h
  refine (add_no h1 hr hp hno).mono ?_
  rintro e w' ⟨rfl, hg⟩
  exact ⟨rfl, h'.kept hg, hg⟩

theorem height_H (h : Holds w0 w p b n hgt par) {r : Int} (hr : inU r) :
    Calls Tryz.prog 9 #[.pointer (some ⟨p, 0, none⟩), .int .u64 r] w fun e w' => e = .returned (.tuple #[.int .i64 ((hgt r).getD 0 : Nat), .bool (hgt r).isSome]) ∧ Holds w0 w' p b n hgt par ∧ w.grownBy w' none := by
  have h' := h
  obtain ⟨ok, h1, _⟩ := h
  refine (height_calls h1 hr).mono ?_
  rintro e w' ⟨rfl, hg⟩
  exact ⟨rfl, h'.kept hg, hg⟩

theorem at_H (h : Holds w0 w p b n hgt par) {r : Int} (hr : inU r) (at_ : Int) :
    Calls Tryz.prog 10 #[.pointer (some ⟨p, 0, none⟩), .int .u64 r, .int .i64 at_] w fun e w' => e = .returned (.tuple #[.int .u64 (atF hgt par r at_).1, .int .i64 ((atF hgt par r at_).2.1 : Nat), .bool (atF hgt par r at_).2.2]) ∧ Holds w0 w' p b n hgt par ∧ w.grownBy w' none := by
  have h' := h
  obtain ⟨ok, h1, h2, h3, h4, _⟩ := h
  refine (at_any h1 (fun j hj => (h2 j hj).2) h3 h4 hr at_).mono ?_
  rintro e w' ⟨rfl, hg⟩
  exact ⟨rfl, h'.kept hg, hg⟩

theorem below_H (h : Holds w0 w p b n hgt par) {r on : Int} (hr : inU r) (ho : inU on) :
    Calls Tryz.prog 11 #[.pointer (some ⟨p, 0, none⟩), .int .u64 r, .int .u64 on] w fun e w' => e = .returned (.bool (belowF hgt par r on)) ∧ Holds w0 w' p b n hgt par ∧ w.grownBy w' none := by
  have h' := h
  obtain ⟨ok, h1, h2, h3, h4, _⟩ := h
  refine (below_calls h1 (fun j hj => (h2 j hj).2) h3 h4 hr ho).mono ?_
  rintro e w' ⟨rfl, hg⟩
  exact ⟨rfl, h'.kept hg, hg⟩

end

/-- A line of blocks from a on, up to below k. -/
def Line (hgt : Int → Option Nat) (par : Int → Int) (a k : Int) : Prop :=
  (∀ x, hgt x = if a ≤ x ∧ x < k then some (x - a).toNat else none) ∧ ∀ x, a < x → x < k → par x = x - 1

theorem line_one (a : Int) : Line (hgtOne a) (fun x => x) a (a + 1) := by
  refine ⟨fun x => ?_, fun x h1 h2 => by omega⟩
  unfold hgtOne
  by_cases e : x = a
  · rw [if_pos e, if_pos (by omega)]; congr 1; omega
  · rw [if_neg e, if_neg (by omega)]

theorem Line.next {hgt : Int → Option Nat} {par : Int → Int} {a k : Int} (h : Line hgt par a k) (hk : a < k) : Line (setHgt hgt k ((k - 1 - a).toNat + 1)) (setPar par k (k - 1)) a (k + 1) := by
  refine ⟨fun x => ?_, fun x h1 h2 => ?_⟩
  · unfold setHgt
    by_cases e : x = k
    · rw [if_pos e, if_pos (by omega)]; congr 1; omega
    · rw [if_neg e, h.1 x]
      by_cases c : a ≤ x ∧ x < k
      · rw [if_pos c, if_pos (by omega)]
      · rw [if_neg c, if_neg (by omega)]
  · unfold setPar
    by_cases e : x = k
    · rw [if_pos e, e]
    · rw [if_neg e, h.2 x h1 (by omega)]

theorem Line.anc {hgt : Int → Option Nat} {par : Int → Int} {a k : Int} (h : Line hgt par a k) {x : Int} (hx : x < k) : ∀ d : Nat, a ≤ x - d → SkipPure.anc par x d = x - d
  | 0, _ => by simp [SkipPure.anc]
  | d + 1, hd => by
    rw [SkipPure.anc, h.anc hx d (by omega), h.2 (x - d) (by omega) (by omega)]
    omega

end Go.Proofs.YtndfpmboanohcaaGreatDoor
