/- Contracts of package skip: Of, Height, Len, over a list whose map is known by heights and parents. -/
import Derived.Test.YtndfpmboanohcaaGreatDoorRaw
import Derived.Test.YtndfpmboanohcaaGreatDoorTree
import Derived.Maps.Range
import Derived.Lib.Hide
import Derived.BigQuiet
import Derived.Deep.QuietTactic
namespace Go.Proofs.YtndfpmboanohcaaGreatDoor
set_option maxRecDepth 100000
open Go.RowKit Go.Maps SkipPure

/-- A row of uint64 that a slice leads to. -/
def RowAt (w : World) (ok : Nat → Prop) (a : Option Addr) (c : Nat) (xs : List Int) : Prop :=
  (xs = [] ∧ a = none ∧ c = 0) ∨ ∃ g, a = some ⟨g, 0, none⟩ ∧ 0 < xs.length ∧ xs.length ≤ c ∧ ok g ∧ ∀ i, i < xs.length → w.cell? ⟨g, i, none⟩ = some (.int .u64 (xs.getD i 0))

def node (h : Nat) (a : Option Addr) (l c : Nat) : Value := .agg #[.int .i64 (h : Int), .slice a l c]
def zeroNode : Value := .agg #[.int .i64 0, .slice none 0 0]

def NodeAt (w : World) (ok : Nat → Prop) (hgt : Int → Option Nat) (par : Int → Int) (r : Int) (f : Option Value) : Prop :=
  match hgt r with
  | none => f = none
  | some h => ∃ a c, f = some (node h a (blen h) c) ∧ RowAt w ok a c (js par r h)

/-- What p leads to is a list of n blocks, of these heights and parents. -/
def SkipAt (w : World) (ok : Nat → Prop) (p b n : Nat) (hgt : Int → Option Nat) (par : Int → Int) : Prop :=
  ok p ∧ ok b ∧ p ≠ b ∧ w.heap[p]? = some (.cells #[.map (some b)] 86 (0, 0)) ∧ ∃ F, RawMap Tryz.prog 27 w b n F ∧ ∀ r, inU r → NodeAt w ok hgt par r (F r)

theorem zero52 (w : World) : (zeroValue 83).run Tryz.prog w = .ok (.agg #[.int .i64 0, .slice none 0 0]) w := by kernel_rfl

theorem cell_p {w : World} {ok : Nat → Prop} {p b n : Nat} {hgt : Int → Option Nat} {par : Int → Int} (h : SkipAt w ok p b n hgt par) : w.cell? ⟨p, 0, none⟩ = some (.map (some b)) := by
  obtain ⟨_, _, _, h, _⟩ := h
  simp [World.cell?, h]

theorem height_calls {w : World} {ok : Nat → Prop} {p b n : Nat} {hgt : Int → Option Nat} {par : Int → Int} (h : SkipAt w ok p b n hgt par) {r : Int} (hr : inU r) :
    Calls Tryz.prog 9 #[.pointer (some ⟨p, 0, none⟩), .int .u64 r] w fun e w' => e = .returned (.tuple #[.int .i64 ((hgt r).getD 0 : Nat), .bool (hgt r).isSome]) ∧ w.grownBy w' none := by
  have c0 := cell_p h
  obtain ⟨_, _, _, _, F, hF, hN⟩ := h
  have hl := hF.look_ok Tryz.underlying27 Tryz.underlying84 (zero52 w) hr
  have hn := hN r hr
  clear hN hF
  unfold NodeAt at hn
  cases hh : hgt r with
  | none =>
    rw [hh] at hn
    simp only at hn
    rw [hn] at hl
    clear hn hh
    simp only [Option.getD_none, Option.isSome_none] at hl ⊢
    go_enter Tryz.func9, Tryz.ntmps9
    go_wp2
    go_ret2
    exact ⟨rfl, World.grownBy_alloc _ _ _⟩
  | some k =>
    rw [hh] at hn
    simp only at hn
    obtain ⟨a, c, hs, _⟩ := hn
    rw [hs] at hl
    clear hs hh
    simp only [node, Option.getD_some, Option.isSome_some] at hl ⊢
    go_enter Tryz.func9, Tryz.ntmps9
    go_wp2
    go_ret2
    exact ⟨rfl, World.grownBy_alloc _ _ _⟩

def hgtOne (r : Int) : Int → Option Nat := fun x => if x = r then some 0 else none

theorem of_calls (w : World) {r : Int} (hr : inU r) :
    Calls Tryz.prog 7 #[.int .u64 r] w fun e w' => ∃ p b, e = .returned (.pointer (some ⟨p, 0, none⟩)) ∧ SkipAt w' (fun k => w.heap.size ≤ k ∧ k < w'.heap.size) p b 1 (hgtOne r) (fun x => x) ∧ w.grownBy w' none := by
  have hmm := @run_makeMap Tryz.prog
  go_enter Tryz.func7, Tryz.ntmps7
  go_wp2_with (refine wpList_store_raw (RawMap.made Tryz.prog 27 _) rfl _ _ _ 84 (Or.inr rfl) Tryz.underlying27 Tryz.underlying84 (by unfold maxLen; omega) hr rfl _ rfl rfl rfl ?_; intro w1 hF hg)
  have hlt : w.heap.size < w1.heap.size := by have := hg.size; simp at this; omega
  go_ret
  refine ⟨w1.heap.size, w.heap.size, rfl, ⟨⟨Nat.le_of_lt hlt, by simp⟩, ⟨Nat.le_refl _, by simp; omega⟩, by omega, (MapKept.heap_alloc w1 _).1, _, hF.kept (World.grownBy_alloc w1 _ none) (by simp), fun x hx => ?_⟩, ?_⟩
  · unfold NodeAt hgtOne upd
    by_cases e : x = r
    · subst e
      simp only [if_true]
      exact ⟨none, 0, rfl, Or.inl ⟨rfl, rfl, rfl⟩⟩
    · simp only [e, if_false]
  · refine ((World.grownBy_alloc w _ none).andThen hg (fun j e => Or.inl ?_)).andThen (World.grownBy_alloc w1 _ none) (fun j e => by cases e)
    cases e
    exact Nat.le_refl _
end Go.Proofs.YtndfpmboanohcaaGreatDoor
