/- Contracts of slices.Sort at uint64, at no more than two elements. -/
import Derived.Test.YtndfpmboanohcaaGreatDoorTree2
import Derived.Shelf.Small.Bits
namespace Go.Proofs.YtndfpmboanohcaaGreatDoor
set_option maxRecDepth 100000
open Go.RowKit Go.Maps SkipPure

theorem gweak {w w' : World} {row : Option Nat} (h : w.grownBy w' none) : w.grownBy w' row := ⟨h.os, h.tape, h.output, h.size, fun i hi _ => h.block i hi (by simp)⟩

theorem nan_calls (x : Int) (w : World) : Calls Tryz.prog 118 #[.int .u64 x] w fun e w' => e = .returned (.bool false) ∧ w = w' := by
  go_enter Tryz.func118, Tryz.ntmps118
  go_wp2
  go_ret
  exact ⟨by simp, rfl⟩

theorem less_calls (x y : Int) (w : World) : Calls Tryz.prog 99 #[.int .u64 x, .int .u64 y] w fun e w' => e = .returned (.bool (decide (x < y))) ∧ w = w' := by
  go_enter Tryz.func99, Tryz.ntmps99
  go_wp2_with (go_at_call 118; refine (nan_calls _ _).mono ?_; rintro e w' ⟨rfl, rfl⟩)
  go_ret
  exact ⟨by simp, rfl⟩

/-- insertionSort at no more than one element. -/
theorem ins_one (g c n : Nat) (w : World) (hn : n ≤ 1) : Calls Tryz.prog 93 #[.slice (some ⟨g, 0, none⟩) n c, .int .i64 0, .int .i64 (n : Int)] w fun e w' => e = .returned (.tuple #[]) ∧ w = w' := by
  have h1 : decide ((1 : Int) < (n : Int)) = false := decide_eq_false (by omega)
  go_enter Tryz.func93, Tryz.ntmps93
  go_wp2
  refine wp_loop_rounds 1 ?_
  rw [rounds_succ]
  go_wp2
  go_end0
  exact ⟨rfl, rfl⟩

theorem ins_two {w : World} {B g c : Nat} {x y : Int} (h : w.ownsRow B 27 1 (.slice (some ⟨g, 0, none⟩) 2 c) 2 [.int .u64 x, .int .u64 y]) :
    Calls Tryz.prog 93 #[.slice (some ⟨g, 0, none⟩) 2 c, .int .i64 0, .int .i64 2] w fun e w' => e = .returned (.tuple #[]) ∧ w'.ownsRow B 27 1 (.slice (some ⟨g, 0, none⟩) 2 c) 2 (if y < x then [.int .u64 y, .int .u64 x] else [.int .u64 x, .int .u64 y]) ∧ w.grownBy w' (some g) := by
  have c0 : w.cell? ⟨g, 0, none⟩ = some (.int .u64 x) := h.cellAt 0 (by decide)
  have c1 : w.cell? ⟨g, 1, none⟩ = some (.int .u64 y) := h.cellAt 1 (by decide)
  have f0 := h.frozenAt 0
  have f1 := h.frozenAt 1
  have hw0 : IntKind.i64.wrap 0 = 0 := by decide
  have H := Lib.hid h
  clear h
  by_cases hlt : y < x
  · have hd : decide (y < x) = true := decide_eq_true hlt
    go_enter Tryz.func93, Tryz.ntmps93
    go_wp2
    refine wp_loop_rounds 2 ?_
    rw [rounds_succ]
    go_wp2
    refine wp_loop_rounds 2 ?_
    rw [rounds_succ]
    go_wp2
    go_quiet ((go_at_call 99; refine Calls.quiet_of_same ((less_calls _ _ _).mono fun _ _ ⟨h1, h2⟩ => ⟨h1, h2.symm⟩)))
    go_wp2
    have d0 : (w.drewN nq).cell? ⟨g, 0, none⟩ = some (.int .u64 x) := c0
    have d1 : (w.drewN nq).cell? ⟨g, 1, none⟩ = some (.int .u64 y) := c1
    have e0 : (w.drewN nq).frozen? ⟨g, 0, none⟩ = false := f0
    have e1 : (w.drewN nq).frozen? ⟨g, 1, none⟩ = false := f1
    have HD := Lib.hid (drewN_grown w nq)
    have HO := Lib.hid (H.out.kept HD.out (by simp [Value.ownBlock]))
    clear c0 c1 f0 f1
    generalize w.drewN nq = wd at *
    go_region
    have h1 := HO.out.stored 1 (.int .u64 x)
    have h2 := h1.1.stored 0 (.int .u64 y)
    have HF := Lib.hid (show ((wd.setCell ⟨g, 1, none⟩ (Value.int IntKind.u64 x)).setCell ⟨g, 0, none⟩ (Value.int IntKind.u64 y)).drew.ownsRow B 27 1 (.slice (some ⟨g, 0, none⟩) 2 c) 2 [.int .u64 y, .int .u64 x] from h2.1.drew)
    have HG := Lib.hid (gdrew (((gweak (row := some g) HD.out).andThen h1.2 (fun j e => Or.inr e)).andThen h2.2 (fun j e => Or.inr e)))
    clear h1 h2 d0 d1 e0 e1
    generalize ((wd.setCell ⟨g, 1, none⟩ (Value.int IntKind.u64 x)).setCell ⟨g, 0, none⟩ (Value.int IntKind.u64 y)).drew = wf at HF HG ⊢
    go_wp2
    rw [rounds_succ]
    go_wp2
    go_quiet (fail)
    have HW := Lib.hid (HF.out.kept (drewN_grown wf nq) (by simp [Value.ownBlock]))
    have HX := Lib.hid (HG.out.andThen (drewN_grown wf nq) (fun j e => by cases e))
    generalize wf.drewN nq = wg at *
    go_wp2
    rw [rounds_succ]
    go_wp2
    go_end0
    exact ⟨rfl, HW.out, HX.out⟩
  · have hd : decide (y < x) = false := decide_eq_false hlt
    go_enter Tryz.func93, Tryz.ntmps93
    go_wp2
    refine wp_loop_rounds 2 ?_
    rw [rounds_succ]
    go_wp2
    refine wp_loop_rounds 2 ?_
    rw [rounds_succ]
    go_wp2
    go_quiet ((go_at_call 99; refine Calls.quiet_of_same ((less_calls _ _ _).mono fun _ _ ⟨h1, h2⟩ => ⟨h1, h2.symm⟩)))
    have HW := Lib.hid (H.out.kept (drewN_grown w nq) (by simp [Value.ownBlock]))
    have HX := Lib.hid (gweak (row := some g) (drewN_grown w nq))
    clear c0 c1 f0 f1
    generalize w.drewN nq = wg at *
    go_wp2
    rw [rounds_succ]
    go_wp2
    go_end0
    exact ⟨rfl, HW.out, HX.out⟩

end Go.Proofs.YtndfpmboanohcaaGreatDoor
namespace Go.Proofs
open Go.Shelf
def Tryz.bitsLen_ren : Go.Shelf.Ren := ⟨fun | 125 => 89 | 128 => 102 | 129 => 103 | n => n, fun | 46 => 229 | 3 => 3 | 51 => 240 | 53 => 27 | 4 => 4 | 5 => 5 | 9 => 9 | n => n, fun n => n⟩
theorem Tryz.bitsLen : Lays.n125 Tryz.prog Tryz.bitsLen_ren where
  mixed := by kernel_rfl
  f125 := Tryz.func89.trans (congrArg some (by kernel_rfl))
  f128 := Tryz.func102.trans (congrArg some (by kernel_rfl))
  f129 := Tryz.func103.trans (congrArg some (by kernel_rfl))
  t3 := Tryz.underlying3
  a3 := Tryz.isAgg3
  z3 := Tryz.sizeOf3
  v3 := Tryz.zeroValue3
  t4 := Tryz.underlying4
  a4 := Tryz.isAgg4
  z4 := Tryz.sizeOf4
  v4 := Tryz.zeroValue4
  t5 := Tryz.underlying5
  a5 := Tryz.isAgg5
  z5 := Tryz.sizeOf5
  v5 := Tryz.zeroValue5
  t9 := Tryz.underlying9
  a9 := Tryz.isAgg9
  z9 := Tryz.sizeOf9
  v9 := Tryz.zeroValue9
  t46 := Tryz.underlying229
  a46 := Tryz.isAgg229
  z46 := Tryz.sizeOf229
  v46 := Tryz.zeroValue229
  t51 := Tryz.underlying240
  a51 := Tryz.isAgg240
  z51 := Tryz.sizeOf240
  v51 := Tryz.zeroValue240
  t53 := Tryz.underlying27
  a53 := Tryz.isAgg27
  z53 := Tryz.sizeOf27
  v53 := Tryz.zeroValue27
end Go.Proofs
namespace Go.Proofs.YtndfpmboanohcaaGreatDoor
open Go.RowKit Go.Maps SkipPure Go.Shelf
theorem bitlen_calls (n : Nat) (w : World) (h : n ≤ 1000000) : Calls Tryz.prog 89 #[.int .u64 n] w fun e w' => (∃ l : Int, e = .returned (.int .i64 l)) ∧ w = w' :=
  (Any.bits_Len Tryz.bitsLen n w (by omega) (by omega)).mono fun _ _ ⟨he, hw⟩ => ⟨⟨_, he⟩, hw.symm⟩

theorem pdq_one (g c n : Nat) (l : Int) (w : World) (hn : n ≤ 1) : Calls Tryz.prog 88 #[.slice (some ⟨g, 0, none⟩) n c, .int .i64 0, .int .i64 (n : Int), .int .i64 l] w fun e w' => e = .returned (.tuple #[]) ∧ w = w' := by
  go_enter Tryz.func88, Tryz.ntmps88
  go_wp2
  refine wp_loop_rounds 1 ?_
  rw [rounds_succ]
  go_wp2_with fail
  refine (ins_one g c n w hn).mono ?_
  rintro e w' ⟨rfl, rfl⟩
  go_wp2
  (try simp only [Exit.inBlock, Exit.then]); refine bodyPost_ret (results_none rfl _ _ _) rfl ?_
  exact ⟨rfl, rfl⟩

theorem sort_one (g c n : Nat) (w : World) (hn : n ≤ 1) : Calls Tryz.prog 80 #[.slice (some ⟨g, 0, none⟩) n c] w fun e w' => e = .returned (.tuple #[]) ∧ w = w' := by
  go_enter Tryz.func80, Tryz.ntmps80
  go_wp2_with fail
  refine (bitlen_calls n w (by omega)).mono ?_
  rintro e w' ⟨⟨l, rfl⟩, rfl⟩
  go_wp2_with fail
  refine (pdq_one g c n l w hn).mono ?_
  rintro e w' ⟨rfl, rfl⟩
  go_wp2
  go_end0
  exact ⟨rfl, rfl⟩

theorem pdq_two {w : World} {B g c : Nat} {x y : Int} (l : Int) (h : w.ownsRow B 27 1 (.slice (some ⟨g, 0, none⟩) 2 c) 2 [.int .u64 x, .int .u64 y]) :
    Calls Tryz.prog 88 #[.slice (some ⟨g, 0, none⟩) 2 c, .int .i64 0, .int .i64 2, .int .i64 l] w fun e w' => e = .returned (.tuple #[]) ∧ w'.ownsRow B 27 1 (.slice (some ⟨g, 0, none⟩) 2 c) 2 (if y < x then [.int .u64 y, .int .u64 x] else [.int .u64 x, .int .u64 y]) ∧ w.grownBy w' (some g) := by
  have hi := ins_two h
  generalize (if y < x then [Value.int IntKind.u64 y, Value.int IntKind.u64 x] else [Value.int IntKind.u64 x, Value.int IntKind.u64 y]) = zs at hi ⊢
  have I := Lib.hid hi
  clear hi h
  go_enter Tryz.func88, Tryz.ntmps88
  go_wp2
  refine wp_loop_rounds 1 ?_
  rw [rounds_succ]
  go_wp2_with fail
  refine I.out.mono ?_
  rintro e w' ⟨rfl, h1, h2⟩
  have H1 := Lib.hid h1
  have H2 := Lib.hid h2
  clear h1 h2
  go_wp2
  (try simp only [Exit.inBlock, Exit.then]); refine bodyPost_ret (results_none rfl _ _ _) rfl ?_
  exact ⟨rfl, H1.out, H2.out⟩

theorem sort_two {w : World} {B g c : Nat} {x y : Int} (h : w.ownsRow B 27 1 (.slice (some ⟨g, 0, none⟩) 2 c) 2 [.int .u64 x, .int .u64 y]) :
    Calls Tryz.prog 80 #[.slice (some ⟨g, 0, none⟩) 2 c] w fun e w' => e = .returned (.tuple #[]) ∧ w'.ownsRow B 27 1 (.slice (some ⟨g, 0, none⟩) 2 c) 2 (if y < x then [.int .u64 y, .int .u64 x] else [.int .u64 x, .int .u64 y]) ∧ w.grownBy w' (some g) := by
  have hi := fun l => pdq_two l h
  generalize (if y < x then [Value.int IntKind.u64 y, Value.int IntKind.u64 x] else [Value.int IntKind.u64 x, Value.int IntKind.u64 y]) = zs at hi ⊢
  have I := Lib.hid hi
  clear hi h
  go_enter Tryz.func80, Tryz.ntmps80
  go_wp2_with fail
  refine (bitlen_calls 2 w (by omega)).mono ?_
  rintro e w' ⟨⟨l, rfl⟩, rfl⟩
  go_wp2_with fail
  refine (I.out l).mono ?_
  rintro e w' ⟨rfl, h1, h2⟩
  have H1 := Lib.hid h1
  have H2 := Lib.hid h2
  clear h1 h2
  go_wp2
  go_end0
  exact ⟨rfl, H1.out, H2.out⟩
end Go.Proofs.YtndfpmboanohcaaGreatDoor
