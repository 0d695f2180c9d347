/- Contracts of slices.Sort at uint64, at no more than two elements. -/
import Derived.Test.YtndfpmboanohcaaGreatDoorTree1ToTree2
import Derived.Shelf.Small.Bits
import Derived.Shelf.AbstractIn
import Derived.RangeFuncSeq
import Derived.RangeFuncGives
import Derived.Sort.MapsRangeIn
import Derived.Sort.KeysCollected
import Derived.Maps.AppendAt
import Derived.OwnWalkIn
import Derived.TacticsInMore
import Derived.RegionIn
import Derived.LoopNIn
import Derived.LoopIn
import Derived.RangeFuncBox
import Derived.RangeFuncLeaves
import Derived.Shelf.Abstract
namespace Go.Proofs.YtndfpmboanohcaaGreatDoor
set_option maxRecDepth 100000
open Go.RowKit Go.Maps SkipPure
theorem gweak {w w' : World} {row : Option Nat} (h : w.grownBy w' none) : w.grownBy w' row := ⟨h.os, h.tape, h.output, h.size, fun i hi _ => h.block i hi (by simp)⟩
theorem nan_calls (x : Int) (w : World) : Calls Tryz.prog 118 #[.int .u64 x] w fun e w' => e = .returned (.bool false) ∧ w = w' := by
 go_enter Tryz.func118, Tryz.ntmps118
 go_wp2
 go_ret
 exact ⟨by simp, rfl⟩
theorem less_calls (x y : Int) (w : World) : Calls Tryz.prog 99 #[.int .u64 x, .int .u64 y] w fun e w' => e = .returned (.bool (decide (x < y))) ∧ w = w' := by
 go_enter Tryz.func99, Tryz.ntmps99
 go_wp2_with (go_at_call 118; refine (nan_calls _ _).mono ?_; rintro e w' ⟨rfl, rfl⟩)
 go_ret
 exact ⟨by simp, rfl⟩
theorem ins_one (g c n : Nat) (w : World) (hn : n ≤ 1) : Calls Tryz.prog 93 #[.slice (some ⟨g, 0, none⟩) n c, .int .i64 0, .int .i64 (n : Int)] w fun e w' => e = .returned (.tuple #[]) ∧ w = w' := by
 have h1 : decide ((1 : Int) < (n : Int)) = false := decide_eq_false (by omega)
 go_enter Tryz.func93, Tryz.ntmps93
 go_wp2
 refine wp_loop_rounds 1 ?_
 rw [rounds_succ]
 go_wp2
 go_end0
 exact ⟨rfl, rfl⟩
theorem ins_two {w : World} {B g c : Nat} {x y : Int} (h : w.ownsRow B 27 1 (.slice (some ⟨g, 0, none⟩) 2 c) 2 [.int .u64 x, .int .u64 y]) :
  Calls Tryz.prog 93 #[.slice (some ⟨g, 0, none⟩) 2 c, .int .i64 0, .int .i64 2] w fun e w' => e = .returned (.tuple #[]) ∧ w'.ownsRow B 27 1 (.slice (some ⟨g, 0, none⟩) 2 c) 2 (if y < x then [.int .u64 y, .int .u64 x] else [.int .u64 x, .int .u64 y]) ∧ w.grownBy w' (some g) := by
 have c0 : w.cell? ⟨g, 0, none⟩ = some (.int .u64 x) := h.cellAt 0 (by decide)
 have c1 : w.cell? ⟨g, 1, none⟩ = some (.int .u64 y) := h.cellAt 1 (by decide)
 have f0 := h.frozenAt 0
 have f1 := h.frozenAt 1
 have hw0 : IntKind.i64.wrap 0 = 0 := by decide
 have H := lh h
 clear h
 by_cases hlt : y < x
 ·have hd : decide (y < x) = true := decide_eq_true hlt
  go_enter Tryz.func93, Tryz.ntmps93
  go_wp2
  refine wp_loop_rounds 2 ?_
  rw [rounds_succ]
  go_wp2
  refine wp_loop_rounds 2 ?_
  rw [rounds_succ]
  go_wp2
  go_quiet ((go_at_call 99; refine Calls.quiet_of_same ((less_calls _ _ _).mono fun _ _ ⟨h1, h2⟩ => ⟨h1, h2.symm⟩)))
  go_wp2
  have d0 : (w.drewN nq).cell? ⟨g, 0, none⟩ = some (.int .u64 x) := c0
  have d1 : (w.drewN nq).cell? ⟨g, 1, none⟩ = some (.int .u64 y) := c1
  have e0 : (w.drewN nq).frozen? ⟨g, 0, none⟩ = false := f0
  have e1 : (w.drewN nq).frozen? ⟨g, 1, none⟩ = false := f1
  have HD := lh (drewN_grown w nq)
  have HO := lh (H.out.kept HD.out (by simp [Value.ownBlock]))
  clear c0 c1 f0 f1
  generalize w.drewN nq = wd at *
  go_region
  have h1 := HO.out.stored 1 (.int .u64 x)
  have h2 := h1.1.stored 0 (.int .u64 y)
  have HF := lh (show ((wd.setCell ⟨g, 1, none⟩ (Value.int IntKind.u64 x)).setCell ⟨g, 0, none⟩ (Value.int IntKind.u64 y)).drew.ownsRow B 27 1 (.slice (some ⟨g, 0, none⟩) 2 c) 2 [.int .u64 y, .int .u64 x] from h2.1.drew)
  have HG := lh (gdrew (((gweak (row := some g) HD.out).andThen h1.2 (fun j e => Or.inr e)).andThen h2.2 (fun j e => Or.inr e)))
  clear h1 h2 d0 d1 e0 e1
  generalize ((wd.setCell ⟨g, 1, none⟩ (Value.int IntKind.u64 x)).setCell ⟨g, 0, none⟩ (Value.int IntKind.u64 y)).drew = wf at HF HG ⊢
  go_wp2
  rw [rounds_succ]
  go_wp2
  go_quiet (fail)
  have HW := lh (HF.out.kept (drewN_grown wf nq) (by simp [Value.ownBlock]))
  have HX := lh (HG.out.andThen (drewN_grown wf nq) (fun j e => by cases e))
  generalize wf.drewN nq = wg at *
  go_wp2
  rw [rounds_succ]
  go_wp2
  go_end0
  exact ⟨rfl, HW.out, HX.out⟩
 ·have hd : decide (y < x) = false := decide_eq_false hlt
  go_enter Tryz.func93, Tryz.ntmps93
  go_wp2
  refine wp_loop_rounds 2 ?_
  rw [rounds_succ]
  go_wp2
  refine wp_loop_rounds 2 ?_
  rw [rounds_succ]
  go_wp2
  go_quiet ((go_at_call 99; refine Calls.quiet_of_same ((less_calls _ _ _).mono fun _ _ ⟨h1, h2⟩ => ⟨h1, h2.symm⟩)))
  have HW := lh (H.out.kept (drewN_grown w nq) (by simp [Value.ownBlock]))
  have HX := lh (gweak (row := some g) (drewN_grown w nq))
  clear c0 c1 f0 f1
  generalize w.drewN nq = wg at *
  go_wp2
  rw [rounds_succ]
  go_wp2
  go_end0
  exact ⟨rfl, HW.out, HX.out⟩
end Go.Proofs.YtndfpmboanohcaaGreatDoor
namespace Go.Proofs
open Go.Shelf
def Tryz.bitsLen_ren : Go.Shelf.Ren := ⟨fun | 125 => 89 | 128 => 102 | 129 => 103 | n => n, fun | 46 => 229 | 3 => 3 | 51 => 240 | 53 => 27 | 4 => 4 | 5 => 5 | 9 => 9 | n => n, fun n => n⟩
theorem Tryz.bitsLen : Lays.n125 Tryz.prog Tryz.bitsLen_ren where
 mixed := by kernel_rfl
 f125 := Tryz.func89.trans (congrArg some (by kernel_rfl))
 f128 := Tryz.func102.trans (congrArg some (by kernel_rfl))
 f129 := Tryz.func103.trans (congrArg some (by kernel_rfl))
 t3 := Tryz.underlying3
 a3 := Tryz.isAgg3
 z3 := Tryz.sizeOf3
 v3 := Tryz.zeroValue3
 t4 := Tryz.underlying4
 a4 := Tryz.isAgg4
 z4 := Tryz.sizeOf4
 v4 := Tryz.zeroValue4
 t5 := Tryz.underlying5
 a5 := Tryz.isAgg5
 z5 := Tryz.sizeOf5
 v5 := Tryz.zeroValue5
 t9 := Tryz.underlying9
 a9 := Tryz.isAgg9
 z9 := Tryz.sizeOf9
 v9 := Tryz.zeroValue9
 t46 := Tryz.underlying229
 a46 := Tryz.isAgg229
 z46 := Tryz.sizeOf229
 v46 := Tryz.zeroValue229
 t51 := Tryz.underlying240
 a51 := Tryz.isAgg240
 z51 := Tryz.sizeOf240
 v51 := Tryz.zeroValue240
 t53 := Tryz.underlying27
 a53 := Tryz.isAgg27
 z53 := Tryz.sizeOf27
 v53 := Tryz.zeroValue27
end Go.Proofs
namespace Go.Proofs.YtndfpmboanohcaaGreatDoor
open Go.RowKit Go.Maps SkipPure Go.Shelf
theorem bitlen_calls (n : Nat) (w : World) (h : n ≤ 1000000) : Calls Tryz.prog 89 #[.int .u64 n] w fun e w' => (∃ l : Int, e = .returned (.int .i64 l)) ∧ w = w' :=
 (Any.bits_Len Tryz.bitsLen n w (by omega) (by omega)).mono fun _ _ ⟨he, hw⟩ => ⟨⟨_, he⟩, hw.symm⟩
theorem pdq_one (g c n : Nat) (l : Int) (w : World) (hn : n ≤ 1) : Calls Tryz.prog 88 #[.slice (some ⟨g, 0, none⟩) n c, .int .i64 0, .int .i64 (n : Int), .int .i64 l] w fun e w' => e = .returned (.tuple #[]) ∧ w = w' := by
 go_enter Tryz.func88, Tryz.ntmps88
 go_wp2
 refine wp_loop_rounds 1 ?_
 rw [rounds_succ]
 go_wp2_with fail
 refine (ins_one g c n w hn).mono ?_
 rintro e w' ⟨rfl, rfl⟩
 go_wp2
 (try simp only [Exit.inBlock, Exit.then]); refine bodyPost_ret (results_none rfl _ _ _) rfl ?_
 exact ⟨rfl, rfl⟩
theorem sort_one (g c n : Nat) (w : World) (hn : n ≤ 1) : Calls Tryz.prog 80 #[.slice (some ⟨g, 0, none⟩) n c] w fun e w' => e = .returned (.tuple #[]) ∧ w = w' := by
 go_enter Tryz.func80, Tryz.ntmps80
 go_wp2_with fail
 refine (bitlen_calls n w (by omega)).mono ?_
 rintro e w' ⟨⟨l, rfl⟩, rfl⟩
 go_wp2_with fail
 refine (pdq_one g c n l w hn).mono ?_
 rintro e w' ⟨rfl, rfl⟩
 go_wp2
 go_end0
 exact ⟨rfl, rfl⟩
theorem pdq_two {w : World} {B g c : Nat} {x y : Int} (l : Int) (h : w.ownsRow B 27 1 (.slice (some ⟨g, 0, none⟩) 2 c) 2 [.int .u64 x, .int .u64 y]) :
  Calls Tryz.prog 88 #[.slice (some ⟨g, 0, none⟩) 2 c, .int .i64 0, .int .i64 2, .int .i64 l] w fun e w' => e = .returned (.tuple #[]) ∧ w'.ownsRow B 27 1 (.slice (some ⟨g, 0, none⟩) 2 c) 2 (if y < x then [.int .u64 y, .int .u64 x] else [.int .u64 x, .int .u64 y]) ∧ w.grownBy w' (some g) := by
 have hi := ins_two h
 generalize (if y < x then [Value.int IntKind.u64 y, Value.int IntKind.u64 x] else [Value.int IntKind.u64 x, Value.int IntKind.u64 y]) = zs at hi ⊢
 have I := lh hi
 clear hi h
 go_enter Tryz.func88, Tryz.ntmps88
 go_wp2
 refine wp_loop_rounds 1 ?_
 rw [rounds_succ]
 go_wp2_with fail
 refine I.out.mono ?_
 rintro e w' ⟨rfl, h1, h2⟩
 have H1 := lh h1
 have H2 := lh h2
 clear h1 h2
 go_wp2
 (try simp only [Exit.inBlock, Exit.then]); refine bodyPost_ret (results_none rfl _ _ _) rfl ?_
 exact ⟨rfl, H1.out, H2.out⟩
theorem sort_two {w : World} {B g c : Nat} {x y : Int} (h : w.ownsRow B 27 1 (.slice (some ⟨g, 0, none⟩) 2 c) 2 [.int .u64 x, .int .u64 y]) :
  Calls Tryz.prog 80 #[.slice (some ⟨g, 0, none⟩) 2 c] w fun e w' => e = .returned (.tuple #[]) ∧ w'.ownsRow B 27 1 (.slice (some ⟨g, 0, none⟩) 2 c) 2 (if y < x then [.int .u64 y, .int .u64 x] else [.int .u64 x, .int .u64 y]) ∧ w.grownBy w' (some g) := by
 have hi := fun l => pdq_two l h
 generalize (if y < x then [Value.int IntKind.u64 y, Value.int IntKind.u64 x] else [Value.int IntKind.u64 x, Value.int IntKind.u64 y]) = zs at hi ⊢
 have I := lh hi
 clear hi h
 go_enter Tryz.func80, Tryz.ntmps80
 go_wp2_with fail
 refine (bitlen_calls 2 w (by omega)).mono ?_
 rintro e w' ⟨⟨l, rfl⟩, rfl⟩
 go_wp2_with fail
 refine (I.out l).mono ?_
 rintro e w' ⟨rfl, h1, h2⟩
 have H1 := lh h1
 have H2 := lh h2
 clear h1 h2
 go_wp2
 go_end0
 exact ⟨rfl, H1.out, H2.out⟩
end Go.Proofs.YtndfpmboanohcaaGreatDoor
namespace Go.Proofs.YtndfpmboanohcaaGreatDoor
set_option maxRecDepth 100000
open Go.RowKit Go.Maps Go.Sort SkipPure Go.Shelf
abbrev encU : Int → Value := Value.int .u64
theorem encU_inj {x y : Int} (h : encU x = encU y) : x = y := by simpa [encU] using h
theorem inU_wf {x : Int} (h : (Lit.int .u64 x).wf = true) : inU x := by
 simp [Lit.wf, IntKind.min, IntKind.max, IntKind.signed, IntKind.bits] at h
 exact ⟨by omega, by omega⟩
def CollectedU (D0 : DataW Value) (left : Lit → Bool) (ss : List Int) : Prop :=
 ss.Nodup ∧ (∀ x ∈ ss, inU x) ∧ ∀ x, inU x → (x ∈ ss ↔ (has D0 (kk x) = true ∧ left (kk x) = false))
theorem CollectedU.start (D0 : DataW Value) : CollectedU D0 (has D0) [] := ⟨List.nodup_nil, by simp, fun x _ => by cases has D0 (kk x) <;> simp⟩
theorem CollectedU.step {D0 : DataW Value} {left : Lit → Bool} {ss : List Int} (h : CollectedU D0 left ss) {x : Int} {y : DataW Value} (hx : inU x) (hlk : left (kk x) = true) (hat : ∀ zd, D0.atKey (kk x) zd = y) : CollectedU D0 (fun z => left z && !z.sameKey (kk x)) (ss ++ [x]) := by
 have hhas : has D0 (kk x) = true := has_true_of_atKey hat
 have hnew : x ∉ ss := fun hm => by have := ((h.2.2 x hx).1 hm).2; rw [hlk] at this; cases this
 refine ⟨List.nodup_append.2 ⟨h.1, by simp, fun a ha b hb => by simp at hb; subst hb; exact fun e => hnew (e ▸ ha)⟩, fun y hy => ?_, fun y hyU => ?_⟩
 ·rcases List.mem_append.1 hy with hy | hy
  ·exact h.2.1 y hy
  ·simp at hy; subst hy; exact hx
 ·by_cases hy : y = x
  ·subst hy; simp [Lit.sameKey, kk]; exact hhas
  ·have := h.2.2 y hyU
   simp only [List.mem_append, List.mem_singleton, hy, or_false, this]
   simp [Lit.sameKey, kk, hy]
def KeysOf (F : Int → Option Value) (ss : List Int) : Prop := ss.Nodup ∧ (∀ x ∈ ss, inU x) ∧ ∀ x, inU x → (x ∈ ss ↔ (F x).isSome = true)
theorem CollectedU.done {D0 : DataW Value} {left : Lit → Bool} {ss : List Int} {F : Int → Option Value} (h : CollectedU D0 left ss) (hH : HoldsAs D0 F) (hl : ∀ kl, left kl = false) : KeysOf F ss := by
 refine ⟨h.1, h.2.1, fun x hx => (h.2.2 x hx).trans ?_⟩
 obtain ⟨h1, h2⟩ := hH x hx
 rw [hl]
 cases hF : F x with
 | none => simp [h1 hF]
 | some v => simp [(h2 v hF).1]
set_option maxHeartbeats 1000000 in
theorem keys1_in {F : Fence} {n : Nat} (h10 : F.fn 81) (hro : F.round = none) (hn : 1 ≤ n) (l Bm b nn : Nat) {G : Int → Option Value} (J Jx : List Int → World → Prop)
  (hY : ∀ pre x W, J pre W → pre.length < nn → YieldAt F (n - 1) Tryz.prog l #[encU x] W fun e W' => (e = .returned (.bool true) ∧ J (pre ++ [x]) W' ∧ KeepsWalks W W') ∨ (e = .returned (.bool false) ∧ Jx (pre ++ [x]) W'))
  (W : World) (hJ : AbidesFrom W.heap.size J) (hm : W.cell? ⟨Bm, 0, none⟩ = some (.map (some b))) (hown : RawMap Tryz.prog 27 W b nn G) (h0 : J [] W) :
  CallsIn F n Tryz.prog 81 #[.func (.yield l) #[] #[], .pointer (some ⟨Bm, 0, none⟩)] W fun e W' => (∃ v, e = .returned v) ∧ ((∃ ss : List Int, (KeysOf G ss ∧ ss.length ≤ nn) ∧ J ss W') ∨ (∃ pre : List Int, True ∧ Jx pre W')) := by
 obtain ⟨D0, hown, hH, hsz⟩ := hown
 refine callsIn_of_wp Tryz.func81 rfl h10 ?_ hro
 simp only [Tryz.ntmps81, List.size_toArray, List.length_cons, List.length_nil, Nat.reduceAdd, Nat.reduceSub, Array.replicate_succ, Array.replicate_zero, List.push_toArray, List.append_toArray, List.nil_append, List.cons_append]
 gi_wp2_with (first
  | (gi_at_range; refine wpListIn_range_own _ rfl _ 169 rfl 27 168 (int_keyed Tryz.underlying27) Tryz.underlying169 _ b nn _ rfl hown ?_; intro w0 hrg0 hg0 hs0)
  | gi_in)
 go_frame
 gi_loopw [3] (fun _ wr => ∃ (left : Lit → Bool) (cnt : Nat) (ss : List Int), wr.ranges Tryz.prog 27 rawE b W.heap.size nn D0 left cnt ∧ ss.length + cnt ≤ nn ∧ CollectedU D0 left ss ∧ J ss wr)
  (fun _ wr => wr.rangeLeft b W.heap.size)
 case atStart =>
  exact ⟨_, _, [], hrg0, by simp; omega, CollectedU.start D0, hJ [] W w0 none h0 hg0 (fun r e => by cases e)⟩
 case round =>
  obtain ⟨left, cnt, ss, hrg, hcs, hC, hJs⟩ := hrel
  gi_wp2_with (first
   | (gi_at_next; refine wpListIn_next_ranges _ rfl _ rfl 27 (int_keyed Tryz.underlying27) rawE encU id (fun key kl hk => by obtain ⟨x, hx, _⟩ := Maps.keyOf_int_inv Tryz.underlying27 hk; exact ⟨x, hx⟩) (fun v _ _ => ⟨v, rfl⟩) b W.heap.size nn _ _ _ rfl hrg ?_ ?_)
   | gi_in)
  ·intro hc0 hl0
   gi_wp2
   go_end0
   exact ⟨⟨_, rfl⟩, .inl ⟨ss, ⟨hC.done hH hl0, by omega⟩, hJs⟩⟩
  ·intro x c kl yd yp w2 cnt2 hkey hlk hv hat hrg2 hlt hg2 hs2 hen
   obtain ⟨x', ex, rfl, hwx⟩ := Maps.keyOf_int_inv Tryz.underlying27 hkey
   obtain rfl : x = x' := encU_inj ex
   have hJ2 : J ss w2 := hJ ss wr w2 (some W.heap.size) hJs hg2 (fun r e => by cases e; exact ⟨Nat.le_refl _, hrg.iter_walk⟩)
   obtain ⟨fn, tmps, assign, body, hy, hR⟩ := hY ss x w2 hJ2 (by omega)
   clear hs2
   gi_wp2
   refine hR.mono ?_
   have hC2 := hC.step (inU_wf hwx) hlk hat
   rintro e W3 (⟨rfl, hJ3, hk3⟩ | ⟨rfl, hJx3⟩)
   ·gi_wp2
    have hrg3 := hrg2.of_walks hk3
    go_roundw
    case rel => exact ⟨_, cnt2, ss ++ [x], hrg3, by simp; omega, hC2, hJ3⟩
    case measure => rw [hrg3.left_eq, hrg.left_eq]; exact hlt
   ·gi_wp2
    refine bodyPost_ret (results_none rfl _ _ _) rfl ?_
    exact ⟨⟨_, rfl⟩, .inr ⟨ss ++ [x], trivial, hJx3⟩⟩
theorem keys_stops {F : Fence} {n : Nat} (h10 : F.fn 81) (hro : F.round = none) (hn : 1 ≤ n) (Bm b nn : Nat) {G : Int → Option Value} (w : World) (hBm : Bm < w.heap.size)
  (hm : w.cell? ⟨Bm, 0, none⟩ = some (.map (some b))) (hown : RawMap Tryz.prog 27 w b nn G) :
  SeqStops F n Tryz.prog 81 #[.pointer (some ⟨Bm, 0, none⟩)] encU (fun ss => KeysOf G ss ∧ ss.length ≤ nn) (fun _ => True) nn w := fun l J Jx W hW hJ _ hY h0 => by
 have hown' : RawMap Tryz.prog 27 W b nn G := by
  have hbl := hown.lt
  obtain ⟨D, ⟨es, clock, hb, Ft, hs, hD⟩, h2⟩ := hown
  exact ⟨D, ⟨es, clock, (hW.block b hbl).trans hb, Ft, hs, hD⟩, h2⟩
 exact keys1_in h10 hro hn l Bm b nn J Jx hY W hJ ((hW.cell (p := ⟨Bm, 0, none⟩) hBm).trans hm) hown' h0
theorem info_u64 : (Tryz.prog.info? 27).map (fun i => (i.zero, i.size, i.bytes)) = some (some (.int .u64 0), 1, 8) := by kernel_rfl
section
attribute [local go_sem] Oper.semAt_some
set_option maxHeartbeats 2000000 in
theorem aseq_in {F : Fence} {n : Nat} (h11 : F.fn 87) (h10 : F.fn 81) (hro : F.round = none) (hn : 3 ≤ n) (Bm N : Nat) {S : List Int → Prop} (hN : N ≤ maxLen) (hNb : N * 8 ≤ 140737488355328) (w : World)
  (hseq : SeqStops F (n - 1) Tryz.prog 81 #[.pointer (some ⟨Bm, 0, none⟩)] encU S (fun _ => True) N w) :
  CallsIn F n Tryz.prog 87 #[.slice none 0 0, .func (.func 81) #[] #[.pointer (some ⟨Bm, 0, none⟩)]] w fun e W' => ∃ (v : Value) (ss : List Int), e = .returned v ∧ S ss ∧ W'.ownsRow w.heap.size 27 1 v ss.length (ss.map encU) ∧ (v = .slice none 0 0 ↔ ss = []) ∧ Below w.heap.size w W' := by
 have h1 : 1 ≤ n := by omega
 obtain ⟨i0, hi, hz0, hz1, hz2⟩ := info_parts info_u64
 refine callsIn_of_wp_marks Tryz.func87 rfl h11 ?_ hro
 simp only [Tryz.ntmps87, List.size_toArray, List.length_cons, List.length_nil, Nat.reduceAdd, Nat.reduceSub, Array.replicate_succ, Array.replicate_zero, List.push_toArray, List.append_toArray, List.nil_append, List.cons_append]
 gi_wp2
 have bO := Boxed.new w 34 (.slice none 0 0)
 have hB0 : Below w.heap.size w (w.alloc (.cells #[.slice none 0 0] 34)) := (Below.refl _ w).alloc (Nat.le_refl _) _
 refine wpIn_rangeFunc_ownG hro h1 (gf := 81) (lb := #[.pointer (some ⟨Bm, 0, none⟩)]) rfl h10 (enters_of Tryz.func81 (by kernel_rfl) rfl)
  hseq walksK_t walksK_b hB0 (fun _ => rfl)
  (fun pre W => (∃ v, Boxed W w.heap.size 34 v ∧ W.ownsRow w.heap.size 27 1 v pre.length (pre.map encU) ∧ (v = .slice none 0 0 ↔ pre = [])) ∧ RowKit.Below w.heap.size w W)
  (fun _ _ _ => False)
  (OwnFrom.and (Own.from (holdsRow_own w.heap.size w.heap.size 34 27 1 (fun pre => pre.length) (fun pre => pre.map encU) (fun pre v => v = .slice none 0 0 ↔ pre = [])) _) (ownFrom_below (Nat.le_refl _) (by simp)))
  (fun _ _ _ _ _ hs _ _ => hs)
  ⟨⟨_, bO, World.ownsRow_nil _ _ _ _, by simp⟩, hB0⟩
  (fun x => { tmps := #[.slice none 0 0, .func (.func 81) #[] #[.pointer (some ⟨Bm, 0, none⟩)], .pointer (some ⟨w.heap.size, 0, none⟩), undef, .slice none 0 0, .int .u64 x, .func (.func 81) #[] #[.pointer (some ⟨Bm, 0, none⟩)], .int .u64 x, undef, undef, undef, undef, undef], defers := [] }) ?assign ?body ?done ?stop
 case assign =>
  intro l x W K hK
  gi_wp2
  exact hK
 case body =>
  rintro l pre x W ⟨⟨v, hv, hrow, hnil⟩, hB⟩ hlt
  have hc := hv.cell
  gi_wp2_with (gi_at_builtin; refine wpListIn_append_own _ rfl _ _ 34 rfl w.heap.size 27 i0 (.int .u64 0) 1 8 Tryz.underlying34 hi hz0 hz1 hz2 rfl (by decide) _ _ _ rfl (hrow.alloc _) ⟨W.heap.size, 0, none⟩ 1 1 [.int .u64 x] rfl rfl (cell_one_new _ _ _) (by simp [Value.oneCell']) (by omega) (by omega) (by have := hB.size; simp; omega) ?_; intro v' w1 hown' hgrow _; obtain ⟨g', cap', rfl⟩ := ownsRow_succ hown'; obtain ⟨hv1, hv2, hr2, hk2, hb2⟩ := hv.appended (by decide) hrow hB.size (Nat.le_refl _) hown' hgrow; have hc1 := hv1.cell; have hf1 := hv1.frozen)
  exact ⟨hk2.from _, hk2.walks, ⟨_, hv2, by simpa using hr2, by simp⟩, hB.trans hb2⟩
 case done =>
  rintro D ys W hD hS ⟨⟨v, hv, hrow, hnil⟩, hB⟩ hK
  have hc := hv.cell
  gi_wp2
  refine ⟨by simp, .inl ⟨_, _, rfl, run_takeDeferred hK, ?_⟩⟩
  exact ⟨_, results_tmp rfl _ _ _, v, ys, rfl, hS, ownsRow_putObj hrow _ hK rfl, hnil, hB.trans (belowK_b (w := w) (Nat.le_refl _) W D _ _ (by simp at hD; omega) hK rfl rfl)⟩
 case stop =>
  rintro D c pre W _ _ h _
  exact h.elim
end
theorem below_grown {w w' : World} (h : RowKit.Below w.heap.size w w') : w.grownBy w' none := ⟨h.os, h.tape, h.output, h.size, fun i hi _ => h.block i hi⟩
theorem collect_calls (Bm N : Nat) {S : List Int → Prop} (hN : N ≤ maxLen) (hNb : N * 8 ≤ 140737488355328) (w : World)
  (hseq : SeqStops Fence.wide 5 Tryz.prog 81 #[.pointer (some ⟨Bm, 0, none⟩)] encU S (fun _ => True) N w) :
  Calls Tryz.prog 79 #[.func (.func 81) #[] #[.pointer (some ⟨Bm, 0, none⟩)]] w fun e W' => ∃ (v : Value) (ss : List Int), e = .returned v ∧ S ss ∧ W'.ownsRow w.heap.size 27 1 v ss.length (ss.map encU) ∧ w.grownBy W' none := by
 have hA := (callsIn_wide (n := 6)).1 (aseq_in (F := Fence.wide) (n := 6) trivial trivial rfl (by omega) Bm N hN hNb w hseq)
 have HA := lh hA
 clear hA hseq
 go_enter Tryz.func79, Tryz.ntmps79
 go_wp2_with fail
 refine HA.out.mono ?_
 rintro e w' ⟨v, ss, rfl, hS, hrow, _, hb⟩
 have H1 := lh hS
 have H2 := lh hrow
 have H3 := lh (below_grown hb)
 clear hS hrow hb
 go_wp2
 go_ret
 exact ⟨v, ss, rfl, H1.out, H2.out, H3.out⟩
theorem keysfun_calls (mb : Option Nat) (w : World) : Calls Tryz.prog 62 #[.map mb] w fun e w' => e = .returned (.func (.func 81) #[] #[.pointer (some ⟨w.heap.size, 0, none⟩)]) ∧ w' = w.alloc (.cells #[.map mb] 169) := by
 go_enter Tryz.func62, Tryz.ntmps62
 go_wp2
 go_ret
 exact ⟨rfl, rfl⟩
def SortUpTo (N : Nat) : Prop := ∀ (w : World) (B g c : Nat) (xs : List Int), 1 ≤ xs.length → xs.length ≤ N → w.ownsRow B 27 1 (.slice (some ⟨g, 0, none⟩) xs.length c) xs.length (xs.map encU) →
 Calls Tryz.prog 80 #[.slice (some ⟨g, 0, none⟩) xs.length c] w fun e w' => e = .returned (.tuple #[]) ∧ ∃ ys : List Int, ys.Perm xs ∧ ys.Pairwise (· ≤ ·) ∧ w'.ownsRow B 27 1 (.slice (some ⟨g, 0, none⟩) xs.length c) xs.length (ys.map encU) ∧ w.grownBy w' (some g)
theorem SortUpTo.less {N M : Nat} (h : SortUpTo N) (hm : M ≤ N) : SortUpTo M := fun w B g c xs h1 h2 h3 => h w B g c xs h1 (by omega) h3
theorem sortUpTo2 : SortUpTo 2 := fun w B g c xs h1 h2 hrow => by
 match xs, h1, h2, hrow with
 | [x], _, _, hrow =>
  refine (sort_one g c 1 w (by omega)).mono ?_
  rintro e w2 ⟨rfl, rfl⟩
  exact ⟨rfl, [x], .refl _, List.pairwise_singleton _ _, hrow, gR _ _⟩
 | [x, y], _, _, hrow =>
  refine (sort_two hrow).mono ?_
  rintro e w2 ⟨rfl, h1, h2⟩
  by_cases c : y < x
  ·rw [if_pos c] at h1
   exact ⟨rfl, [y, x], .swap _ _ _, by simp; omega, h1, h2⟩
  ·rw [if_neg c] at h1
   exact ⟨rfl, [x, y], .refl _, by simp; omega, h1, h2⟩
 | _ :: _ :: _ :: _, _, h, _ => simp at h
theorem sorted_calls (Bm N : Nat) {S : List Int → Prop} (hN : N ≤ maxLen) (hNb : N * 8 ≤ 140737488355328) (hS : SortUpTo N) (hS2 : ∀ ss, S ss → 1 ≤ ss.length ∧ ss.length ≤ N) (w : World)
  (hseq : SeqStops Fence.wide 5 Tryz.prog 81 #[.pointer (some ⟨Bm, 0, none⟩)] encU S (fun _ => True) N w) :
  Calls Tryz.prog 61 #[.func (.func 81) #[] #[.pointer (some ⟨Bm, 0, none⟩)]] w fun e W' => ∃ (v : Value) (ss ys : List Int), e = .returned v ∧ S ss ∧ ys.Perm ss ∧ ys.Pairwise (· ≤ ·) ∧ W'.ownsRow w.heap.size 27 1 v ss.length (ys.map encU) ∧ w.grownBy W' none := by
 have HA := lh (collect_calls Bm N hN hNb w hseq)
 have HS := lh hS
 clear hseq hS
 go_enter Tryz.func61, Tryz.ntmps61
 go_wp2_with fail
 refine HA.out.mono ?_
 rintro e w1 ⟨v, ss, rfl, hS, hrow, hg⟩
 obtain ⟨hl1, hl2⟩ := hS2 ss hS
 obtain ⟨g, cap, rfl, hgb⟩ := hrow.form (by omega)
 have H1 := lh hS
 have H3 := lh hg
 have hs := HS.out w1 _ g cap ss hl1 hl2 hrow
 have HX := lh hs
 clear hS hrow hg hs
 go_wp2_with fail
 refine HX.out.mono ?_
 rintro e w2 ⟨rfl, ys, hp, hle, h1, h2⟩
 have H4 := lh h1
 have H5 := lh (H3.out.andThen h2 (fun j e => by cases e; exact Or.inl hgb.1))
 have H6 := lh hp
 have H7 := lh hle
 clear h1 h2 hp hle
 go_wp2
 go_ret
 exact ⟨_, ss, ys, rfl, H1.out, H6.out, H7.out, H4.out, H5.out⟩
theorem rowMono {w : World} {base base' : Nat} {e : TypeId} {size : Nat} {v : Value} {n : Nat} {xs : List Value} (h : w.ownsRow base e size v n xs) (hb : base' ≤ base) : w.ownsRow base' e size v n xs :=
 ⟨h.1, h.2.imp id fun ⟨g, cap, cur, a, b, c⟩ => ⟨g, cap, cur, a, Nat.le_trans hb b, c⟩⟩
def Rising (F : Int → Option (Int × Int × Int)) (ks : List Int) : Prop := ks.Pairwise (· < ·) ∧ (∀ x ∈ ks, inU x) ∧ ∀ x, inU x → (x ∈ ks ↔ (F x).isSome = true)
theorem rising_eq : ∀ {ks js : List Int}, ks.Pairwise (· < ·) → js.Pairwise (· < ·) → (∀ x, x ∈ ks ↔ x ∈ js) → ks = js
 | [], [], _, _, _ => rfl
 | [], j :: js, _, _, h => by have := (h j).2 (by simp); simp at this
 | k :: ks, [], _, _, h => by have := (h k).1 (by simp); simp at this
 | k :: ks, j :: js, h1, h2, h => by
  have hk := (h k).1 (by simp)
  have hj := (h j).2 (by simp)
  rw [List.pairwise_cons] at h1 h2
  have e : k = j := by
   rcases List.mem_cons.1 hk with hk | hk
   ·exact hk
   ·rcases List.mem_cons.1 hj with hj | hj
    ·exact hj.symm
    ·have := h2.1 k hk
     have := h1.1 j hj
     omega
  subst e
  congr 1
  refine rising_eq h1.2 h2.2 fun x => ⟨fun hx => ?_, fun hx => ?_⟩
  ·rcases List.mem_cons.1 ((h x).1 (List.mem_cons_of_mem _ hx)) with e | e
   ·have := h1.1 x hx; omega
   ·exact e
  ·rcases List.mem_cons.1 ((h x).2 (List.mem_cons_of_mem _ hx)) with e | e
   ·have := h2.1 x hx; omega
   ·exact e
theorem Rising.eq {F : Int → Option (Int × Int × Int)} {ks js : List Int} (h1 : Rising F ks) (h2 : Rising F js) : ks = js :=
 rising_eq h1.1 h2.1 fun x => ⟨fun hx => (h2.2.2 x (h1.2.1 x hx)).2 ((h1.2.2 x (h1.2.1 x hx)).1 hx), fun hx => (h1.2.2 x (h2.2.1 x hx)).2 ((h2.2.2 x (h2.2.1 x hx)).1 hx)⟩
theorem roots_calls {w : World} {p b n : Nat} {f : Int} {F : Int → Option (Int × Int × Int)} (h : TreeAt w p b n f F) (W : WellT f F) (hn : n ≤ 1000000) (hS : SortUpTo n) :
  Calls Tryz.prog 41 #[.pointer (some ⟨p, 0, none⟩)] w fun e W' => ∃ (v : Value) (ks : List Int), e = .returned v ∧ Rising F ks ∧ ks.length ≤ n ∧ W'.ownsRow w.heap.size 27 1 v ks.length (ks.map encU) ∧ w.grownBy W' none := by
 have c1 := h.c1
 have HH := lh h
 have HS0 := lh hS
 clear h hS
 go_enter Tryz.func41, Tryz.ntmps41
 go_wp2_with fail
 refine (keysfun_calls _ _).mono ?_
 rintro e w1 ⟨rfl, hw1⟩
 have hg1 : w.grownBy w1 none := by rw [hw1]; exact World.grownBy_alloc _ _ none
 have hb : w1.cell? ⟨w.heap.size, 0, none⟩ = some (.map (some b)) := by rw [hw1]; simp
 have hlt : w.heap.size < w1.heap.size := by rw [hw1]; simp
 have hT := HH.out.kept hg1 (by simp)
 have hseq := keys_stops (F := Fence.wide) (n := 5) trivial rfl (by omega) w.heap.size b n w1 hlt hb hT.2.2
 have hS2 : ∀ ss, (KeysOf (tfun F) ss ∧ ss.length ≤ n) → 1 ≤ ss.length ∧ ss.length ≤ n := fun ss hs => by
  refine ⟨?_, by omega⟩
  obtain ⟨x, hx⟩ := Option.isSome_iff_exists.1 W.first
  have hm := (hs.1.2.2 f (W.key _ _ hx)).2 (by unfold tfun; rw [hx]; rfl)
  exact List.length_pos_of_mem hm
 have HS := lh (sorted_calls w.heap.size n (by unfold maxLen; omega) (by omega) HS0.out hS2 w1 hseq)
 have HG := lh hg1
 clear hw1 hg1 hb hT hseq
 go_wp2_with fail
 refine HS.out.mono ?_
 rintro e w2 ⟨v, ss, ys, rfl, ⟨hK, hl⟩, hp, hle, hrow, hg2⟩
 have H1 := lh hK
 have H2 := lh hrow
 have H3 := lh (g2 HG.out hg2)
 have H4 := lh hp
 have H5 := lh hle
 clear hK hrow hg2 hp hle
 go_wp2
 go_ret
 have hnd : ys.Nodup := H4.out.nodup_iff.2 H1.out.1
 refine ⟨v, ys, rfl, ⟨(H5.out.and hnd).imp fun ⟨a, b⟩ => by omega, fun x hx => H1.out.2.1 x (H4.out.mem_iff.1 hx), fun x hx => ?_⟩, by rw [H4.out.length_eq]; exact hl, ?_, H3.out⟩
 ·rw [H4.out.mem_iff, H1.out.2.2 x hx]
  unfold tfun
  cases F x <;> simp
 ·rw [H4.out.length_eq]
  exact rowMono H2.out HG.out.size
end Go.Proofs.YtndfpmboanohcaaGreatDoor
