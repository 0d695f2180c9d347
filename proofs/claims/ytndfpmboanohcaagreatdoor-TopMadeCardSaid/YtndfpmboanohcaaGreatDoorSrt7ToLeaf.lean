/- slices.Sort at uint64, in the words of SortUpTo: for every length. -/
import Derived.Test.YtndfpmboanohcaaGreatDoorSrt6
import Derived.Lib.OwnBridge
import Derived.Lib.AppendIntMem
import Derived.Laws.StructEq
import Derived.Shelf.Slices.Turned
import Derived.Shelf.Sort.Plain
import Derived.Shelf.Slices.In.SortNone
namespace Go.Proofs.YtndfpmboanohcaaGreatDoor
open Go.RowKit Go.Maps SkipPure
theorem grownBy_sorted {α : Type} [Inhabited α] {enc : α → Value} {w : World} {g n : Nat} {os : Array Obj} (d : Array α) : w.grownBy (Sort.grow (Sort.putRow enc (Sort.ahead w n) g 0 d) os) (some g) := by
 refine ⟨rfl, rfl, rfl, by simp, fun k hk hne => ?_⟩
 rw [Sort.heap_grow_old _ _ (by simpa using hk)]
 have : g ≠ k := fun e => hne (by rw [e])
 simp [Sort.putRow, Sort.mapBlock, Sort.ahead, Array.getElem?_modify, this]
theorem sorted_pairwise (xs : List Int) : (xs.mergeSort fun x y => decide (x ≤ y)).Pairwise (· ≤ ·) :=
 (List.pairwise_mergeSort (le := fun x y => decide (x ≤ y)) (fun _ _ _ => by simp; omega) (fun _ _ => by simp; omega) xs).imp fun h => by simpa using h
theorem sortUpTo_any (N : Nat) (hN : N ≤ 1000000) : SortUpTo N := fun w B g c xs h1 hx hrow => by
 obtain ⟨g', cap, hv, hB, hlt, hn, hm, _, hH⟩ := Lib.holds_of_ownsRow (enc := encU) hrow (by simp)
 injection hv with e1 _ e3
 injection e1 with e1
 injection e1 with e1
 subst e1; subst e3
 refine (SrtU.sortU_calls g 0 c xs w hH hlt (by omega)).mono ?_
 rintro e w' ⟨rfl, n, os, rfl⟩
 have hl : (xs.mergeSort fun x y => decide (x ≤ y)).length = xs.length := List.length_mergeSort ..
 refine ⟨rfl, _, List.mergeSort_perm _ _, sorted_pairwise xs, ?_, grownBy_sorted _⟩
 have h := Lib.ownsRow_putRow (enc := encU) (q := n) (ys := xs.mergeSort fun x y => decide (x ≤ y)) hrow hl (Nat.le_refl _)
 rw [List.take_of_length_le (by omega)] at h
 exact Lib.ownsRow_grow h 0 os
end Go.Proofs.YtndfpmboanohcaaGreatDoor
namespace Go.Proofs.YtndfpmboanohcaaGreatDoor
set_option maxRecDepth 100000
open Go.RowKit Go.Maps SkipPure
structure Vt where
 sl : Int
 hd : Int
 se : Int
 sr : Int
 te : Int
 tr : Int
 who : List Int
def vtV (v : Vt) (a : Option Addr) (c : Nat) : Value := .agg #[.int .i64 v.sl, .int .u64 v.hd, .int .i64 v.se, .int .u64 v.sr, .int .i64 v.te, .int .u64 v.tr, .slice a v.who.length c]
def wOk (N : Nat) (ks : List Int) (j : Nat) : Bool := decide (0 ≤ ks.getD j 0) && decide (ks.getD j 0 < (N : Int)) && (decide (j = 0) || decide (ks.getD (j - 1) 0 < ks.getD j 0))
def rightF (N : Nat) (S : Int) (v : Vt) : Bool :=
 !(decide (v.who.length = 0)) && decide (0 ≤ v.sl) && decide (0 ≤ v.se) && decide (v.se ≤ v.te) && (v.te == eOf v.sl S) && (List.range v.who.length).all (wOk N v.who)
theorem all_range_succ (p : Nat → Bool) (n : Nat) : (List.range (n + 1)).all p = ((List.range n).all p && p n) := by
 rw [List.range_succ, List.all_append]
 simp
set_option maxHeartbeats 2000000 in
theorem right_calls {w : World} {a wa : Option Addr} {c c2 : Nat} {S B : Int} {bs : List Int} {v : Vt} (hw : Ints .i64 w wa v.who) (hsl : v.sl ≤ 9223372036854775807) (hS : S ≤ 1000000) (hk : v.who.length ≤ 1000000) :
  Calls Tryz.prog 56 #[cfgV a bs.length c S B, vtV v wa c2] w fun e w' => e = .returned (.bool (rightF bs.length S v)) ∧ w.grownBy w' none := by
 obtain ⟨sl, hd, se, sr, te, tr, ks⟩ := v
 simp only at hw hsl hk
 unfold cfgV vtV rightF
 simp only
 obtain ⟨N, hNe⟩ : ∃ N, N = bs.length := ⟨_, rfl⟩
 rw [← hNe]
 have HW := lh hw
 obtain ⟨E, hE⟩ : ∃ E, E = eOf sl S := ⟨_, rfl⟩
 have hEc := eof_calls sl S
 rw [← hE] at hEc ⊢
 have HEC := lh fun w => hEc w hsl hS
 obtain ⟨R, hR⟩ : ∃ R, R = (!decide (ks.length = 0) && decide (0 ≤ sl) && decide (0 ≤ se) && decide (se ≤ te) && (te == E) && (List.range ks.length).all (wOk N ks)) := ⟨_, rfl⟩
 rw [← hR]
 have HR := lh hR
 clear hE hEc hw hNe hR
 go_enter Tryz.func56, Tryz.ntmps56
 go_upto_region 1 with (fail)
 refine nmC2 ?_
 intro W b0 b1 hz hg
 obtain ⟨q, hq_q⟩ : ∃ q, q = w.heap.size := ⟨_, rfl⟩
 rw [← hq_q] at b0 b1 hz ⊢
 have HQ_q := lh hq_q
 clear hq_q
 have HB0 := lh b0
 have HB1 := lh b1
 have HG := lh hg
 clear b0 b1 hg
 replace HW := lh (HW.out.kept HG.out)
 have e0 : W.cell? ⟨q + 1, 0, none⟩ = some (.int .i64 sl) := HB1.out.at 0
 have e2 : W.cell? ⟨q + 1, 2, none⟩ = some (.int .i64 se) := HB1.out.at 2
 have e4 : W.cell? ⟨q + 1, 4, none⟩ = some (.int .i64 te) := HB1.out.at 4
 have e6 : W.cell? ⟨q + 1, 6, none⟩ = some (.slice wa ks.length c2) := HB1.out.at 6
 have d1 : W.cell? ⟨q, 1, none⟩ = some (.int .i64 S) := HB0.out.at 1
 by_cases h0 : ks.length = 0
 ·have g0 : ((ks.length : Int) == 0) = true := by simp [h0]
  go_quiet (fail)
  go_wp2
  go_ret
  exact ⟨by rw [HR.out]; simp [h0], g2 HG.out (drewN_grown W _)⟩
 have g0 : ((ks.length : Int) == 0) = false := by rw [beq_eq_false_iff_ne]; omega
 by_cases h1 : sl < 0
 ·have H1 := lh h1
  go_quiet (fail)
  go_wp2
  go_ret
  exact ⟨by have := H1.out; rw [HR.out]; simp [show ¬ 0 ≤ sl by omega], g2 HG.out (drewN_grown W _)⟩
 have b1 := decide_eq_false h1
 have H1 := lh h1
 clear h1
 by_cases h2 : se < 0
 ·have H2 := lh h2
  go_quiet (fail)
  go_wp2
  go_ret
  exact ⟨by have := H2.out; rw [HR.out]; simp [show ¬ 0 ≤ se by omega], g2 HG.out (drewN_grown W _)⟩
 have b2 := decide_eq_false h2
 have H2 := lh h2
 clear h2
 by_cases h3 : te < se
 ·have H3 := lh h3
  go_quiet (fail)
  go_wp2
  go_ret
  exact ⟨by have := H3.out; rw [HR.out]; simp [show ¬ se ≤ te by omega], g2 HG.out (drewN_grown W _)⟩
 have b3 := decide_eq_false h3
 have H3 := lh h3
 clear h3
 by_cases h4 : te = E
 ·subst h4
  go_quiet (first | (go_at_call 47; refine Calls.quiet_of_same ((HEC.out _).mono fun _ _ ⟨k1, k2⟩ => ⟨k1, k2.symm⟩)))
  go_wp2_with fail
  have c0 : (W.drewN nq).cell? ⟨q, 0, none⟩ = some (.slice a N c) := HB0.out.at 0
  have c6 : (W.drewN nq).cell? ⟨q + 1, 6, none⟩ = some (.slice wa ks.length c2) := e6
  replace HW := lh (HW.out.kept (drewN_grown W nq))
  replace HG := lh (g2 HG.out (drewN_grown W nq))
  generalize W.drewN nq = W1 at c0 c6 HW HG ⊢
  clear e0 e2 e4 e6 d1
  have hse : R = (List.range ks.length).all (wOk N ks) := by
   have k1 := H1.out; have k2 := H2.out; have k3 := H3.out
   rw [HR.out]
   simp [show 0 ≤ sl by omega, show 0 ≤ se by omega, show se ≤ te by omega, h0]
  replace HR := lh hse
  clear hse b1 b2 b3 g0 h0
  go_loop [45] (fun v45 => ∃ j : Nat, v45 = .int .i64 (j : Int) ∧ j ≤ ks.length ∧ Hid ((List.range j).all (wOk N ks) = true)) (fun v45 => ks.length - (intOf v45).toNat)
  case atStart => exact ⟨0, rfl, by omega, lh (by simp)⟩
  case round =>
   obtain ⟨j, rfl, hj, HA⟩ := hrel
   by_cases hlt : j < ks.length
   ·obtain ⟨ad, rfl, hc⟩ := HW.out j hlt
    have hfail : wOk N ks j = false → R = false := fun hf => by
     rw [HR.out, List.all_eq_false]
     exact ⟨j, by simpa using hlt, by simp [hf]⟩
    have HF := lh hfail
    obtain ⟨k, hke⟩ : ∃ k, k = ks.getD j 0 := ⟨_, rfl⟩
    rw [← hke] at hc
    have HK := lh hke
    clear hfail hke
    by_cases h1 : k < 0
    ·have HX : Hid (R = false) := lh (HF.out (by unfold wOk; rw [← HK.out]; simp [show ¬ 0 ≤ k by omega]))
     go_wp2_with fail
     go_ret
     exact ⟨by rw [HX.out]; rfl, HG.out⟩
    replace h1 : 0 ≤ k := by omega
    by_cases h2 : (N : Int) ≤ k
    ·have HX : Hid (R = false) := lh (HF.out (by unfold wOk; rw [← HK.out]; simp [show ¬ k < (N : Int) by omega]))
     go_wp2_with fail
     go_ret
     exact ⟨by rw [HX.out]; rfl, HG.out⟩
    replace h2 : k < (N : Int) := by omega
    by_cases hj0 : j = 0
    ·have b0 : (j : Int) ≤ 0 := by omega
     have HX : Hid (wOk N ks j = true) := lh (by unfold wOk; rw [← HK.out]; simp [hj0, h1, h2])
     clear hj0
     go_wp2_with fail
     go_round
     case rel => exact ⟨j + 1, by simp, by omega, lh (by rw [all_range_succ, HA.out, HX.out]; rfl)⟩
     case measure => simp [intOf]; omega
    ·have b0 : 0 < (j : Int) := by omega
     obtain ⟨ad2, he, hc2⟩ := HW.out (j - 1) (by omega)
     cases he
     obtain ⟨p, hpe⟩ : ∃ p, p = ks.getD (j - 1) 0 := ⟨_, rfl⟩
     rw [← hpe] at hc2
     have HP := lh hpe
     clear hpe
     by_cases h3 : k ≤ p
     ·have HX : Hid (R = false) := lh (HF.out (by unfold wOk; rw [← HK.out, ← HP.out]; simp [hj0, show ¬ p < k by omega]))
      clear hj0
      go_wp2_with fail
      go_ret
      exact ⟨by rw [HX.out]; rfl, HG.out⟩
     ·replace h3 : p < k := by omega
      have HX : Hid (wOk N ks j = true) := lh (by unfold wOk; rw [← HK.out, ← HP.out]; simp [h1, h2, h3])
      clear hj0
      go_wp2_with fail
      go_round
      case rel => exact ⟨j + 1, by simp, by omega, lh (by rw [all_range_succ, HA.out, HX.out]; rfl)⟩
      case measure => simp [intOf]; omega
   ·have hje : j = ks.length := by omega
    subst hje
    go_wp2_with fail
    go_ret
    exact ⟨by rw [HR.out, HA.out]; rfl, HG.out⟩
 ·have g4 : (te == E) = false := by simp [h4]
  go_quiet (first | (go_at_call 47; refine Calls.quiet_of_same ((HEC.out _).mono fun _ _ ⟨k1, k2⟩ => ⟨k1, k2.symm⟩)))
  go_wp2
  go_ret
  exact ⟨by rw [HR.out]; simp [h4], g2 HG.out (drewN_grown W _)⟩
theorem eq_point (a b c d : Int) (w : World) : (binOp .eql 61 (.agg #[.int .i64 a, .int .u64 b]) (.agg #[.int .i64 c, .int .u64 d])).run Tryz.prog w = .ok (.bool (a == c && b == d)) w := by
 have u3 := Tryz.underlying3
 have u27 := Tryz.underlying27
 have a3 := Tryz.isAgg3
 have a27 := Tryz.isAgg27
 have z3 := Tryz.sizeOf3
 have z27 := Tryz.sizeOf27
 have hS : Tryz.prog.underlying 61 = some (.struct (Tryz.prog.fieldsOf 61)) := by kernel_rfl
 have hp : Tryz.prog.stoodInHeld 61 = false := by kernel_rfl
 rw [run_eql_struct, show (10000 : Nat) = 9999 + 1 from rfl, run_equalIn_agg w 9999 61 _ _ hS hp]
 simp only [Program.fieldsOf, Tryz.underlying61]
 go_simp
 by_cases h1 : a = c <;> by_cases h2 : b = d <;> simp [h1, h2]
def sameF (a b : Vt) : Bool := a.sl == b.sl && (a.hd == b.hd && ((a.se == b.se && a.sr == b.sr) && (a.te == b.te && a.tr == b.tr)))
def doubleF (a b : Vt) : Bool := a.te == b.te && !sameF a b
def aroundF (a b : Vt) : Bool := decide (a.se < b.se) && decide (b.te < a.te)
def badF (a b : Vt) : Bool := doubleF a b || aroundF a b || aroundF b a
section
variable {w : World} {a b : Vt} {aw bw : Option Addr} {ac bc : Nat}
set_option maxHeartbeats 2000000 in
theorem vsame_calls : Calls Tryz.prog 90 #[vtV a aw ac, vtV b bw bc] w fun e w' => e = .returned (.bool (sameF a b)) ∧ w.grownBy w' none := by
 obtain ⟨x0, x1, x2, x3, x4, x5, xs⟩ := a
 obtain ⟨y0, y1, y2, y3, y4, y5, ys⟩ := b
 unfold vtV sameF
 simp only
 obtain ⟨R, hR⟩ : ∃ R, R = (x0 == y0 && (x1 == y1 && ((x2 == y2 && x3 == y3) && (x4 == y4 && x5 == y5)))) := ⟨_, rfl⟩
 rw [← hR]
 have HR := lh hR
 clear hR
 have hep := eq_point
 go_enter Tryz.func90, Tryz.ntmps90
 go_upto_region 1 with (fail)
 refine nmC2 ?_
 intro W b0 b1 hz hg
 obtain ⟨q, hq_q⟩ : ∃ q, q = w.heap.size := ⟨_, rfl⟩
 rw [← hq_q] at b0 b1 hz ⊢
 have HQ_q := lh hq_q
 clear hq_q
 have HB0 := lh b0
 have HB1 := lh b1
 have HG := lh hg
 clear b0 b1 hg
 have d0 := HB0.out.at 0; have d1 := HB0.out.at 1; have d2 := HB0.out.at 2; have d3 := HB0.out.at 3; have d4 := HB0.out.at 4; have d5 := HB0.out.at 5
 have e0 := HB1.out.at 0; have e1 := HB1.out.at 1; have e2 := HB1.out.at 2; have e3 := HB1.out.at 3; have e4 := HB1.out.at 4; have e5 := HB1.out.at 5
 clear hz
 cases g0 : (x0 == y0)
 ·go_wp2_with fail
  go_ret
  exact ⟨by rw [HR.out, g0]; rfl, HG.out⟩
 cases g1 : (x1 == y1)
 ·go_wp2_with fail
  go_ret
  exact ⟨by rw [HR.out, g0, g1]; rfl, HG.out⟩
 cases g2 : (x2 == y2 && x3 == y3)
 ·go_wp2_with fail
  go_ret
  exact ⟨by rw [HR.out, g0, g1, g2]; rfl, HG.out⟩
 go_wp2_with fail
 go_ret
 exact ⟨by rw [HR.out, g0, g1, g2]; rfl, HG.out⟩
set_option maxHeartbeats 2000000 in
theorem double_calls : Calls Tryz.prog 83 #[vtV a aw ac, vtV b bw bc] w fun e w' => e = .returned (.bool (doubleF a b)) ∧ w.grownBy w' none := by
 obtain ⟨R, hR⟩ : ∃ R, R = doubleF a b := ⟨_, rfl⟩
 rw [← hR]
 obtain ⟨x0, x1, x2, x3, x4, x5, xs⟩ := a
 obtain ⟨y0, y1, y2, y3, y4, y5, ys⟩ := b
 have HR := lh hR
 clear hR
 unfold vtV
 simp only
 go_enter Tryz.func83, Tryz.ntmps83
 go_upto_region 1 with (fail)
 refine nmC2 ?_
 intro W b0 b1 hz hg
 obtain ⟨q, hq_q⟩ : ∃ q, q = w.heap.size := ⟨_, rfl⟩
 rw [← hq_q] at b0 b1 hz ⊢
 have HQ_q := lh hq_q
 clear hq_q
 have HB0 := lh b0
 have HB1 := lh b1
 have HG := lh hg
 clear b0 b1 hg
 have d0 := HB0.out.at 0; have d1 := HB0.out.at 1; have d2 := HB0.out.at 2; have d3 := HB0.out.at 3; have d4 := HB0.out.at 4; have d5 := HB0.out.at 5; have d6 := HB0.out.at 6
 have e0 := HB1.out.at 0; have e1 := HB1.out.at 1; have e2 := HB1.out.at 2; have e3 := HB1.out.at 3; have e4 := HB1.out.at 4; have e5 := HB1.out.at 5; have e6 := HB1.out.at 6
 clear hz
 cases g0 : (x4 == y4)
 ·go_wp2_with fail
  go_ret
  exact ⟨by rw [HR.out]; unfold doubleF; simp only [g0]; rfl, HG.out⟩
 ·go_wp2_with (go_at_call 90; refine (vsame_calls (a := ⟨x0, x1, x2, x3, x4, x5, xs⟩) (b := ⟨y0, y1, y2, y3, y4, y5, ys⟩)).mono ?_; rintro e w2 ⟨rfl, hg2⟩; have HG2 := lh (g2 HG.out hg2); clear hg2)
  go_ret
  exact ⟨by rw [HR.out]; unfold doubleF; simp only [g0]; rfl, HG2.out⟩
set_option maxHeartbeats 2000000 in
theorem around_calls : Calls Tryz.prog 84 #[vtV a aw ac, vtV b bw bc] w fun e w' => e = .returned (.bool (aroundF a b)) ∧ w.grownBy w' none := by
 obtain ⟨R, hR⟩ : ∃ R, R = aroundF a b := ⟨_, rfl⟩
 rw [← hR]
 obtain ⟨x0, x1, x2, x3, x4, x5, xs⟩ := a
 obtain ⟨y0, y1, y2, y3, y4, y5, ys⟩ := b
 have HR := lh hR
 clear hR
 unfold vtV
 simp only
 go_enter Tryz.func84, Tryz.ntmps84
 go_upto_region 1 with (fail)
 refine nmC2 ?_
 intro W b0 b1 hz hg
 obtain ⟨q, hq_q⟩ : ∃ q, q = w.heap.size := ⟨_, rfl⟩
 rw [← hq_q] at b0 b1 hz ⊢
 have HQ_q := lh hq_q
 clear hq_q
 have HB0 := lh b0
 have HB1 := lh b1
 have HG := lh hg
 clear b0 b1 hg
 have d2 := HB0.out.at 2; have d4 := HB0.out.at 4
 have e2 := HB1.out.at 2; have e4 := HB1.out.at 4
 clear hz
 cases g0 : decide (x2 < y2)
 ·go_wp2_with fail
  go_ret
  exact ⟨by rw [HR.out]; unfold aroundF; simp only [g0]; rfl, HG.out⟩
 ·go_wp2_with fail
  go_ret
  exact ⟨by rw [HR.out]; unfold aroundF; simp only [g0]; rfl, HG.out⟩
set_option maxHeartbeats 4000000 in
theorem bad_calls : Calls Tryz.prog 77 #[vtV a aw ac, vtV b bw bc] w fun e w' => e = .returned (.bool (badF a b)) ∧ w.grownBy w' none := by
 obtain ⟨x0, x1, x2, x3, x4, x5, xs⟩ := a
 obtain ⟨y0, y1, y2, y3, y4, y5, ys⟩ := b
 obtain ⟨R, hR⟩ : ∃ R, R = badF ⟨x0, x1, x2, x3, x4, x5, xs⟩ ⟨y0, y1, y2, y3, y4, y5, ys⟩ := ⟨_, rfl⟩
 rw [← hR]
 unfold badF at hR
 have HD := lh fun w => @double_calls w ⟨x0, x1, x2, x3, x4, x5, xs⟩ ⟨y0, y1, y2, y3, y4, y5, ys⟩ aw bw ac bc
 have HA := lh fun w => @around_calls w ⟨x0, x1, x2, x3, x4, x5, xs⟩ ⟨y0, y1, y2, y3, y4, y5, ys⟩ aw bw ac bc
 have HA2 := lh fun w => @around_calls w ⟨y0, y1, y2, y3, y4, y5, ys⟩ ⟨x0, x1, x2, x3, x4, x5, xs⟩ bw aw bc ac
 obtain ⟨D, hD⟩ : ∃ D, D = doubleF ⟨x0, x1, x2, x3, x4, x5, xs⟩ ⟨y0, y1, y2, y3, y4, y5, ys⟩ := ⟨_, rfl⟩
 obtain ⟨A1, hA1⟩ : ∃ A1, A1 = aroundF ⟨x0, x1, x2, x3, x4, x5, xs⟩ ⟨y0, y1, y2, y3, y4, y5, ys⟩ := ⟨_, rfl⟩
 obtain ⟨A2, hA2⟩ : ∃ A2, A2 = aroundF ⟨y0, y1, y2, y3, y4, y5, ys⟩ ⟨x0, x1, x2, x3, x4, x5, xs⟩ := ⟨_, rfl⟩
 rw [← hD] at HD hR
 rw [← hA1] at HA hR
 rw [← hA2] at HA2 hR
 have HR := lh hR
 clear hR hD hA1 hA2
 unfold vtV at HD HA HA2 ⊢
 simp only at HD HA HA2 ⊢
 go_enter Tryz.func77, Tryz.ntmps77
 go_upto_region 1 with (fail)
 refine nmC2 ?_
 intro W b0 b1 hz hg
 obtain ⟨q, hq_q⟩ : ∃ q, q = w.heap.size := ⟨_, rfl⟩
 rw [← hq_q] at b0 b1 hz ⊢
 have HQ_q := lh hq_q
 clear hq_q
 have HB0 := lh b0
 have HB1 := lh b1
 have HG := lh hg
 clear b0 b1 hg
 clear hz
 have d0 := HB0.out.at 0; have d1 := HB0.out.at 1; have d2 := HB0.out.at 2; have d3 := HB0.out.at 3; have d4 := HB0.out.at 4; have d5 := HB0.out.at 5; have d6 := HB0.out.at 6
 have e0 := HB1.out.at 0; have e1 := HB1.out.at 1; have e2 := HB1.out.at 2; have e3 := HB1.out.at 3; have e4 := HB1.out.at 4; have e5 := HB1.out.at 5; have e6 := HB1.out.at 6
 go_wp2_with fail
 refine (HD.out _).mono ?_
 rintro e w2 ⟨rfl, hg2⟩
 clear d0 d1 d2 d3 d4 d5 d6 e0 e1 e2 e3 e4 e5 e6
 replace HB0 := lh (HB0.out.g hg2)
 replace HB1 := lh (HB1.out.g hg2)
 replace HG := lh (g2 HG.out hg2)
 clear hg2
 cases D
 ·have d0 := HB0.out.at 0; have d1 := HB0.out.at 1; have d2 := HB0.out.at 2; have d3 := HB0.out.at 3; have d4 := HB0.out.at 4; have d5 := HB0.out.at 5; have d6 := HB0.out.at 6
  have e0 := HB1.out.at 0; have e1 := HB1.out.at 1; have e2 := HB1.out.at 2; have e3 := HB1.out.at 3; have e4 := HB1.out.at 4; have e5 := HB1.out.at 5; have e6 := HB1.out.at 6
  go_wp2_with fail
  refine (HA.out _).mono ?_
  rintro e w3 ⟨rfl, hg2⟩
  clear d0 d1 d2 d3 d4 d5 d6 e0 e1 e2 e3 e4 e5 e6
  replace HB0 := lh (HB0.out.g hg2)
  replace HB1 := lh (HB1.out.g hg2)
  replace HG := lh (g2 HG.out hg2)
  clear hg2
  cases A1
  ·have d0 := HB0.out.at 0; have d1 := HB0.out.at 1; have d2 := HB0.out.at 2; have d3 := HB0.out.at 3; have d4 := HB0.out.at 4; have d5 := HB0.out.at 5; have d6 := HB0.out.at 6
   have e0 := HB1.out.at 0; have e1 := HB1.out.at 1; have e2 := HB1.out.at 2; have e3 := HB1.out.at 3; have e4 := HB1.out.at 4; have e5 := HB1.out.at 5; have e6 := HB1.out.at 6
   go_wp2_with fail
   refine (HA2.out _).mono ?_
   rintro e w4 ⟨rfl, hg2⟩
   clear d0 d1 d2 d3 d4 d5 d6 e0 e1 e2 e3 e4 e5 e6
   replace HB0 := lh (HB0.out.g hg2)
   replace HB1 := lh (HB1.out.g hg2)
   replace HG := lh (g2 HG.out hg2)
   clear hg2
   go_wp2_with fail
   go_ret
   exact ⟨by rw [HR.out]; rfl, HG.out⟩
  ·go_wp2_with fail
   go_ret
   exact ⟨by rw [HR.out]; rfl, HG.out⟩
 ·go_wp2_with fail
  go_ret
  exact ⟨by rw [HR.out]; rfl, HG.out⟩
end
end Go.Proofs.YtndfpmboanohcaaGreatDoor
namespace Go.Proofs
open Go.Shelf
set_option maxRecDepth 100000
def Tryz.hasInt_ren : Go.Shelf.Ren := ⟨fun | 107 => 85 | 108 => 91 | n => n, fun | 28 => 62 | n => n, fun n => n⟩
theorem Tryz.hasInt : Lays.n107 Tryz.prog Tryz.hasInt_ren where
 mixed := by kernel_rfl
 f107 := Tryz.func85.trans (congrArg some (by kernel_rfl))
 f108 := Tryz.func91.trans (congrArg some (by kernel_rfl))
 t0 := Tryz.underlying0
 a0 := Tryz.isAgg0
 z0 := Tryz.sizeOf0
 v0 := Tryz.zeroValue0
 t3 := Tryz.underlying3
 a3 := Tryz.isAgg3
 z3 := Tryz.sizeOf3
 v3 := Tryz.zeroValue3
 t4 := Tryz.underlying4
 a4 := Tryz.isAgg4
 z4 := Tryz.sizeOf4
 v4 := Tryz.zeroValue4
 t28 := Tryz.underlying62
 a28 := Tryz.isAgg62
 z28 := Tryz.sizeOf62
 v28 := Tryz.zeroValue62
def Tryz.sortInt_ren : Go.Shelf.Ren := ⟨fun | 125 => 89 | 128 => 102 | 129 => 103 | 189 => 86 | 215 => 122 | 216 => 110 | 257 => 92 | 294 => 104 | 295 => 105 | 296 => 106 | 297 => 107 | 298 => 108 | 299 => 109 | 300 => 111 | 301 => 112 | 328 => 119 | 329 => 114 | 330 => 115 | 331 => 120 | 332 => 121 | 343 => 124 | n => n, fun | 28 => 62 | 46 => 229 | 51 => 240 | 53 => 27 | 131 => 29 | 182 => 233 | 183 => 234 | 218 => 248 | 222 => 251 | 228 => 255 | 229 => 256 | n => n, fun n => n⟩
theorem Tryz.sortInt : Lays.n189 Tryz.prog Tryz.sortInt_ren where
 mixed := by kernel_rfl
 f125 := Tryz.func89.trans (congrArg some (by kernel_rfl))
 f128 := Tryz.func102.trans (congrArg some (by kernel_rfl))
 f129 := Tryz.func103.trans (congrArg some (by kernel_rfl))
 f189 := Tryz.func86.trans (congrArg some (by kernel_rfl))
 f215 := Tryz.func122.trans (congrArg some (by kernel_rfl))
 f216 := Tryz.func110.trans (congrArg some (by kernel_rfl))
 f257 := Tryz.func92.trans (congrArg some (by kernel_rfl))
 f294 := Tryz.func104.trans (congrArg some (by kernel_rfl))
 f295 := Tryz.func105.trans (congrArg some (by kernel_rfl))
 f296 := Tryz.func106.trans (congrArg some (by kernel_rfl))
 f297 := Tryz.func107.trans (congrArg some (by kernel_rfl))
 f298 := Tryz.func108.trans (congrArg some (by kernel_rfl))
 f299 := Tryz.func109.trans (congrArg some (by kernel_rfl))
 f300 := Tryz.func111.trans (congrArg some (by kernel_rfl))
 f301 := Tryz.func112.trans (congrArg some (by kernel_rfl))
 f328 := Tryz.func119.trans (congrArg some (by kernel_rfl))
 f329 := Tryz.func114.trans (congrArg some (by kernel_rfl))
 f330 := Tryz.func115.trans (congrArg some (by kernel_rfl))
 f331 := Tryz.func120.trans (congrArg some (by kernel_rfl))
 f332 := Tryz.func121.trans (congrArg some (by kernel_rfl))
 f343 := Tryz.func124.trans (congrArg some (by kernel_rfl))
 t0 := Tryz.underlying0
 a0 := Tryz.isAgg0
 z0 := Tryz.sizeOf0
 v0 := Tryz.zeroValue0
 t3 := Tryz.underlying3
 a3 := Tryz.isAgg3
 z3 := Tryz.sizeOf3
 v3 := Tryz.zeroValue3
 t4 := Tryz.underlying4
 a4 := Tryz.isAgg4
 z4 := Tryz.sizeOf4
 v4 := Tryz.zeroValue4
 t5 := Tryz.underlying5
 a5 := Tryz.isAgg5
 z5 := Tryz.sizeOf5
 v5 := Tryz.zeroValue5
 t9 := Tryz.underlying9
 a9 := Tryz.isAgg9
 z9 := Tryz.sizeOf9
 v9 := Tryz.zeroValue9
 t28 := Tryz.underlying62
 a28 := Tryz.isAgg62
 z28 := Tryz.sizeOf62
 v28 := Tryz.zeroValue62
 t46 := Tryz.underlying229
 a46 := Tryz.isAgg229
 z46 := Tryz.sizeOf229
 v46 := Tryz.zeroValue229
 t51 := Tryz.underlying240
 a51 := Tryz.isAgg240
 z51 := Tryz.sizeOf240
 v51 := Tryz.zeroValue240
 t53 := Tryz.underlying27
 a53 := Tryz.isAgg27
 z53 := Tryz.sizeOf27
 v53 := Tryz.zeroValue27
 t131 := Tryz.underlying29
 a131 := Tryz.isAgg29
 z131 := Tryz.sizeOf29
 v131 := Tryz.zeroValue29
 t182 := Tryz.underlying233
 a182 := Tryz.isAgg233
 z182 := Tryz.sizeOf233
 v182 := Tryz.zeroValue233
 t183 := Tryz.underlying234
 a183 := Tryz.isAgg234
 z183 := Tryz.sizeOf234
 v183 := Tryz.zeroValue234
 t218 := Tryz.underlying248
 a218 := Tryz.isAgg248
 z218 := Tryz.sizeOf248
 v218 := Tryz.zeroValue248
 t222 := Tryz.underlying251
 a222 := Tryz.isAgg251
 z222 := Tryz.sizeOf251
 v222 := Tryz.zeroValue251
 t228 := Tryz.underlying255
 a228 := Tryz.isAgg255
 z228 := Tryz.sizeOf255
 v228 := Tryz.zeroValue255
 t229 := Tryz.underlying256
 a229 := Tryz.isAgg256
 z229 := Tryz.sizeOf256
 v229 := Tryz.zeroValue256
end Go.Proofs
namespace Go.Proofs.YtndfpmboanohcaaGreatDoor
set_option maxRecDepth 100000
open Go.RowKit Go.Maps SkipPure
theorem has_calls {w : World} {a : Option Addr} {xs : List Int} (h : Ints .i64 w a xs) (ha : ∀ ad, a = some ad → ad.spot = none) (c : Nat) (x : Int) (hk : xs.length ≤ 1000000) :
  Calls Tryz.prog 85 #[.slice a xs.length c, .int .i64 x] w fun e w' => e = .returned (.bool (xs.contains x)) ∧ w' = w := by
 cases xs with
 | nil => exact Any.slices_Contains_int_empty Tryz.hasInt a c x w
 | cons y ys =>
  obtain ⟨⟨b, off, sp⟩, rfl, _⟩ := h 0 (by simp)
  have hs := ha _ rfl
  simp only at hs
  subst hs
  have e := Any.slices_Contains_int Tryz.hasInt b off (y :: ys).length c (y :: ys) x w (Nat.le_refl _) (by omega) (fun j hj => by
   obtain ⟨ad2, he, hc⟩ := h j hj
   cases he
   rw [← hc]
   unfold Addr.add
   by_cases h0 : j = 0
   ·subst h0; rfl
   ·rw [if_neg h0])
  rw [List.take_length] at e
  exact e
theorem sortI_calls {w : World} {B g c : Nat} {xs : List Int} (hN : xs.length ≤ 1000000) (hrow : w.ownsRow B 3 1 (.slice (some ⟨g, 0, none⟩) xs.length c) xs.length (xs.map (Value.int .i64))) :
  Calls Tryz.prog 86 #[.slice (some ⟨g, 0, none⟩) xs.length c] w fun e w' => e = .returned (.tuple #[]) ∧
   w'.ownsRow B 3 1 (.slice (some ⟨g, 0, none⟩) xs.length c) xs.length ((xs.mergeSort fun x y => decide (x ≤ y)).map (Value.int .i64)) ∧ w.grownBy w' (some g) := by
 obtain ⟨g', cap, hv, hB, hlt, hn, hm, _, hH⟩ := Lib.holds_of_ownsRow (enc := Value.int .i64) hrow (by simp)
 injection hv with e1 _ e3
 injection e1 with e1
 injection e1 with e1
 subst e1; subst e3
 refine (Any.slices_Sort_int Tryz.sortInt g 0 c xs w hH hlt (by omega)).mono ?_
 rintro e w' ⟨rfl, n, os, rfl⟩
 have hl : (xs.mergeSort fun x y => decide (x ≤ y)).length = xs.length := List.length_mergeSort ..
 refine ⟨rfl, ?_, grownBy_sorted _⟩
 have h := Lib.ownsRow_putRow (enc := Value.int .i64) (q := n) (ys := xs.mergeSort fun x y => decide (x ≤ y)) hrow hl (Nat.le_refl _)
 rw [List.take_of_length_le (by omega)] at h
 exact Lib.ownsRow_grow h 0 os
theorem ints_of_own {w : World} {B g c n : Nat} {xs : List Int} (h : w.ownsRow B 3 1 (.slice (some ⟨g, 0, none⟩) n c) n (xs.map (Value.int .i64))) : Ints .i64 w (some ⟨g, 0, none⟩) xs := fun i hi => by
 refine ⟨_, rfl, ?_⟩
 have hl : xs.length = n := by simpa using h.1
 have := h.cellAt i (by omega)
 have e : (⟨g, 0, none⟩ : Addr).add i = ⟨g, i, none⟩ := by
  unfold Addr.add
  by_cases h0 : i = 0
  ·rw [if_pos h0, h0]
  ·rw [if_neg h0, Nat.zero_add]
 rw [e]
 simpa [List.getD, List.getElem?_eq_getElem hi] using this
theorem has_own {w : World} {B : Nat} {v : Value} {xs : List Int} (h : w.ownsRow B 3 1 v xs.length (xs.map (Value.int .i64))) (x : Int) (hk : xs.length ≤ 1000000) :
  Calls Tryz.prog 85 #[v, .int .i64 x] w fun e w' => e = .returned (.bool (xs.contains x)) ∧ w' = w := by
 rcases h.2 with ⟨rfl, h0⟩ | ⟨g, cap, cur, rfl, _⟩
 ·have hx : xs = [] := List.eq_nil_of_length_eq_zero h0
  subst hx
  exact Any.slices_Contains_int_empty Tryz.hasInt none 0 x w
 ·exact has_calls (ints_of_own h) (fun ad e => by cases e; rfl) cap x hk
theorem sort_own {w : World} {B : Nat} {v : Value} {xs : List Int} (h : w.ownsRow B 3 1 v xs.length (xs.map (Value.int .i64))) (hk : xs.length ≤ 1000000) :
  Calls Tryz.prog 86 #[v] w fun e w' => e = .returned (.tuple #[]) ∧ w'.ownsRow B 3 1 v xs.length ((xs.mergeSort fun x y => decide (x ≤ y)).map (Value.int .i64)) ∧ ∃ g, B ≤ g ∧ w.grownBy w' (some g) := by
 rcases id h.2 with ⟨rfl, h0⟩ | ⟨g, cap, cur, rfl, hb, _⟩
 ·have hx : xs = [] := List.eq_nil_of_length_eq_zero h0
  subst hx
  refine (Any.slices_Sort_int_none Tryz.sortInt none 0 w).mono ?_
  rintro e w' ⟨rfl, rfl⟩
  exact ⟨rfl, by simpa using h, B, Nat.le_refl _, gR _ _⟩
 ·refine (sortI_calls hk h).mono ?_
  rintro e w' ⟨rfl, h1, h2⟩
  exact ⟨rfl, h1, g, hb, h2⟩
def bothR (us vs : List Int) : Nat → List Int
 | 0 => []
 | j + 1 => if vs.contains (us.getD j 0) && !(bothR us vs j).contains (us.getD j 0) then bothR us vs j ++ [us.getD j 0] else bothR us vs j
theorem bothR_len (us vs : List Int) (j : Nat) : (bothR us vs j).length ≤ j := by
 induction j with
 | zero => simp [bothR]
 | succ j ih =>
  unfold bothR
  split
  ·simp; exact ih
  ·omega
theorem own_base {w : World} {base base' : Nat} {e : TypeId} {size n : Nat} {v : Value} {xs : List Value} (h : w.ownsRow base' e size v n xs) (hb : base ≤ base') : w.ownsRow base e size v n xs := by
 obtain ⟨h1, h2⟩ := h
 refine ⟨h1, ?_⟩
 rcases h2 with h2 | ⟨g, cap, cur, rfl, h3, h4⟩
 ·exact .inl h2
 ·exact .inr ⟨g, cap, cur, rfl, Nat.le_trans hb h3, h4⟩
def bothF (us vs : List Int) : List Int := (bothR us vs us.length).mergeSort fun x y => decide (x ≤ y)
section
variable {w : World} {a b : Vt} {aw bw : Option Addr} {ac bc : Nat}
set_option maxHeartbeats 2000000 in
theorem both_calls (ha : Ints .i64 w aw a.who) (hb : Ints .i64 w bw b.who) (hbs : ∀ ad, bw = some ad → ad.spot = none) (hal : a.who.length ≤ 1000000) (hbl : b.who.length ≤ 1000000) :
  Calls Tryz.prog 78 #[vtV a aw ac, vtV b bw bc] w fun e w' => ∃ v, e = .returned v ∧ w'.ownsRow w.heap.size 3 1 v (bothF a.who b.who).length ((bothF a.who b.who).map (Value.int .i64)) ∧ w.grownBy w' none := by
 obtain ⟨x0, x1, x2, x3, x4, x5, xs⟩ := a
 obtain ⟨y0, y1, y2, y3, y4, y5, ys⟩ := b
 simp only at ha hb hal hbl
 unfold vtV
 simp only
 obtain ⟨i0, hi⟩ := elem_i64
 have HI := lh hi
 have HA := lh ha
 have HB := lh hb
 have HS := lh hbs
 clear hi ha hb hbs
 go_enter Tryz.func78, Tryz.ntmps78
 go_upto_region 1 with (fail)
 refine nmC2 ?_
 intro W b0 b1 hz hg
 obtain ⟨q, hq_q⟩ : ∃ q, q = w.heap.size := ⟨_, rfl⟩
 rw [← hq_q] at b0 b1 hz ⊢
 have HQ_q := lh hq_q
 clear hq_q
 have HB0 := lh b0
 have HB1 := lh b1
 have HG := lh hg
 clear b0 b1 hg
 clear hz
 replace HA := lh (HA.out.kept HG.out)
 replace HB := lh (HB.out.kept HG.out)
 have d6 := HB0.out.at 6
 go_wp2_with fail
 clear d6
 go_loopw [11, 5] (fun v11 v5 wr => ∃ j : Nat, v11 = .int .i64 (j : Int) ∧ j ≤ xs.length ∧ wr.ownsRow W.heap.size 3 1 v5 (bothR xs ys j).length ((bothR xs ys j).map (Value.int .i64)) ∧ W.grownBy wr none) (fun v11 _ _ => xs.length - (intOf v11).toNat)
 case atStart => exact ⟨0, rfl, by omega, World.ownsRow_nil _ _ _ _, gR _ _⟩
 case round =>
  obtain ⟨j, rfl, hj, ho, hgr⟩ := hrel
  have HO := lh ho
  have HGR := lh hgr
  clear ho hgr
  by_cases hlt : j < xs.length
  ·obtain ⟨ad, rfl, hc⟩ := (HA.out.kept HGR.out) j hlt
   obtain ⟨x, hx⟩ : ∃ x, x = xs.getD j 0 := ⟨_, rfl⟩
   rw [← hx] at hc
   have HX := lh hx
   clear hx
   have e6 := (HB1.out.g HGR.out).at 6
   have hlr := bothR_len xs ys j
   have HCB := lh (has_calls (HB.out.kept HGR.out) HS.out bc x hbl)
   obtain ⟨T, hT⟩ : ∃ T, T = bothR xs ys j := ⟨_, rfl⟩
   rw [← hT] at HO hlr
   have hn : bothR xs ys (j + 1) = if ys.contains x && !T.contains x then T ++ [x] else T := by rw [HX.out, hT]; rfl
   have HN := lh hn
   have HCO := lh (has_own HO.out x (by omega))
   clear hn hT
   obtain ⟨C1, hC1⟩ : ∃ C1, C1 = ys.contains x := ⟨_, rfl⟩
   obtain ⟨C2, hC2⟩ : ∃ C2, C2 = T.contains x := ⟨_, rfl⟩
   rw [← hC1] at HCB HN
   rw [← hC2] at HCO HN
   clear hC1 hC2
   go_wp2_with fail
   refine HCB.out.mono ?_
   rintro e w2 ⟨rfl, rfl⟩
   cases C1
   ·go_wp2_with fail
    exact ⟨⟨j + 1, by simp, by omega, by rw [HN.out]; exact HO.out, HGR.out⟩, by simp [intOf]; omega⟩
   ·go_wp2_with fail
    refine HCO.out.mono ?_
    rintro e w2 ⟨rfl, rfl⟩
    cases C2
    ·go_wp2_with (at_builtin; refine wpList_push rfl _ _ 62 rfl W.heap.size 3 i0 (.int .i64 0) 1 8 Tryz.underlying62 HI.out rfl (by decide) _ T.length (T.map (Value.int .i64)) rfl HO.out rfl rfl (by simp [Value.oneCell']) (by unfold maxLen; omega) (by omega) HGR.out.size ?_; intro v6 w6 h6 hg6; have H6 := lh h6; have HG6 := lh (own_grown HGR.out HO.out (Nat.le_refl _) hg6); clear h6 hg6)
     exact ⟨⟨j + 1, by simp, by omega, by rw [HN.out]; simpa using H6.out, HG6.out⟩, by simp [intOf]; omega⟩
    ·go_wp2_with fail
     exact ⟨⟨j + 1, by simp, by omega, by rw [HN.out]; exact HO.out, HGR.out⟩, by simp [intOf]; omega⟩
  ·have hje : j = xs.length := by omega
   subst hje
   have hlr := bothR_len xs ys xs.length
   have HSO := lh (sort_own HO.out (by omega))
   go_wp2_with fail
   refine HSO.out.mono ?_
   rintro e w2 ⟨rfl, h1, g, hg1, hg2⟩
   have HFI := lh (And.intro h1 (gnew (g2 HG.out HGR.out) hg2 (Nat.le_trans HG.out.size hg1)))
   clear h1 hg2
   go_wp2_with fail
   go_ret
   refine ⟨_, rfl, ?_, HFI.out.2⟩
   have h1 := HFI.out.1
   unfold bothF
   rw [List.length_mergeSort]
   exact own_base h1 HG.out.size
end
end Go.Proofs.YtndfpmboanohcaaGreatDoor
namespace Go.Proofs.YtndfpmboanohcaaGreatDoor
set_option maxRecDepth 100000
open Go.RowKit Go.Maps SkipPure
def viewV (je jr fe fr ep : Int) (m : Nat) : Value := .agg #[.int .i64 je, .int .u64 jr, .int .i64 fe, .int .u64 fr, .int .i64 ep, .map (some m)]
def srcs (G : Int → Option Int) : Int → Option Value := fun r => (G r).map fun x => .int .i64 x
def leafF (F : Int → Option (Int × Int × Int)) (f : Int) (G : Int → Option Int) (je fr ep root : Int) : Bool :=
 (je == 0 || (G root).getD 0 == je || decide (ep ≤ (G root).getD 0 + 2)) && belowT F f root fr
theorem zeroI (w : World) : (zeroValue 3).run Tryz.prog w = .ok (.int .i64 0) w := by kernel_rfl
theorem leaf_calls {w : World} {p b n : Nat} {f : Int} {F : Int → Option (Int × Int × Int)} (h : TreeAt w p b n f F) (W : WellT f F) {m mn : Nat} {G : Int → Option Int} (hG : RawMap Tryz.prog 27 w m mn (srcs G))
  {je jr fe fr ep root : Int} (hr : inU root) (hf : inU fr) (hs : 0 ≤ (G root).getD 0 ∧ (G root).getD 0 ≤ 1099511627776) :
  Calls Tryz.prog 154 #[.pointer (some ⟨p, 0, none⟩), viewV je jr fe fr ep m, .int .u64 root] w fun e w' => e = .returned (.bool (leafF F f G je fr ep root)) ∧ w.grownBy w' none := by
 have HH := lh h
 have HM := lh hG
 clear h hG
 unfold viewV leafF
 have hg := World.grownBy_alloc w (Obj.cells #[.int .i64 je, .int .u64 jr, .int .i64 fe, .int .u64 fr, .int .i64 ep, .map (some m)] 278) none
 have hlk := (HM.out.kept hg (by simp)).look (mt := 276) Tryz.underlying27 Tryz.underlying276 (zeroI _) hr
 obtain ⟨s, hse⟩ : ∃ s, s = (G root).getD 0 := ⟨_, rfl⟩
 have e1 : (srcs G root).getD (.int .i64 0) = .int .i64 s := by rw [hse]; unfold srcs; cases G root <;> rfl
 rw [e1] at hlk
 rw [← hse] at hs ⊢
 have HG := lh hg
 obtain ⟨hs0, hs1⟩ := hs
 clear e1 hse hg
 obtain ⟨B, hB⟩ : ∃ B, B = belowT F f root fr := ⟨_, rfl⟩
 rw [← hB]
 have hbel := tbelow_calls (HH.out.kept HG.out (by simp)) W hr hf
 rw [← hB] at hbel
 have HBEL := lh hbel
 clear hbel hB
 cases g0 : je == 0 <;> cases g1 : s == je <;> cases g3 : decide (ep ≤ s + 2)
 all_goals
  go_enter Tryz.func154, Tryz.ntmps154
  go_wp2_with (go_at_call 70; refine HBEL.out.mono ?_; rintro e w2 ⟨rfl, hg2⟩; have HG2 := lh (g2 HG.out hg2); clear hg2)
  go_ret
  first
   | exact ⟨by simp, HG2.out⟩
   | exact ⟨by simp, HG.out⟩
end Go.Proofs.YtndfpmboanohcaaGreatDoor
