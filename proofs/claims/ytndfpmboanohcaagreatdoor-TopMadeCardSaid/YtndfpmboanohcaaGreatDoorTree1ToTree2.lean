/- Contracts of package tree, as far as trees of numbers want them: Of, Has, and Add where it takes the block. -/
import Derived.Test.YtndfpmboanohcaaGreatDoorConfToLow
namespace Go.Proofs.YtndfpmboanohcaaGreatDoor
set_option maxRecDepth 100000
open Go.RowKit Go.Maps SkipPure
def tnode (x : Int × Int × Int) : Value := .agg #[.int .u64 x.1, .int .i64 x.2.1, .int .i64 x.2.2]
def tfun (F : Int → Option (Int × Int × Int)) : Int → Option Value := fun r => (F r).map tnode
def tset (F : Int → Option (Int × Int × Int)) (k : Int) (x : Int × Int × Int) : Int → Option (Int × Int × Int) := fun r => if r = k then some x else F r
theorem tfun_set (F : Int → Option (Int × Int × Int)) (k : Int) (x : Int × Int × Int) : upd (tfun F) k (tnode x) = tfun (tset F k x) := by
 funext r
 unfold upd tfun tset
 by_cases e : r = k
 ·simp [e]
 ·simp [e]
def TreeAt (w : World) (p b n : Nat) (f : Int) (F : Int → Option (Int × Int × Int)) : Prop :=
 p ≠ b ∧ w.heap[p]? = some (.cells #[.int .u64 f, .map (some b)] 171 (0, 0)) ∧ RawMap Tryz.prog 27 w b n (tfun F)
theorem zero62 (w : World) : (zeroValue 168).run Tryz.prog w = .ok (.agg #[.int .u64 0, .int .i64 0, .int .i64 0]) w := by kernel_rfl
theorem TreeAt.kept {w w' : World} {p b n : Nat} {f : Int} {F : Int → Option (Int × Int × Int)} {row : Option Nat} (h : TreeAt w p b n f F) (hg : w.grownBy w' row) (hr : row ≠ some p ∧ row ≠ some b) : TreeAt w' p b n f F := by
 obtain ⟨h1, h2, h3⟩ := h
 have hlt : p < w.heap.size := (Array.getElem?_eq_some_iff.1 h2).1
 exact ⟨h1, (hg.block p hlt (fun e => hr.1 e.symm)).trans h2, h3.kept hg (fun e => hr.2 e.symm)⟩
theorem tof_calls (w : World) {r s : Int} (hr : inU r) :
  Calls Tryz.prog 28 #[.int .u64 r, .int .i64 s] w fun e w' => ∃ p b, e = .returned (.pointer (some ⟨p, 0, none⟩)) ∧ TreeAt w' p b 1 r (fun x => if x = r then some (r, s, 0) else none) ∧ w.heap.size ≤ p ∧ w.heap.size ≤ b ∧ w.grownBy w' none := by
 have hmm := @run_makeMap Tryz.prog
 go_enter Tryz.func28, Tryz.ntmps28
 go_wp2_with (refine wpList_store_raw (RawMap.made Tryz.prog 27 _) rfl _ _ _ 169 (Or.inr rfl) Tryz.underlying27 Tryz.underlying169 (by unfold maxLen; omega) hr rfl _ rfl rfl rfl ?_; intro w1 hF hg)
 have hlt : w.heap.size < w1.heap.size := by have := hg.size; simp at this; omega
 go_ret
 have e : upd (fun _ => none) r (Value.agg #[.int .u64 r, .int .i64 s, .int .i64 0]) = tfun (fun x => if x = r then some (r, s, 0) else none) := by
  funext x
  unfold upd tfun
  by_cases e : x = r <;> simp [e, tnode]
 refine ⟨w1.heap.size, w.heap.size, rfl, ⟨by omega, (MapKept.heap_alloc w1 _).1, ?_⟩, by omega, Nat.le_refl _, ?_⟩
 ·rw [← e]
  exact hF.kept (World.grownBy_alloc w1 _ none) (by simp)
 ·refine ((World.grownBy_alloc w _ none).andThen hg (fun j e => Or.inl ?_)).andThen (World.grownBy_alloc w1 _ none) (fun j e => by cases e)
  cases e
  exact Nat.le_refl _
theorem thas_calls {w : World} {p b n : Nat} {f : Int} {F : Int → Option (Int × Int × Int)} (h : TreeAt w p b n f F) {r : Int} (hr : inU r) :
  Calls Tryz.prog 66 #[.pointer (some ⟨p, 0, none⟩), .int .u64 r] w fun e w' => e = .returned (.bool (F r).isSome) ∧ w.grownBy w' none := by
 obtain ⟨h1, h2, h3⟩ := h
 have c1 : w.cell? ⟨p, 1, none⟩ = some (.map (some b)) := by simp [World.cell?, h2]
 have hl := h3.look_ok Tryz.underlying27 Tryz.underlying169 (zero62 w) hr
 clear h3 h2
 unfold tfun at hl
 cases hF : F r with
 | none =>
  rw [hF] at hl
  simp only [Option.map_none, Option.getD_none, Option.isSome_none] at hl ⊢
  clear hF
  go_enter Tryz.func66, Tryz.ntmps66
  go_wp2
  go_ret
  exact ⟨rfl, World.grownBy_alloc _ _ _⟩
 | some x =>
  rw [hF] at hl
  simp only [Option.map_some, Option.getD_some, Option.isSome_some, tnode] at hl ⊢
  clear hF
  go_enter Tryz.func66, Tryz.ntmps66
  go_wp2
  go_ret
  exact ⟨rfl, World.grownBy_alloc _ _ _⟩
set_option maxRecDepth 100000 in
set_option maxHeartbeats 1000000 in
theorem tadd_calls {w : World} {p b n : Nat} {f : Int} {F : Int → Option (Int × Int × Int)} (h : TreeAt w p b n f F) {r q s qq qs qh : Int} (hr : inU r) (hq : inU q) (hF : F q = some (qq, qs, qh)) (hn : F r = none) (hs : qs < s) (hsz : n < 1024) (hh : 0 ≤ qh ∧ qh ≤ 1000000) :
  Calls Tryz.prog 50 #[.pointer (some ⟨p, 0, none⟩), .int .u64 r, .int .u64 q, .int .i64 s] w fun e w' => e = .returned .nilIface ∧ TreeAt w' p b (n + 1) f (tset F r (q, s, qh + 1)) ∧ w.grownBy w' (some b) := by
 have HH := lh h
 obtain ⟨h1, h2, h3⟩ := h
 obtain ⟨hh0, hh1⟩ := hh
 have c1 : w.cell? ⟨p, 1, none⟩ = some (.map (some b)) := by simp [World.cell?, h2]
 have hl := h3.look_ok Tryz.underlying27 Tryz.underlying169 (zero62 w) hq
 unfold tfun at hl
 rw [hF] at hl
 simp only [Option.map_some, Option.getD_some, Option.isSome_some, tnode] at hl
 clear h2 h3 hF
 have HN := lh hn
 clear hn
 have hlen1 : decide ((1024 : Int) ≤ (n : Int)) = false := decide_eq_false (by omega)
 go_enter Tryz.func50, Tryz.ntmps50
 go_wp2_with fail
 have h' := HH.out.kept (World.grownBy_alloc w (Obj.cells #[.int .u64 qq, .int .i64 qs, .int .i64 qh] 168) none) (by simp)
 have hblk := (MapKept.heap_alloc w (Obj.cells #[.int .u64 qq, .int .i64 qs, .int .i64 qh] 168)).1
 have HBLK := lh hblk
 have HH' := lh h'
 clear h' hblk
 refine (thas_calls HH'.out hr).mono ?_
 rintro e w1 ⟨rfl, hg⟩
 rw [HN.out]
 simp only [Option.isSome_none]
 have hb1 := (hg.block w.heap.size (by simp) (by simp)).trans HBLK.out
 have q1 : w1.cell? ⟨w.heap.size, 1, none⟩ = some (.int .i64 qs) := by simp [World.cell?, hb1]
 have q2 : w1.cell? ⟨w.heap.size, 2, none⟩ = some (.int .i64 qh) := by simp [World.cell?, hb1]
 have h1' := HH'.out.kept hg (by simp)
 have c1' : w1.cell? ⟨p, 1, none⟩ = some (.map (some b)) := by simp [World.cell?, h1'.2.1]
 have hlen := h1'.2.2.len Tryz.underlying169 3
 have HT := lh h1'
 have HG := lh hg
 clear h1' hg hb1
 go_wp2
 have hwr : IntKind.i64.wrap (qh + 1) = qh + 1 := IntWalk.i64_in _ (by omega)
 go_still_tail 11, (by kernel_rfl)
 change wpList _ _ _ _ _ w1.drew
 refine wpList_store_raw (HT.out.2.2.kept (gdrew (gR w1 none)) (by simp)) rfl _ _ _ 169 (Or.inl rfl) Tryz.underlying27 Tryz.underlying169 (by unfold maxLen; omega) hr (by unfold tfun; rw [HN.out]; rfl) (Value.agg #[.int .u64 q, .int .i64 s, .int .i64 (qh + 1)]) rfl rfl rfl ?_
 intro w4 hF4 hg4
 have HF4 := lh hF4
 have HG4 := lh hg4
 clear hF4 hg4
 go_wp2
 go_ret
 have hg5 : w1.grownBy w4 (some b) := ⟨HG4.out.os, HG4.out.tape, HG4.out.output, HG4.out.size, HG4.out.block⟩
 refine ⟨rfl, ⟨HT.out.1, ?_, ?_⟩, ?_⟩
 ·exact (hg5.block p (Array.getElem?_eq_some_iff.1 HT.out.2.1).1 (fun e => HT.out.1 (Option.some.inj e))).trans HT.out.2.1
 ·have := HF4.out
  rw [show (Value.agg #[.int .u64 q, .int .i64 s, .int .i64 (qh + 1)]) = tnode (q, s, qh + 1) from rfl, tfun_set] at this
  exact this
 ·have hg6 := (World.grownBy_alloc w (Obj.cells #[.int .u64 qq, .int .i64 qs, .int .i64 qh] 168) none).andThen HG.out (fun j e => by cases e)
  exact ⟨hg5.os.trans hg6.os, hg5.tape.trans hg6.tape, hg5.output.trans hg6.output, Nat.le_trans hg6.size hg5.size, fun j hj hne => (hg5.block j (Nat.lt_of_lt_of_le hj hg6.size) hne).trans (hg6.block j hj (by simp))⟩
def Box3 (w : World) (q : Nat) (x y z : Value) (T : TypeId) : Prop := w.heap[q]? = some (.cells #[x, y, z] T (0, 0))
section
variable {w w' : World} {q : Nat} {x y z : Value} {T : TypeId}
theorem Box3.kept (h : Box3 w q x y z T) (hg : w.grownBy w' none) : Box3 w' q x y z T := by
 unfold Box3 at *
 rw [hg.block q (Array.getElem?_eq_some_iff.1 h).1 (by simp)]
 exact h
theorem Box3.alloc (w : World) (x y z : Value) (T : TypeId) : Box3 (w.alloc (.cells #[x, y, z] T)) w.heap.size x y z T := by
 unfold Box3
 simpa using (MapKept.heap_alloc w (.cells #[x, y, z] T)).1
theorem Box3.c0 (h : Box3 w q x y z T) : w.cell? ⟨q, 0, none⟩ = some x := cel h 0
theorem Box3.c1 (h : Box3 w q x y z T) : w.cell? ⟨q, 1, none⟩ = some y := cel h 1
theorem Box3.c2 (h : Box3 w q x y z T) : w.cell? ⟨q, 2, none⟩ = some z := cel h 2
end
section
variable {w : World} {p b n : Nat} {f : Int} {F : Int → Option (Int × Int × Int)}
structure WellT (f : Int) (F : Int → Option (Int × Int × Int)) : Prop where
 first : (F f).isSome = true
 up : ∀ r x, F r = some x → r ≠ f → ∃ y, F x.1 = some y ∧ y.2.1 < x.2.1
 key : ∀ r x, F r = some x → inU r
 slot : ∀ r x, F r = some x → 0 ≤ x.2.1 ∧ x.2.1 ≤ 1099511627776
 hgt : ∀ r x, F r = some x → 0 ≤ x.2.2 ∧ x.2.2 ≤ 1000000
theorem TreeAt.c0 (h : TreeAt w p b n f F) : w.cell? ⟨p, 0, none⟩ = some (.int .u64 f) := cel h.2.1 0
theorem TreeAt.c1 (h : TreeAt w p b n f F) : w.cell? ⟨p, 1, none⟩ = some (.map (some b)) := cel h.2.1 1
theorem tlen_calls (h : TreeAt w p b n f F) : Calls Tryz.prog 40 #[.pointer (some ⟨p, 0, none⟩)] w fun e w' => e = .returned (.int .i64 (n : Int)) ∧ w = w' := by
 have c1 := h.c1
 have hl := h.2.2.len Tryz.underlying169 3
 clear h
 go_enter Tryz.func40, Tryz.ntmps40
 go_wp2
 go_ret
 exact ⟨rfl, rfl⟩
theorem tfirst_calls (h : TreeAt w p b n f F) : Calls Tryz.prog 145 #[.pointer (some ⟨p, 0, none⟩)] w fun e w' => e = .returned (.int .u64 f) ∧ w = w' := by
 have c0 := h.c0
 clear h
 go_enter Tryz.func145, Tryz.ntmps145
 go_wp2
 go_ret
 exact ⟨rfl, rfl⟩
theorem results_tmp4 {fn : Func} {t u v x : Tmp} (h : fn.results = #[.tmp t, .tmp u, .tmp v, .tmp x]) (tmps : Array Value) (P : Program) (w : World) :
  (results fn tmps).run P w = Result.ok (.tuple #[tmps.getD t undef, tmps.getD u undef, tmps.getD v undef, tmps.getD x undef]) w := by
 simp [results, h]
def getT (F : Int → Option (Int × Int × Int)) (r : Int) : Int × Int × Int := (F r).getD (0, 0, 0)
theorem tget_calls (h : TreeAt w p b n f F) {r : Int} (hr : inU r) :
  Calls Tryz.prog 33 #[.pointer (some ⟨p, 0, none⟩), .int .u64 r] w fun e w' => e = .returned (.tuple #[.int .u64 (getT F r).1, .int .i64 (getT F r).2.1, .int .i64 (getT F r).2.2, .bool (F r).isSome]) ∧ w.grownBy w' none := by
 have c1 := h.c1
 have hl := h.2.2.look_ok Tryz.underlying27 Tryz.underlying169 (zero62 w) hr
 clear h
 unfold tfun at hl
 unfold getT
 cases hF : F r with
 | none =>
  rw [hF] at hl
  simp only [Option.map_none, Option.getD_none, Option.isSome_none] at hl ⊢
  clear hF
  go_enter Tryz.func33, Tryz.ntmps33
  go_wp2
  have hx := Box3.alloc w (.int .u64 0) (.int .i64 0) (.int .i64 0) 168
  have hgb := World.grownBy_alloc w (Obj.cells #[.int .u64 0, .int .i64 0, .int .i64 0] 168) none
  obtain ⟨q, hq⟩ : ∃ q, q = w.heap.size := ⟨_, rfl⟩
  rw [← hq] at hx ⊢
  clear hq
  generalize w.alloc (Obj.cells #[.int .u64 0, .int .i64 0, .int .i64 0] 168) = wb at hx hgb ⊢
  have d0 := hx.c0
  have d1 := hx.c1
  have d2 := hx.c2
  have HG := lh hgb
  clear hx hgb
  go_quiet (fail)
  go_wp2
  (try simp only [Exit.inBlock, Exit.then]); refine bodyPost_ret (results_tmp4 rfl _ _ _) rfl ?_
  exact ⟨rfl, g2 HG.out (drewN_grown _ _)⟩
 | some x =>
  obtain ⟨x0, x1, x2⟩ := x
  rw [hF] at hl
  simp only [Option.map_some, Option.getD_some, Option.isSome_some, tnode] at hl ⊢
  clear hF
  go_enter Tryz.func33, Tryz.ntmps33
  go_wp2
  have hx := Box3.alloc w (.int .u64 x0) (.int .i64 x1) (.int .i64 x2) 168
  have hgb := World.grownBy_alloc w (Obj.cells #[.int .u64 x0, .int .i64 x1, .int .i64 x2] 168) none
  obtain ⟨q, hq⟩ : ∃ q, q = w.heap.size := ⟨_, rfl⟩
  rw [← hq] at hx ⊢
  clear hq
  generalize w.alloc (Obj.cells #[.int .u64 x0, .int .i64 x1, .int .i64 x2] 168) = wb at hx hgb ⊢
  have d0 := hx.c0
  have d1 := hx.c1
  have d2 := hx.c2
  have HG := lh hgb
  clear hx hgb
  go_quiet (fail)
  go_wp2
  (try simp only [Exit.inBlock, Exit.then]); refine bodyPost_ret (results_tmp4 rfl _ _ _) rfl ?_
  exact ⟨rfl, g2 HG.out (drewN_grown _ _)⟩
def upT (F : Int → Option (Int × Int × Int)) (f s : Int) : Nat → Int → Int
 | 0, r => r
 | k + 1, r => match F r with
  | none => 0
  | some x => if r ≠ f ∧ s < x.2.1 then upT F f s k x.1 else r
def slotT (F : Int → Option (Int × Int × Int)) (r : Int) : Nat := ((F r).getD (0, 0, 0)).2.1.toNat
def atT (F : Int → Option (Int × Int × Int)) (f r s : Int) : Int := upT F f s (slotT F r + 1) r
theorem upT_fuel {f : Int} {F : Int → Option (Int × Int × Int)} (W : WellT f F) (s : Int) : ∀ (k j : Nat) (r : Int), slotT F r < k → slotT F r < j → upT F f s k r = upT F f s j r
 | 0, _, _, h, _ => by omega
 | _, 0, _, _, h => by omega
 | k + 1, j + 1, r, hk, hj => by
  unfold upT
  cases hF : F r with
  | none => rfl
  | some x =>
   simp only
   by_cases c : r ≠ f ∧ s < x.2.1
   ·rw [if_pos c, if_pos c]
    obtain ⟨y, hy, hlt⟩ := W.up r x hF c.1
    have h1 := W.slot _ _ hF
    have h2 := W.slot _ _ hy
    have e1 : slotT F r = x.2.1.toNat := by unfold slotT; rw [hF]; rfl
    have e2 : slotT F x.1 = y.2.1.toNat := by unfold slotT; rw [hy]; rfl
    exact upT_fuel W s k j x.1 (by omega) (by omega)
   ·rw [if_neg c, if_neg c]
theorem atT_step {f : Int} {F : Int → Option (Int × Int × Int)} (W : WellT f F) {s r : Int} {x : Int × Int × Int} (hF : F r = some x) (c : r ≠ f ∧ s < x.2.1) : atT F f r s = atT F f x.1 s := by
 obtain ⟨y, hy, hlt⟩ := W.up r x hF c.1
 have h1 := W.slot _ _ hF
 have h2 := W.slot _ _ hy
 have e1 : slotT F r = x.2.1.toNat := by unfold slotT; rw [hF]; rfl
 have e2 : slotT F x.1 = y.2.1.toNat := by unfold slotT; rw [hy]; rfl
 have e : atT F f r s = upT F f s (slotT F r) x.1 := by
  unfold atT
  rw [upT, hF]
  simp only
  rw [if_pos c]
 rw [e]
 exact upT_fuel W s _ _ _ (by omega) (by omega)
theorem atT_stop {f : Int} {F : Int → Option (Int × Int × Int)} {s r : Int} {x : Int × Int × Int} (hF : F r = some x) (c : ¬ (r ≠ f ∧ s < x.2.1)) : atT F f r s = r := by
 unfold atT
 rw [upT, hF]
 simp only
 rw [if_neg c]
theorem atT_none {f : Int} {F : Int → Option (Int × Int × Int)} {s r : Int} (hF : F r = none) : atT F f r s = 0 := by
 unfold atT
 rw [upT, hF]
theorem Box3.set {w0 w : World} {q : Nat} {x y z : Value} {T : TypeId} (h : Box3 w q x y z T) (hq : w0.heap.size ≤ q) (hg : w0.grownBy w none) (x' y' z' : Value) :
  Box3 (((w.setCell ⟨q, 0, none⟩ x').setCell ⟨q, 1, none⟩ y').setCell ⟨q, 2, none⟩ z') q x' y' z' T ∧ w0.grownBy (((w.setCell ⟨q, 0, none⟩ x').setCell ⟨q, 1, none⟩ y').setCell ⟨q, 2, none⟩ z') none := by
 have h1 := heap_setCell_same w q 0 _ T x' h
 have h2 := heap_setCell_same _ q 1 _ T y' h1
 have h3 := heap_setCell_same _ q 2 _ T z' h2
 exact ⟨h3, set_grown _ hq (set_grown _ hq (set_grown _ hq hg))⟩
theorem tat_calls (h : TreeAt w p b n f F) (W : WellT f F) {r : Int} (hr : inU r) (s : Int) :
  Calls Tryz.prog 48 #[.pointer (some ⟨p, 0, none⟩), .int .u64 r, .int .i64 s] w fun e w' => e = .returned (.int .u64 (atT F f r s)) ∧ w.grownBy w' none := by
 have HH := lh h
 have c1 := h.c1
 have hl := h.2.2.look_ok Tryz.underlying27 Tryz.underlying169 (zero62 w) hr
 clear h
 unfold tfun at hl
 cases hF : F r with
 | none =>
  rw [hF] at hl
  rw [atT_none hF]
  simp only [Option.map_none, Option.getD_none, Option.isSome_none] at hl ⊢
  clear hF
  go_enter Tryz.func48, Tryz.ntmps48
  go_wp2
  refine wp_loop_rounds 1 ?_
  rw [rounds_succ]
  go_wp2
  go_ret
  exact ⟨rfl, World.grownBy_alloc _ _ none⟩
 | some x =>
  have HF := lh hF
  obtain ⟨x0, x1, x2⟩ := x
  rw [hF] at hl
  simp only [Option.map_some, Option.getD_some, Option.isSome_some, tnode] at hl ⊢
  clear hF
  obtain ⟨R, hR⟩ : ∃ R, R = atT F f r s := ⟨_, rfl⟩
  rw [← hR]
  go_enter Tryz.func48, Tryz.ntmps48
  go_wp2
  have hx := Box3.alloc w (.int .u64 x0) (.int .i64 x1) (.int .i64 x2) 168
  have hgb := World.grownBy_alloc w (Obj.cells #[.int .u64 x0, .int .i64 x1, .int .i64 x2] 168) none
  obtain ⟨q, hq⟩ : ∃ q, q = w.heap.size := ⟨_, rfl⟩
  rw [← hq] at hx ⊢
  generalize w.alloc (Obj.cells #[.int .u64 x0, .int .i64 x1, .int .i64 x2] 168) = wb at hx hgb ⊢
  have HX := lh hx
  have HG := lh hgb
  have HQ := lh hq
  clear hx hgb hq hl
  have HR := lh hR
  clear hR
  go_loopw [1] (fun v1 wr => ∃ (r' y0 y1 y2 : Int), v1 = .int .u64 r' ∧ F r' = some (y0, y1, y2) ∧ R = atT F f r' s ∧ Box3 wr q (.int .u64 y0) (.int .i64 y1) (.int .i64 y2) 168 ∧ w.grownBy wr none) (fun v1 _ => slotT F (intOf v1))
  case atStart => exact ⟨r, x0, x1, x2, rfl, HF.out, HR.out, HX.out, HG.out⟩
  case round =>
   obtain ⟨r', y0, y1, y2, rfl, hF', hR', hB, hg⟩ := hrel
   have d0 := hB.c0
   have d1 := hB.c1
   have d2 := hB.c2
   have f0 : wr.frozen? ⟨q, 0, none⟩ = false := frz hB 0
   have f1 : wr.frozen? ⟨q, 1, none⟩ = false := frz hB 1
   have f2 : wr.frozen? ⟨q, 2, none⟩ = false := frz hB 2
   have hT := HH.out.kept hg (by simp)
   have t0 := hT.c0
   have t1 := hT.c1
   by_cases hrf : r' = f
   ·have hs := atT_stop (s := s) hF' (fun c => c.1 hrf)
    rw [hs] at hR'
    subst hR'
    have HG2 := lh hg
    subst hrf
    clear hF' hB hg hT hs
    go_wp2
    all_goals (go_ret; exact ⟨rfl, HG2.out⟩)
   ·have g0 : (r' == f) = false := beq_eq_false_iff_ne.2 hrf
    by_cases hsy : s < y1
    ·have g1 : decide (s < y1) = true := decide_eq_true hsy
     obtain ⟨z, hz, hzl⟩ := W.up r' _ hF' hrf
     obtain ⟨z0, z1, z2⟩ := z
     have hst := atT_step W (s := s) hF' ⟨hrf, hsy⟩
     have hlz := hT.2.2.look Tryz.underlying27 Tryz.underlying169 (zero62 wr) (W.key _ _ hz)
     unfold tfun at hlz
     rw [hz] at hlz
     simp only [Option.map_some, Option.getD_some, tnode] at hlz
     have HB := lh (hB.set (w0 := w) (by rw [HQ.out]; exact Nat.le_refl _) hg (.int .u64 z0) (.int .i64 z1) (.int .i64 z2))
     have e1 : slotT F r' = y1.toNat := by unfold slotT; rw [hF']; rfl
     have e2 : slotT F y0 = z1.toNat := by unfold slotT; rw [hz]; rfl
     have hy1 := (W.slot _ _ hF').1
     have hz1 := (W.slot _ _ hz).1
     simp only at hz hzl hst hy1 hz1
     have HZ := lh hz
     have HST := lh (hR'.trans hst)
     have hm : slotT F y0 < slotT F r' := by omega
     have HM := lh hm
     clear hF' hB hg hT hz hst hR' hzl hm e1 e2
     go_wp2
     exact ⟨⟨y0, z0, z1, z2, rfl, HZ.out, HST.out, HB.out.1, HB.out.2⟩, HM.out⟩
    ·have hs := atT_stop (f := f) (s := s) hF' (fun c => hsy c.2)
     rw [hs] at hR'
     subst hR'
     have HG2 := lh hg
     have g1 : decide (s < y1) = false := decide_eq_false hsy
     clear hF' hB hg hT hs
     go_wp2
     all_goals (go_ret; exact ⟨rfl, HG2.out⟩)
def belowT (F : Int → Option (Int × Int × Int)) (f r on : Int) : Bool :=
 match F on with
 | none => false
 | some x => (F r).isSome && (atT F f r x.2.1 == on)
theorem tbelow_calls (h : TreeAt w p b n f F) (W : WellT f F) {r on : Int} (hr : inU r) (ho : inU on) :
  Calls Tryz.prog 70 #[.pointer (some ⟨p, 0, none⟩), .int .u64 r, .int .u64 on] w fun e w' => e = .returned (.bool (belowT F f r on)) ∧ w.grownBy w' none := by
 have HH := lh h
 have c1 := h.c1
 have hl := h.2.2.look_ok Tryz.underlying27 Tryz.underlying169 (zero62 w) ho
 clear h
 unfold tfun at hl
 unfold belowT
 cases hF : F on with
 | none =>
  rw [hF] at hl
  simp only [Option.map_none, Option.getD_none, Option.isSome_none] at hl ⊢
  clear hF
  go_enter Tryz.func70, Tryz.ntmps70
  go_wp2
  go_ret
  exact ⟨rfl, World.grownBy_alloc _ _ none⟩
 | some x =>
  obtain ⟨x0, x1, x2⟩ := x
  rw [hF] at hl
  simp only [Option.map_some, Option.getD_some, Option.isSome_some, tnode] at hl ⊢
  clear hF
  go_enter Tryz.func70, Tryz.ntmps70
  go_wp2_with fail
  have hx := Box3.alloc w (.int .u64 x0) (.int .i64 x1) (.int .i64 x2) 168
  have hgb := World.grownBy_alloc w (Obj.cells #[.int .u64 x0, .int .i64 x1, .int .i64 x2] 168) none
  obtain ⟨q, hq⟩ : ∃ q, q = w.heap.size := ⟨_, rfl⟩
  rw [← hq] at hx ⊢
  clear hq hl
  generalize w.alloc (Obj.cells #[.int .u64 x0, .int .i64 x1, .int .i64 x2] 168) = wb at hx hgb ⊢
  have HX := lh hx
  have HG := lh hgb
  clear hx hgb
  refine (thas_calls (HH.out.kept HG.out (by simp)) hr).mono ?_
  rintro e w1 ⟨rfl, hg1⟩
  have HG1 := lh (g2 HG.out hg1)
  have hx1 := HX.out.kept hg1
  have d1 := hx1.c1
  clear hg1 hx1
  cases hr' : (F r).isSome with
  | false =>
   have HRR := lh hr'
   clear hr'
   go_wp2
   go_ret
   exact ⟨by rw [HRR.out]; rfl, HG1.out⟩
  | true =>
   have HRR := lh hr'
   clear hr'
   go_wp2_with fail
   refine (tat_calls (HH.out.kept HG1.out (by simp)) W hr x1).mono ?_
   rintro e w2 ⟨rfl, hg2⟩
   have HG2 := lh (g2 HG1.out hg2)
   clear hg2
   obtain ⟨R, hR⟩ : ∃ R, R = atT F f r x1 := ⟨_, rfl⟩
   have HR := lh hR
   rw [← hR]
   clear hR
   go_wp2
   go_ret
   exact ⟨by rw [HRR.out, ← HR.out]; simp, HG2.out⟩
end
end Go.Proofs.YtndfpmboanohcaaGreatDoor
