/- Contracts of package tree, as far as trees of numbers want them: Of, Has, and Add where it takes the block. -/
import Derived.Test.YtndfpmboanohcaaGreatDoorLow
namespace Go.Proofs.YtndfpmboanohcaaGreatDoor
set_option maxRecDepth 100000
open Go.RowKit Go.Maps SkipPure

def tnode (x : Int × Int × Int) : Value := .agg #[.int .u64 x.1, .int .i64 x.2.1, .int .i64 x.2.2]
def tfun (F : Int → Option (Int × Int × Int)) : Int → Option Value := fun r => (F r).map tnode
def tset (F : Int → Option (Int × Int × Int)) (k : Int) (x : Int × Int × Int) : Int → Option (Int × Int × Int) := fun r => if r = k then some x else F r
theorem tfun_set (F : Int → Option (Int × Int × Int)) (k : Int) (x : Int × Int × Int) : upd (tfun F) k (tnode x) = tfun (tset F k x) := by
  funext r
  unfold upd tfun tset
  by_cases e : r = k
  · simp [e]
  · simp [e]

def TreeAt (w : World) (p b n : Nat) (f : Int) (F : Int → Option (Int × Int × Int)) : Prop :=
  p ≠ b ∧ w.heap[p]? = some (.cells #[.int .u64 f, .map (some b)] 171 (0, 0)) ∧ RawMap Tryz.prog 27 w b n (tfun F)

theorem zero62 (w : World) : (zeroValue 168).run Tryz.prog w = .ok (.agg #[.int .u64 0, .int .i64 0, .int .i64 0]) w := by kernel_rfl

theorem TreeAt.kept {w w' : World} {p b n : Nat} {f : Int} {F : Int → Option (Int × Int × Int)} {row : Option Nat} (h : TreeAt w p b n f F) (hg : w.grownBy w' row) (hr : row ≠ some p ∧ row ≠ some b) : TreeAt w' p b n f F := by
  obtain ⟨h1, h2, h3⟩ := h
  have hlt : p < w.heap.size := (Array.getElem?_eq_some_iff.1 h2).1
  exact ⟨h1, (hg.block p hlt (fun e => hr.1 e.symm)).trans h2, h3.kept hg (fun e => hr.2 e.symm)⟩

theorem tof_calls (w : World) {r s : Int} (hr : inU r) :
    Calls Tryz.prog 28 #[.int .u64 r, .int .i64 s] w fun e w' => ∃ p b, e = .returned (.pointer (some ⟨p, 0, none⟩)) ∧ TreeAt w' p b 1 r (fun x => if x = r then some (r, s, 0) else none) ∧ w.heap.size ≤ p ∧ w.heap.size ≤ b ∧ w.grownBy w' none := by
  have hmm := @run_makeMap Tryz.prog
  go_enter Tryz.func28, Tryz.ntmps28
  go_wp2_with (refine wpList_store_raw (RawMap.made Tryz.prog 27 _) rfl _ _ _ 169 (Or.inr rfl) Tryz.underlying27 Tryz.underlying169 (by unfold maxLen; omega) hr rfl _ rfl rfl rfl ?_; intro w1 hF hg)
  have hlt : w.heap.size < w1.heap.size := by have := hg.size; simp at this; omega
  go_ret
  have e : upd (fun _ => none) r (Value.agg #[.int .u64 r, .int .i64 s, .int .i64 0]) = tfun (fun x => if x = r then some (r, s, 0) else none) := by
    funext x
    unfold upd tfun
    by_cases e : x = r <;> simp [e, tnode]
  refine ⟨w1.heap.size, w.heap.size, rfl, ⟨by omega, (MapKept.heap_alloc w1 _).1, ?_⟩, by omega, Nat.le_refl _, ?_⟩
  · rw [← e]
    exact hF.kept (World.grownBy_alloc w1 _ none) (by simp)
  · refine ((World.grownBy_alloc w _ none).andThen hg (fun j e => Or.inl ?_)).andThen (World.grownBy_alloc w1 _ none) (fun j e => by cases e)
    cases e
    exact Nat.le_refl _

theorem thas_calls {w : World} {p b n : Nat} {f : Int} {F : Int → Option (Int × Int × Int)} (h : TreeAt w p b n f F) {r : Int} (hr : inU r) :
    Calls Tryz.prog 66 #[.pointer (some ⟨p, 0, none⟩), .int .u64 r] w fun e w' => e = .returned (.bool (F r).isSome) ∧ w.grownBy w' none := by
  obtain ⟨h1, h2, h3⟩ := h
  have c1 : w.cell? ⟨p, 1, none⟩ = some (.map (some b)) := by simp [World.cell?, h2]
  have hl := h3.look_ok Tryz.underlying27 Tryz.underlying169 (zero62 w) hr
  clear h3 h2
  unfold tfun at hl
  cases hF : F r with
  | none =>
    rw [hF] at hl
    simp only [Option.map_none, Option.getD_none, Option.isSome_none] at hl ⊢
    clear hF
    go_enter Tryz.func66, Tryz.ntmps66
    go_wp2
    go_ret
    exact ⟨rfl, World.grownBy_alloc _ _ _⟩
  | some x =>
    rw [hF] at hl
    simp only [Option.map_some, Option.getD_some, Option.isSome_some, tnode] at hl ⊢
    clear hF
    go_enter Tryz.func66, Tryz.ntmps66
    go_wp2
    go_ret
    exact ⟨rfl, World.grownBy_alloc _ _ _⟩

set_option maxRecDepth 100000 in
set_option maxHeartbeats 1000000 in
theorem tadd_calls {w : World} {p b n : Nat} {f : Int} {F : Int → Option (Int × Int × Int)} (h : TreeAt w p b n f F) {r q s qq qs qh : Int} (hr : inU r) (hq : inU q) (hF : F q = some (qq, qs, qh)) (hn : F r = none) (hs : qs < s) (hsz : n < 1024) (hh : 0 ≤ qh ∧ qh ≤ 1000000) :
    Calls Tryz.prog 50 #[.pointer (some ⟨p, 0, none⟩), .int .u64 r, .int .u64 q, .int .i64 s] w fun e w' => e = .returned .nilIface ∧ TreeAt w' p b (n + 1) f (tset F r (q, s, qh + 1)) ∧ w.grownBy w' (some b) := by
  have HH := Lib.hid h
  obtain ⟨h1, h2, h3⟩ := h
  obtain ⟨hh0, hh1⟩ := hh
  have c1 : w.cell? ⟨p, 1, none⟩ = some (.map (some b)) := by simp [World.cell?, h2]
  have hl := h3.look_ok Tryz.underlying27 Tryz.underlying169 (zero62 w) hq
  unfold tfun at hl
  rw [hF] at hl
  simp only [Option.map_some, Option.getD_some, Option.isSome_some, tnode] at hl
  clear h2 h3 hF
  have HN := Lib.hid hn
  clear hn
  have hlen1 : decide ((1024 : Int) ≤ (n : Int)) = false := decide_eq_false (by omega)
  go_enter Tryz.func50, Tryz.ntmps50
  go_wp2_with fail
  have h' := HH.out.kept (World.grownBy_alloc w (Obj.cells #[.int .u64 qq, .int .i64 qs, .int .i64 qh] 168) none) (by simp)
  have hblk := (MapKept.heap_alloc w (Obj.cells #[.int .u64 qq, .int .i64 qs, .int .i64 qh] 168)).1
  have HBLK := Lib.hid hblk
  have HH' := Lib.hid h'
  clear h' hblk
  refine (thas_calls HH'.out hr).mono ?_
  rintro e w1 ⟨rfl, hg⟩
  rw [HN.out]
  simp only [Option.isSome_none]
  have hb1 := (hg.block w.heap.size (by simp) (by simp)).trans HBLK.out
  have q1 : w1.cell? ⟨w.heap.size, 1, none⟩ = some (.int .i64 qs) := by simp [World.cell?, hb1]
  have q2 : w1.cell? ⟨w.heap.size, 2, none⟩ = some (.int .i64 qh) := by simp [World.cell?, hb1]
  have h1' := HH'.out.kept hg (by simp)
  have c1' : w1.cell? ⟨p, 1, none⟩ = some (.map (some b)) := by simp [World.cell?, h1'.2.1]
  have hlen := h1'.2.2.len Tryz.underlying169 3
  have HT := Lib.hid h1'
  have HG := Lib.hid hg
  clear h1' hg hb1
  go_wp2
  have hwr : IntKind.i64.wrap (qh + 1) = qh + 1 := IntWalk.i64_in _ (by omega)
  go_still_tail 11, (by kernel_rfl)
  change wpList _ _ _ _ _ w1.drew
  refine wpList_store_raw (HT.out.2.2.kept (gdrew (World.grownBy.refl w1 none)) (by simp)) rfl _ _ _ 169 (Or.inl rfl) Tryz.underlying27 Tryz.underlying169 (by unfold maxLen; omega) hr (by unfold tfun; rw [HN.out]; rfl) (Value.agg #[.int .u64 q, .int .i64 s, .int .i64 (qh + 1)]) rfl rfl rfl ?_
  intro w4 hF4 hg4
  have HF4 := Lib.hid hF4
  have HG4 := Lib.hid hg4
  clear hF4 hg4
  go_wp2
  go_ret
  have hg5 : w1.grownBy w4 (some b) := ⟨HG4.out.os, HG4.out.tape, HG4.out.output, HG4.out.size, HG4.out.block⟩
  refine ⟨rfl, ⟨HT.out.1, ?_, ?_⟩, ?_⟩
  · exact (hg5.block p (Array.getElem?_eq_some_iff.1 HT.out.2.1).1 (fun e => HT.out.1 (Option.some.inj e))).trans HT.out.2.1
  · have := HF4.out
    rw [show (Value.agg #[.int .u64 q, .int .i64 s, .int .i64 (qh + 1)]) = tnode (q, s, qh + 1) from rfl, tfun_set] at this
    exact this
  · have hg6 := (World.grownBy_alloc w (Obj.cells #[.int .u64 qq, .int .i64 qs, .int .i64 qh] 168) none).andThen HG.out (fun j e => by cases e)
    exact ⟨hg5.os.trans hg6.os, hg5.tape.trans hg6.tape, hg5.output.trans hg6.output, Nat.le_trans hg6.size hg5.size, fun j hj hne => (hg5.block j (Nat.lt_of_lt_of_le hj hg6.size) hne).trans (hg6.block j hj (by simp))⟩
end Go.Proofs.YtndfpmboanohcaaGreatDoor
