/- Contracts of package latest. -/
import Derived.Test.YtndfpmboanohcaaGreatDoorKids
namespace Go.Proofs.YtndfpmboanohcaaGreatDoor
set_option maxRecDepth 100000
open Go.RowKit Go.Maps SkipPure

structure Ent where
  h : Bool
  e : Int
  r : Int
  b : Bool

def VAt (w : World) (g n : Nat) (V : Nat → Ent) : Prop :=
  ∃ cs : Array Value, w.heap[g]? = some (.cells cs 147 (0, 0)) ∧ cs.size = n * 4 ∧
    ∀ i, i < n → cs[i * 4]? = some (.bool (V i).h) ∧ cs[i * 4 + 1]? = some (.int .i64 (V i).e) ∧ cs[i * 4 + 2]? = some (.int .u64 (V i).r) ∧ cs[i * 4 + 3]? = some (.bool (V i).b)

def vset (V : Nat → Ent) (i : Nat) (x : Ent) : Nat → Ent := fun j => if j = i then x else V j

theorem VAt.cells {w : World} {g n : Nat} {V : Nat → Ent} (h : VAt w g n V) {i : Nat} (hi : i < n) :
    w.cell? ⟨g, i * 4, none⟩ = some (.bool (V i).h) ∧ w.cell? ⟨g, i * 4 + 1, none⟩ = some (.int .i64 (V i).e) ∧ w.cell? ⟨g, i * 4 + 2, none⟩ = some (.int .u64 (V i).r) ∧ w.cell? ⟨g, i * 4 + 3, none⟩ = some (.bool (V i).b) := by
  obtain ⟨cs, hb, _, hc⟩ := h
  obtain ⟨h0, h1, h2, h3⟩ := hc i hi
  exact ⟨(cel hb _).trans h0, (cel hb _).trans h1, (cel hb _).trans h2, (cel hb _).trans h3⟩
theorem VAt.frozen {w : World} {g n : Nat} {V : Nat → Ent} (h : VAt w g n V) (i : Nat) : w.frozen? ⟨g, i, none⟩ = false := by
  obtain ⟨cs, hb, _, _⟩ := h
  exact frz hb i
theorem VAt.lt {w : World} {g n : Nat} {V : Nat → Ent} (h : VAt w g n V) : g < w.heap.size := by
  obtain ⟨cs, hb, _, _⟩ := h
  exact (Array.getElem?_eq_some_iff.1 hb).1
theorem VAt.kept {w w' : World} {g n : Nat} {V : Nat → Ent} {row : Option Nat} (h : VAt w g n V) (hg : w.grownBy w' row) (hne : row ≠ some g) : VAt w' g n V := by
  have hl := h.lt
  obtain ⟨cs, hb, h2, h3⟩ := h
  exact ⟨cs, (hg.block g hl (fun e => hne e.symm)).trans hb, h2, h3⟩

theorem gset (w : World) (g i : Nat) (v : Value) : w.grownBy (w.setCell ⟨g, i, none⟩ v) (some g) :=
  ⟨rfl, rfl, rfl, by simp, fun j _ hne => heap_setCell_other _ _ _ _ (fun e => hne (by rw [e]))⟩
theorem gtrans {a b c : World} {g : Nat} (h : a.grownBy b (some g)) (k : b.grownBy c (some g)) : a.grownBy c (some g) :=
  h.andThen k (fun _ e => Or.inr e)

/-- One entry written, cell by cell. -/
theorem VAt.put {w : World} {g n : Nat} {V : Nat → Ent} (h : VAt w g n V) {i : Nat} (hi : i < n) (x : Ent) :
    VAt ((((w.setCell ⟨g, i * 4, none⟩ (.bool x.h)).setCell ⟨g, i * 4 + 1, none⟩ (.int .i64 x.e)).setCell ⟨g, i * 4 + 2, none⟩ (.int .u64 x.r)).setCell ⟨g, i * 4 + 3, none⟩ (.bool x.b)) g n (vset V i x) := by
  obtain ⟨cs, hb, hs, hc⟩ := h
  have h0 := heap_setCell_same w g (i * 4) cs 147 (.bool x.h) hb
  have h1 := heap_setCell_same _ g (i * 4 + 1) _ 147 (.int .i64 x.e) h0
  have h2 := heap_setCell_same _ g (i * 4 + 2) _ 147 (.int .u64 x.r) h1
  have h3 := heap_setCell_same _ g (i * 4 + 3) _ 147 (.bool x.b) h2
  refine ⟨_, h3, by simp [hs], fun j hj => ?_⟩
  obtain ⟨c0, c1, c2, c3⟩ := hc j hj
  simp only [Array.getElem?_setIfInBounds, Array.size_setIfInBounds, hs, vset]
  by_cases e : j = i
  · subst e
    simp only [if_true]
    refine ⟨?_, ?_, ?_, ?_⟩
    · rw [if_neg (by omega), if_neg (by omega), if_neg (by omega), if_pos (by omega)]
    · rw [if_neg (by omega), if_neg (by omega), if_pos (by omega)]
    · rw [if_neg (by omega), if_pos (by omega)]
    · rw [if_pos (by omega)]
  · rw [if_neg e]
    refine ⟨?_, ?_, ?_, ?_⟩
    · rw [if_neg (by omega), if_neg (by omega), if_neg (by omega), if_neg (by omega)]; exact c0
    · rw [if_neg (by omega), if_neg (by omega), if_neg (by omega), if_neg (by omega)]; exact c1
    · rw [if_neg (by omega), if_neg (by omega), if_neg (by omega), if_neg (by omega)]; exact c2
    · rw [if_neg (by omega), if_neg (by omega), if_neg (by omega), if_neg (by omega)]; exact c3

theorem VAt.ban {w : World} {g n : Nat} {V : Nat → Ent} (h : VAt w g n V) {i : Nat} (hi : i < n) :
    VAt (w.setCell ⟨g, i * 4 + 3, none⟩ (.bool true)) g n (vset V i ⟨(V i).h, (V i).e, (V i).r, true⟩) := by
  obtain ⟨cs, hb, hs, hc⟩ := h
  have h3 := heap_setCell_same w g (i * 4 + 3) cs 147 (.bool true) hb
  refine ⟨_, h3, by simp [hs], fun j hj => ?_⟩
  obtain ⟨c0, c1, c2, c3⟩ := hc j hj
  simp only [Array.getElem?_setIfInBounds, hs, vset]
  by_cases e : j = i
  · subst e
    rw [if_pos rfl]
    refine ⟨?_, ?_, ?_, ?_⟩
    · rw [if_neg (by omega)]; exact c0
    · rw [if_neg (by omega)]; exact c1
    · rw [if_neg (by omega)]; exact c2
    · rw [if_pos rfl, if_pos (by omega)]
  · rw [if_neg e]
    refine ⟨?_, ?_, ?_, ?_⟩
    · rw [if_neg (by omega)]; exact c0
    · rw [if_neg (by omega)]; exact c1
    · rw [if_neg (by omega)]; exact c2
    · rw [if_neg (by omega)]; exact c3

section
variable {w : World} {g n : Nat} {V : Nat → Ent}

theorem take_out (_ : n ≤ 4096) {k : Int} (hk : k < 0 ∨ (n : Int) ≤ k) (e r : Int) :
    Calls Tryz.prog 58 #[.slice (some ⟨g, 0, none⟩) n n, .int .i64 k, .int .i64 e, .int .u64 r] w fun z w' => z = .returned (.bool false) ∧ w = w' := by
  by_cases h0 : k < 0
  · go_enter Tryz.func58, Tryz.ntmps58
    go_wp2
    go_ret
    exact ⟨rfl, rfl⟩
  · have h1 : (n : Int) ≤ k := by omega
    have h2 : 0 ≤ k := by omega
    clear hk
    go_enter Tryz.func58, Tryz.ntmps58
    go_wp2
    go_ret
    exact ⟨rfl, rfl⟩

theorem take_no (h : VAt w g n V) (_ : n ≤ 4096) {i : Nat} (hi : i < n) (e r : Int) (hv : (V i).b = true ∨ (V i).h = true ∧ e ≤ (V i).e) :
    Calls Tryz.prog 58 #[.slice (some ⟨g, 0, none⟩) n n, .int .i64 i, .int .i64 e, .int .u64 r] w fun z w' => z = .returned (.bool false) ∧ w = w' := by
  obtain ⟨c0, c1, c2, c3⟩ := h.cells hi
  clear h
  have g1 : decide (n ≤ i) = false := decide_eq_false (by omega)
  obtain ⟨x, hx⟩ : ∃ x, x = V i := ⟨_, rfl⟩
  rw [← hx] at c0 c1 c2 c3 hv
  clear hx
  obtain ⟨xh, xe, xr, xb⟩ := x
  simp only at c0 c1 c2 c3 hv
  cases xb with
  | true =>
    clear hv
    go_enter Tryz.func58, Tryz.ntmps58
    go_wp2
    go_ret
    exact ⟨rfl, rfl⟩
  | false =>
    obtain ⟨rfl, hle⟩ := hv.resolve_left (by decide)
    have g2 : decide (e ≤ xe) = true := decide_eq_true hle
    clear hv
    go_enter Tryz.func58, Tryz.ntmps58
    go_wp2
    go_ret
    exact ⟨rfl, rfl⟩

theorem take_yes (h : VAt w g n V) (_ : n ≤ 4096) {i : Nat} (hi : i < n) (e r : Int) (hb : (V i).b = false) (hv : (V i).h = true → (V i).e < e) :
    Calls Tryz.prog 58 #[.slice (some ⟨g, 0, none⟩) n n, .int .i64 i, .int .i64 e, .int .u64 r] w fun z w' => z = .returned (.bool true) ∧ VAt w' g n (vset V i ⟨true, e, r, false⟩) ∧ w.grownBy w' (some g) := by
  have hput := h.put hi ⟨true, e, r, false⟩
  have f0 := h.frozen (i * 4)
  have f1 := h.frozen (i * 4 + 1)
  have f2 := h.frozen (i * 4 + 2)
  have f3 := h.frozen (i * 4 + 3)
  obtain ⟨c0, c1, c2, c3⟩ := h.cells hi
  have HP := Lib.hid hput
  clear h hput
  have g1 : decide (n ≤ i) = false := decide_eq_false (by omega)
  obtain ⟨x, hx⟩ : ∃ x, x = V i := ⟨_, rfl⟩
  rw [← hx] at c0 c1 c2 c3 hv hb
  clear hx
  obtain ⟨xh, xe, xr, xb⟩ := x
  simp only at c0 c1 c2 c3 hv hb
  subst hb
  cases xh with
  | false =>
    clear hv
    go_enter Tryz.func58, Tryz.ntmps58
    go_wp2
    go_ret
    exact ⟨rfl, HP.out, gtrans (gtrans (gtrans (gset _ _ _ _) (gset _ _ _ _)) (gset _ _ _ _)) (gset _ _ _ _)⟩
  | true =>
    have hlt := hv rfl
    have g2 : decide (e ≤ xe) = false := decide_eq_false (by omega)
    clear hv
    go_enter Tryz.func58, Tryz.ntmps58
    go_wp2
    go_ret
    exact ⟨rfl, HP.out, gtrans (gtrans (gtrans (gset _ _ _ _) (gset _ _ _ _)) (gset _ _ _ _)) (gset _ _ _ _)⟩

theorem ban_out (_ : n ≤ 4096) {k : Int} (hk : k < 0 ∨ (n : Int) ≤ k) :
    Calls Tryz.prog 60 #[.slice (some ⟨g, 0, none⟩) n n, .int .i64 k] w fun z w' => z = .returned (.bool false) ∧ w = w' := by
  by_cases h0 : k < 0
  · go_enter Tryz.func60, Tryz.ntmps60
    go_wp2
    go_ret
    exact ⟨rfl, rfl⟩
  · have h1 : (n : Int) ≤ k := by omega
    have h2 : 0 ≤ k := by omega
    clear hk
    go_enter Tryz.func60, Tryz.ntmps60
    go_wp2
    go_ret
    exact ⟨rfl, rfl⟩
theorem ban_no (h : VAt w g n V) (_ : n ≤ 4096) {i : Nat} (hi : i < n) (hb : (V i).b = true) :
    Calls Tryz.prog 60 #[.slice (some ⟨g, 0, none⟩) n n, .int .i64 i] w fun z w' => z = .returned (.bool false) ∧ w = w' := by
  obtain ⟨c0, c1, c2, c3⟩ := h.cells hi
  clear h
  rw [hb] at c3
  have g1 : decide (n ≤ i) = false := decide_eq_false (by omega)
  clear hb
  go_enter Tryz.func60, Tryz.ntmps60
  go_wp2
  go_ret
  exact ⟨rfl, rfl⟩
theorem ban_yes (h : VAt w g n V) (_ : n ≤ 4096) {i : Nat} (hi : i < n) (hb : (V i).b = false) :
    Calls Tryz.prog 60 #[.slice (some ⟨g, 0, none⟩) n n, .int .i64 i] w fun z w' => z = .returned (.bool true) ∧ VAt w' g n (vset V i ⟨(V i).h, (V i).e, (V i).r, true⟩) ∧ w.grownBy w' (some g) := by
  have HP := Lib.hid (h.ban hi)
  have f3 := h.frozen (i * 4 + 3)
  obtain ⟨c0, c1, c2, c3⟩ := h.cells hi
  clear h
  rw [hb] at c3
  have g1 : decide (n ≤ i) = false := decide_eq_false (by omega)
  clear hb
  go_enter Tryz.func60, Tryz.ntmps60
  go_wp2
  go_ret
  exact ⟨rfl, HP.out, gset _ _ _ _⟩

theorem get_out (_ : n ≤ 4096) {k : Int} (hk : k < 0 ∨ (n : Int) ≤ k) :
    Calls Tryz.prog 57 #[.slice (some ⟨g, 0, none⟩) n n, .int .i64 k] w fun z w' => z = .returned (.tuple #[.int .u64 0, .bool false]) ∧ w = w' := by
  by_cases h0 : k < 0
  · go_enter Tryz.func57, Tryz.ntmps57
    go_wp2
    go_ret2
    exact ⟨rfl, rfl⟩
  · have h1 : (n : Int) ≤ k := by omega
    have h2 : 0 ≤ k := by omega
    clear hk
    go_enter Tryz.func57, Tryz.ntmps57
    go_wp2
    go_ret2
    exact ⟨rfl, rfl⟩
theorem get_in (h : VAt w g n V) (_ : n ≤ 4096) {i : Nat} (hi : i < n) :
    Calls Tryz.prog 57 #[.slice (some ⟨g, 0, none⟩) n n, .int .i64 i] w fun z w' => z = .returned (.tuple #[.int .u64 (if (V i).h && !(V i).b then (V i).r else 0), .bool ((V i).h && !(V i).b)]) ∧ w = w' := by
  obtain ⟨c0, c1, c2, c3⟩ := h.cells hi
  clear h
  have g1 : decide (n ≤ i) = false := decide_eq_false (by omega)
  obtain ⟨x, hx⟩ : ∃ x, x = V i := ⟨_, rfl⟩
  rw [← hx] at c0 c1 c2 c3 ⊢
  clear hx
  obtain ⟨xh, xe, xr, xb⟩ := x
  simp only at c0 c1 c2 c3
  cases xh <;> cases xb
  all_goals
    go_enter Tryz.func57, Tryz.ntmps57
    go_wp2
    go_ret2
    exact ⟨rfl, rfl⟩
end

def E0 : Ent := ⟨false, 0, 0, false⟩
theorem info33' : (Tryz.prog.info? 147).map (fun i => (i.zero, i.size, i.bytes)) = some (some (.agg #[(.bool false), (.int .i64 0), (.int .u64 0), (.bool false)]), 4, 32) := by kernel_rfl

theorem made_get (n i t : Nat) (hi : i < n) (ht : t < 4) : (madeCells #[Value.bool false, .int .i64 0, .int .u64 0, .bool false] (n * 4))[i * 4 + t]? = some ((#[Value.bool false, .int .i64 0, .int .u64 0, .bool false] : Array Value)[t]!) := by
  unfold madeCells
  rw [Array.getElem?_map, Array.getElem?_range]
  rw [if_pos (by omega)]
  simp only [Option.map_some]
  have e : (#[Value.bool false, .int .i64 0, .int .u64 0, .bool false] : Array Value).size = 4 := rfl
  rw [e, show (i * 4 + t) % 4 = t by omega]

/-- What make lays. -/
theorem VAt.made (w : World) (n : Nat) : VAt (w.alloc (.cells (madeCells #[Value.bool false, .int .i64 0, .int .u64 0, .bool false] (n * 4)) 147)) w.heap.size n (fun _ => E0) :=
  ⟨_, (MapKept.heap_alloc w _).1, by simp [size_madeCells], fun i hi => ⟨made_get n i 0 hi (by omega), made_get n i 1 hi (by omega), made_get n i 2 hi (by omega), made_get n i 3 hi (by omega)⟩⟩

theorem run_make33 (t : TypeId) (ht : Tryz.prog.underlying t = some (.slice 147)) (n : Nat) (hn : n ≤ 4096) (w : World) :
    (Instr.makeSlice t (.int .i64 (n : Int)) (.int .i64 (n : Int))).run Tryz.prog w = .ok (.slice (some ⟨w.heap.size, 0, none⟩) n n) (w.alloc (.cells (madeCells #[Value.bool false, .int .i64 0, .int .u64 0, .bool false] (n * 4)) 147)) := by
  obtain ⟨i0, hi, hz0, hz1, hz2⟩ := info_parts info33'
  have h := run_make (P := Tryz.prog) w t 147 i0 _ ht hi hz0 .i64 .i64 (n : Int) (n : Int) (by omega) (by omega) (by rw [hz2]; omega) (by omega)
  rw [hz1] at h
  simpa [Value.cells] using h

attribute [local go_sem] max2' min2' max_two' min_two' in
theorem vof_calls (w : World) (n : Nat) (hn : n ≤ 4096) :
    Calls Tryz.prog 29 #[.int .i64 (n : Int)] w fun z w' => ∃ g, z = .returned (.slice (some ⟨g, 0, none⟩) n n) ∧ VAt w' g n (fun _ => E0) ∧ w.heap.size ≤ g ∧ w.grownBy w' none := by
  have hm := run_make33 73 Tryz.underlying73 n hn w
  have h1 : min (n : Int) 4096 = n := by omega
  have h2 : max 0 (n : Int) = n := by omega
  go_enter Tryz.func29, Tryz.ntmps29
  go_wp2
  go_ret
  exact ⟨_, rfl, VAt.made w n, Nat.le_refl _, World.grownBy_alloc _ _ _⟩

end Go.Proofs.YtndfpmboanohcaaGreatDoor
