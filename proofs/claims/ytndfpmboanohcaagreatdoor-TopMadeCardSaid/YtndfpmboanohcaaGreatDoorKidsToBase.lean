/- Contract of (*tree.Tree).Kids, at trees of as many blocks as slices.Sort is known for. -/
import Derived.Test.YtndfpmboanohcaaGreatDoorSortToIter
namespace Go.Proofs.YtndfpmboanohcaaGreatDoor
set_option maxRecDepth 100000
open Go.RowKit Go.Maps SkipPure
def kidsT (F : Int → Option (Int × Int × Int)) (f root : Int) (ks : List Int) : List Int := ks.filter fun r => !(r == f) && (((F r).getD (0, 0, 0)).1 == root)
theorem kidsT_take (F : Int → Option (Int × Int × Int)) (f root : Int) (ks : List Int) (i : Nat) (h : i < ks.length) :
  kidsT F f root (ks.take (i + 1)) = kidsT F f root (ks.take i) ++ (if (!(ks.getD i 0 == f) && (((F (ks.getD i 0)).getD (0, 0, 0)).1 == root)) = true then [ks.getD i 0] else []) := by
 unfold kidsT
 rw [List.take_add_one, List.filter_append]
 congr 1
 rw [List.getElem?_eq_getElem h, List.getD_eq_getElem?_getD, List.getElem?_eq_getElem h]
 simp only [Option.toList_some, Option.getD_some, List.filter_cons, List.filter_nil]
theorem kidsT_length (F : Int → Option (Int × Int × Int)) (f root : Int) (ks : List Int) : (kidsT F f root ks).length ≤ ks.length := List.length_filter_le _ _
theorem rowCell {w : World} {base n g c : Nat} {xs : List Int} (h : w.ownsRow base 27 1 (.slice (some ⟨g, 0, none⟩) n c) n (xs.map encU)) (i : Nat) (hi : i < n) : w.cell? ⟨g, i, none⟩ = some (.int .u64 (xs.getD i 0)) := by
 have hl : xs.length = n := by have := h.1; simpa using this
 rw [h.cellAt i (by omega)]
 simp [List.getD_eq_getElem?_getD, show i < xs.length by omega]
theorem fieldN (x y z : Int) (w : World) : (Instr.field 168 (.agg #[.int .u64 x, .int .i64 y, .int .i64 z]) 0).run Tryz.prog w = .ok (.int .u64 x) w := by kernel_rfl
set_option maxHeartbeats 1000000 in
theorem kids_calls {w : World} {p b n : Nat} {f : Int} {F : Int → Option (Int × Int × Int)} (h : TreeAt w p b n f F) (W : WellT f F) (hn : n ≤ 1000000) (hS : SortUpTo n) (root : Int) :
  Calls Tryz.prog 150 #[.pointer (some ⟨p, 0, none⟩), .int .u64 root] w fun e W' => ∃ (v : Value) (ks : List Int), e = .returned v ∧ Rising F ks ∧ ks.length ≤ n ∧ W'.ownsRow w.heap.size 27 1 v (kidsT F f root ks).length ((kidsT F f root ks).map encU) ∧ w.grownBy W' none := by
 have HH := lh h
 clear h
 obtain ⟨i0, hi, hz0, hz1, hz2⟩ := info_parts info_u64
 have HI0 := lh hi
 have HZ0 := lh hz0
 have HZ1 := lh hz1
 have HZ2 := lh hz2
 clear hi hz0 hz1 hz2
 go_enter Tryz.func150, Tryz.ntmps150
 go_wp2_with fail
 refine (roots_calls HH.out W hn hS).mono ?_
 rintro e w1 ⟨v, ks, rfl, hR, hl, hrow, hg⟩
 have hpos : 0 < ks.length := by
  obtain ⟨x, hx⟩ := Option.isSome_iff_exists.1 W.first
  exact List.length_pos_of_mem ((hR.2.2 f (W.key _ _ hx)).2 (by rw [hx]; rfl))
 obtain ⟨g, cap, rfl, hgb⟩ := hrow.form hpos
 have HR := lh hR
 have HROW := lh hrow
 have HG := lh hg
 clear hR hrow hg hpos
 go_wp2
 go_loopw [11, 5] (fun v11 v5 wr => ∃ j : Nat, v11 = .int .i64 (j : Int) ∧ j ≤ ks.length ∧ wr.ownsRow w1.heap.size 27 1 v5 (kidsT F f root (ks.take j)).length ((kidsT F f root (ks.take j)).map encU) ∧ w1.grownBy wr none) (fun v11 _ _ => ks.length - (intOf v11).toNat)
 case atStart => exact ⟨0, rfl, by omega, by simpa [kidsT] using World.ownsRow_nil w1 _ _ _, gR w1 none⟩
 case round =>
  obtain ⟨j, rfl, hj, ho, hg1⟩ := hrel
  have HO := lh ho
  have HG1 := lh hg1
  by_cases hlt : j < ks.length
  ·have hc := rowCell (HROW.out.kept hg1 (by simp [Value.ownBlock])) j hlt
   have ht := kidsT_take F f root ks j hlt
   have hin := HR.out.2.1 (ks.getD j 0) (by rw [List.getD_eq_getElem?_getD, List.getElem?_eq_getElem hlt]; simp)
   obtain ⟨r, hr⟩ : ∃ r, r = ks.getD j 0 := ⟨_, rfl⟩
   rw [← hr] at hc ht hin
   have hT := HH.out.kept (g2 HG.out hg1) (by simp)
   have c0 := hT.c0
   have c1 := hT.c1
   have hlk := hT.2.2.look Tryz.underlying27 Tryz.underlying169 (zero62 wr) hin
   have hlk2 : (tfun F r).getD (Value.agg #[.int .u64 0, .int .i64 0, .int .i64 0]) = tnode ((F r).getD (0, 0, 0)) := by
    unfold tfun
    cases F r <;> rfl
   rw [hlk2] at hlk
   obtain ⟨y, hy⟩ : ∃ y, y = (F r).getD (0, 0, 0) := ⟨_, rfl⟩
   rw [← hy] at hlk ht
   obtain ⟨y0, y1, y2⟩ := y
   simp only [tnode] at hlk ht
   have hfl := fieldN y0 y1 y2
   have HT := lh ht
   clear ho hg1 ht hr hT hlk2 hy
   have hkl : (kidsT F f root (ks.take j)).length ≤ 1000000 := Nat.le_trans (kidsT_length _ _ _ _) (by simp; omega)
   by_cases hrf : r = f
   ·have hcond : ¬ (!(r == f) && (y0 == root)) = true := by simp [hrf]
    have g0 : (r == f) = true := beq_iff_eq.2 hrf
    have HC := lh hcond
    clear hcond
    subst hrf
    go_wp2
    exact ⟨⟨j + 1, by simp, by omega, by rw [HT.out, if_neg HC.out, List.append_nil]; exact HO.out, HG1.out⟩, by simp [intOf]; omega⟩
   ·have g0 : (r == f) = false := beq_eq_false_iff_ne.2 hrf
    by_cases hy0 : y0 = root
    ·have hcond : (!(r == f) && (y0 == root)) = true := by simp [hrf, hy0]
     have g1 : (y0 == root) = true := beq_iff_eq.2 hy0
     subst hy0
     rcases HO.out.two with hv5 | ⟨g5, c5, hv5⟩
     ·subst hv5
      go_wp2_with (at_builtin; refine wpList_append_lies _ rfl _ _ 34 rfl w1.heap.size 27 i0 (.int .u64 0) 1 8 Tryz.underlying34 HI0.out HZ0.out HZ1.out HZ2.out rfl (by decide) _ (kidsT F f y0 (ks.take j)).length ((kidsT F f y0 (ks.take j)).map encU) rfl (HO.out.alloc _) ⟨wr.heap.size, 0, none⟩ 1 1 [.int .u64 r] rfl rfl (World.news_of_block (MapKept.heap_alloc _ _).1) (by simp [Value.oneCell']) (by decide) (by unfold maxLen; omega) (by omega) (by have := HG1.out.size; simp; omega) _ rfl ?_; intro g6 c6 w6 h6 hg6 hat6 hlt6; have H6 := lh h6; have HG6 := lh hg6; clear h6 hg6 hat6)
      refine ⟨⟨j + 1, by simp, by omega, ?_, (g2 HG1.out (World.grownBy_alloc wr _ none)).andThen HG6.out (fun k e => Or.inl (HO.out.lt k e).1)⟩, by simp [intOf]; omega⟩
      rw [HT.out, if_pos hcond]
      have := H6.out
      simpa using this
     ·subst hv5
      go_wp2_with (at_builtin; refine wpList_append_lies _ rfl _ _ 34 rfl w1.heap.size 27 i0 (.int .u64 0) 1 8 Tryz.underlying34 HI0.out HZ0.out HZ1.out HZ2.out rfl (by decide) _ (kidsT F f y0 (ks.take j)).length ((kidsT F f y0 (ks.take j)).map encU) rfl (HO.out.alloc _) ⟨wr.heap.size, 0, none⟩ 1 1 [.int .u64 r] rfl rfl (World.news_of_block (MapKept.heap_alloc _ _).1) (by simp [Value.oneCell']) (by decide) (by unfold maxLen; omega) (by omega) (by have := HG1.out.size; simp; omega) _ rfl ?_; intro g6 c6 w6 h6 hg6 hat6 hlt6; have H6 := lh h6; have HG6 := lh hg6; clear h6 hg6 hat6)
      refine ⟨⟨j + 1, by simp, by omega, ?_, (g2 HG1.out (World.grownBy_alloc wr _ none)).andThen HG6.out (fun k e => Or.inl (HO.out.lt k e).1)⟩, by simp [intOf]; omega⟩
      rw [HT.out, if_pos hcond]
      have := H6.out
      simpa using this
    ·have hcond : ¬ (!(r == f) && (y0 == root)) = true := by simp [hy0]
     have g1 : (y0 == root) = false := beq_eq_false_iff_ne.2 hy0
     have HC := lh hcond
     clear hcond
     go_wp2
     exact ⟨⟨j + 1, by simp, by omega, by rw [HT.out, if_neg HC.out, List.append_nil]; exact HO.out, HG1.out⟩, by simp [intOf]; omega⟩
  ·have hje : j = ks.length := by omega
   subst hje
   rw [List.take_length] at HO
   clear ho hg1
   go_wp2
   go_ret
   exact ⟨_, ks, rfl, HR.out, hl, rowMono HO.out HG.out.size, g2 HG.out HG1.out⟩
structure Ent where
 h : Bool
 e : Int
 r : Int
 b : Bool
def VAt (w : World) (g n : Nat) (V : Nat → Ent) : Prop :=
 ∃ cs : Array Value, w.heap[g]? = some (.cells cs 147 (0, 0)) ∧ cs.size = n * 4 ∧
  ∀ i, i < n → cs[i * 4]? = some (.bool (V i).h) ∧ cs[i * 4 + 1]? = some (.int .i64 (V i).e) ∧ cs[i * 4 + 2]? = some (.int .u64 (V i).r) ∧ cs[i * 4 + 3]? = some (.bool (V i).b)
def vset (V : Nat → Ent) (i : Nat) (x : Ent) : Nat → Ent := fun j => if j = i then x else V j
theorem VAt.cells {w : World} {g n : Nat} {V : Nat → Ent} (h : VAt w g n V) {i : Nat} (hi : i < n) :
  w.cell? ⟨g, i * 4, none⟩ = some (.bool (V i).h) ∧ w.cell? ⟨g, i * 4 + 1, none⟩ = some (.int .i64 (V i).e) ∧ w.cell? ⟨g, i * 4 + 2, none⟩ = some (.int .u64 (V i).r) ∧ w.cell? ⟨g, i * 4 + 3, none⟩ = some (.bool (V i).b) := by
 obtain ⟨cs, hb, _, hc⟩ := h
 obtain ⟨h0, h1, h2, h3⟩ := hc i hi
 exact ⟨(cel hb _).trans h0, (cel hb _).trans h1, (cel hb _).trans h2, (cel hb _).trans h3⟩
theorem VAt.frozen {w : World} {g n : Nat} {V : Nat → Ent} (h : VAt w g n V) (i : Nat) : w.frozen? ⟨g, i, none⟩ = false := by
 obtain ⟨cs, hb, _, _⟩ := h
 exact frz hb i
theorem VAt.lt {w : World} {g n : Nat} {V : Nat → Ent} (h : VAt w g n V) : g < w.heap.size := by
 obtain ⟨cs, hb, _, _⟩ := h
 exact (Array.getElem?_eq_some_iff.1 hb).1
theorem VAt.kept {w w' : World} {g n : Nat} {V : Nat → Ent} {row : Option Nat} (h : VAt w g n V) (hg : w.grownBy w' row) (hne : row ≠ some g) : VAt w' g n V := by
 have hl := h.lt
 obtain ⟨cs, hb, h2, h3⟩ := h
 exact ⟨cs, (hg.block g hl (fun e => hne e.symm)).trans hb, h2, h3⟩
theorem gset (w : World) (g i : Nat) (v : Value) : w.grownBy (w.setCell ⟨g, i, none⟩ v) (some g) :=
 ⟨rfl, rfl, rfl, by simp, fun j _ hne => heap_setCell_other _ _ _ _ (fun e => hne (by rw [e]))⟩
theorem gtrans {a b c : World} {g : Nat} (h : a.grownBy b (some g)) (k : b.grownBy c (some g)) : a.grownBy c (some g) :=
 h.andThen k (fun _ e => Or.inr e)
theorem VAt.put {w : World} {g n : Nat} {V : Nat → Ent} (h : VAt w g n V) {i : Nat} (hi : i < n) (x : Ent) :
  VAt ((((w.setCell ⟨g, i * 4, none⟩ (.bool x.h)).setCell ⟨g, i * 4 + 1, none⟩ (.int .i64 x.e)).setCell ⟨g, i * 4 + 2, none⟩ (.int .u64 x.r)).setCell ⟨g, i * 4 + 3, none⟩ (.bool x.b)) g n (vset V i x) := by
 obtain ⟨cs, hb, hs, hc⟩ := h
 have h0 := heap_setCell_same w g (i * 4) cs 147 (.bool x.h) hb
 have h1 := heap_setCell_same _ g (i * 4 + 1) _ 147 (.int .i64 x.e) h0
 have h2 := heap_setCell_same _ g (i * 4 + 2) _ 147 (.int .u64 x.r) h1
 have h3 := heap_setCell_same _ g (i * 4 + 3) _ 147 (.bool x.b) h2
 refine ⟨_, h3, by simp [hs], fun j hj => ?_⟩
 obtain ⟨c0, c1, c2, c3⟩ := hc j hj
 simp only [Array.getElem?_setIfInBounds, Array.size_setIfInBounds, hs, vset]
 by_cases e : j = i
 ·subst e
  simp only [if_true]
  refine ⟨?_, ?_, ?_, ?_⟩
  ·rw [if_neg (by omega), if_neg (by omega), if_neg (by omega), if_pos (by omega)]
  ·rw [if_neg (by omega), if_neg (by omega), if_pos (by omega)]
  ·rw [if_neg (by omega), if_pos (by omega)]
  ·rw [if_pos (by omega)]
 ·rw [if_neg e]
  refine ⟨?_, ?_, ?_, ?_⟩
  ·rw [if_neg (by omega), if_neg (by omega), if_neg (by omega), if_neg (by omega)]; exact c0
  ·rw [if_neg (by omega), if_neg (by omega), if_neg (by omega), if_neg (by omega)]; exact c1
  ·rw [if_neg (by omega), if_neg (by omega), if_neg (by omega), if_neg (by omega)]; exact c2
  ·rw [if_neg (by omega), if_neg (by omega), if_neg (by omega), if_neg (by omega)]; exact c3
theorem VAt.ban {w : World} {g n : Nat} {V : Nat → Ent} (h : VAt w g n V) {i : Nat} (hi : i < n) :
  VAt (w.setCell ⟨g, i * 4 + 3, none⟩ (.bool true)) g n (vset V i ⟨(V i).h, (V i).e, (V i).r, true⟩) := by
 obtain ⟨cs, hb, hs, hc⟩ := h
 have h3 := heap_setCell_same w g (i * 4 + 3) cs 147 (.bool true) hb
 refine ⟨_, h3, by simp [hs], fun j hj => ?_⟩
 obtain ⟨c0, c1, c2, c3⟩ := hc j hj
 simp only [Array.getElem?_setIfInBounds, hs, vset]
 by_cases e : j = i
 ·subst e
  rw [if_pos rfl]
  refine ⟨?_, ?_, ?_, ?_⟩
  ·rw [if_neg (by omega)]; exact c0
  ·rw [if_neg (by omega)]; exact c1
  ·rw [if_neg (by omega)]; exact c2
  ·rw [if_pos rfl, if_pos (by omega)]
 ·rw [if_neg e]
  refine ⟨?_, ?_, ?_, ?_⟩
  ·rw [if_neg (by omega)]; exact c0
  ·rw [if_neg (by omega)]; exact c1
  ·rw [if_neg (by omega)]; exact c2
  ·rw [if_neg (by omega)]; exact c3
section
variable {w : World} {g n : Nat} {V : Nat → Ent}
theorem take_no (h : VAt w g n V) (_ : n ≤ 4096) {i : Nat} (hi : i < n) (e r : Int) (hv : (V i).b = true ∨ (V i).h = true ∧ e ≤ (V i).e) :
  Calls Tryz.prog 58 #[.slice (some ⟨g, 0, none⟩) n n, .int .i64 i, .int .i64 e, .int .u64 r] w fun z w' => z = .returned (.bool false) ∧ w = w' := by
 obtain ⟨c0, c1, c2, c3⟩ := h.cells hi
 clear h
 have g1 : decide (n ≤ i) = false := decide_eq_false (by omega)
 obtain ⟨x, hx⟩ : ∃ x, x = V i := ⟨_, rfl⟩
 rw [← hx] at c0 c1 c2 c3 hv
 clear hx
 obtain ⟨xh, xe, xr, xb⟩ := x
 simp only at c0 c1 c2 c3 hv
 cases xb with
 | true =>
  clear hv
  go_enter Tryz.func58, Tryz.ntmps58
  go_wp2
  go_ret
  exact ⟨rfl, rfl⟩
 | false =>
  obtain ⟨rfl, hle⟩ := hv.resolve_left (by decide)
  have g2 : decide (e ≤ xe) = true := decide_eq_true hle
  clear hv
  go_enter Tryz.func58, Tryz.ntmps58
  go_wp2
  go_ret
  exact ⟨rfl, rfl⟩
theorem take_yes (h : VAt w g n V) (_ : n ≤ 4096) {i : Nat} (hi : i < n) (e r : Int) (hb : (V i).b = false) (hv : (V i).h = true → (V i).e < e) :
  Calls Tryz.prog 58 #[.slice (some ⟨g, 0, none⟩) n n, .int .i64 i, .int .i64 e, .int .u64 r] w fun z w' => z = .returned (.bool true) ∧ VAt w' g n (vset V i ⟨true, e, r, false⟩) ∧ w.grownBy w' (some g) := by
 have hput := h.put hi ⟨true, e, r, false⟩
 have f0 := h.frozen (i * 4)
 have f1 := h.frozen (i * 4 + 1)
 have f2 := h.frozen (i * 4 + 2)
 have f3 := h.frozen (i * 4 + 3)
 obtain ⟨c0, c1, c2, c3⟩ := h.cells hi
 have HP := lh hput
 clear h hput
 have g1 : decide (n ≤ i) = false := decide_eq_false (by omega)
 obtain ⟨x, hx⟩ : ∃ x, x = V i := ⟨_, rfl⟩
 rw [← hx] at c0 c1 c2 c3 hv hb
 clear hx
 obtain ⟨xh, xe, xr, xb⟩ := x
 simp only at c0 c1 c2 c3 hv hb
 subst hb
 cases xh with
 | false =>
  clear hv
  go_enter Tryz.func58, Tryz.ntmps58
  go_wp2
  go_ret
  exact ⟨rfl, HP.out, gtrans (gtrans (gtrans (gset _ _ _ _) (gset _ _ _ _)) (gset _ _ _ _)) (gset _ _ _ _)⟩
 | true =>
  have hlt := hv rfl
  have g2 : decide (e ≤ xe) = false := decide_eq_false (by omega)
  clear hv
  go_enter Tryz.func58, Tryz.ntmps58
  go_wp2
  go_ret
  exact ⟨rfl, HP.out, gtrans (gtrans (gtrans (gset _ _ _ _) (gset _ _ _ _)) (gset _ _ _ _)) (gset _ _ _ _)⟩
theorem ban_no (h : VAt w g n V) (_ : n ≤ 4096) {i : Nat} (hi : i < n) (hb : (V i).b = true) :
  Calls Tryz.prog 60 #[.slice (some ⟨g, 0, none⟩) n n, .int .i64 i] w fun z w' => z = .returned (.bool false) ∧ w = w' := by
 obtain ⟨c0, c1, c2, c3⟩ := h.cells hi
 clear h
 rw [hb] at c3
 have g1 : decide (n ≤ i) = false := decide_eq_false (by omega)
 clear hb
 go_enter Tryz.func60, Tryz.ntmps60
 go_wp2
 go_ret
 exact ⟨rfl, rfl⟩
theorem ban_yes (h : VAt w g n V) (_ : n ≤ 4096) {i : Nat} (hi : i < n) (hb : (V i).b = false) :
  Calls Tryz.prog 60 #[.slice (some ⟨g, 0, none⟩) n n, .int .i64 i] w fun z w' => z = .returned (.bool true) ∧ VAt w' g n (vset V i ⟨(V i).h, (V i).e, (V i).r, true⟩) ∧ w.grownBy w' (some g) := by
 have HP := lh (h.ban hi)
 have f3 := h.frozen (i * 4 + 3)
 obtain ⟨c0, c1, c2, c3⟩ := h.cells hi
 clear h
 rw [hb] at c3
 have g1 : decide (n ≤ i) = false := decide_eq_false (by omega)
 clear hb
 go_enter Tryz.func60, Tryz.ntmps60
 go_wp2
 go_ret
 exact ⟨rfl, HP.out, gset _ _ _ _⟩
theorem get_in (h : VAt w g n V) (_ : n ≤ 4096) {i : Nat} (hi : i < n) :
  Calls Tryz.prog 57 #[.slice (some ⟨g, 0, none⟩) n n, .int .i64 i] w fun z w' => z = .returned (.tuple #[.int .u64 (if (V i).h && !(V i).b then (V i).r else 0), .bool ((V i).h && !(V i).b)]) ∧ w = w' := by
 obtain ⟨c0, c1, c2, c3⟩ := h.cells hi
 clear h
 have g1 : decide (n ≤ i) = false := decide_eq_false (by omega)
 obtain ⟨x, hx⟩ : ∃ x, x = V i := ⟨_, rfl⟩
 rw [← hx] at c0 c1 c2 c3 ⊢
 clear hx
 obtain ⟨xh, xe, xr, xb⟩ := x
 simp only at c0 c1 c2 c3
 cases xh <;> cases xb
 all_goals
  go_enter Tryz.func57, Tryz.ntmps57
  go_wp2
  go_ret2
  exact ⟨rfl, rfl⟩
end
def E0 : Ent := ⟨false, 0, 0, false⟩
theorem info33' : (Tryz.prog.info? 147).map (fun i => (i.zero, i.size, i.bytes)) = some (some (.agg #[(.bool false), (.int .i64 0), (.int .u64 0), (.bool false)]), 4, 32) := by kernel_rfl
theorem made_get (n i t : Nat) (hi : i < n) (ht : t < 4) : (madeCells #[Value.bool false, .int .i64 0, .int .u64 0, .bool false] (n * 4))[i * 4 + t]? = some ((#[Value.bool false, .int .i64 0, .int .u64 0, .bool false] : Array Value)[t]!) := by
 unfold madeCells
 rw [Array.getElem?_map, Array.getElem?_range]
 rw [if_pos (by omega)]
 simp only [Option.map_some]
 have e : (#[Value.bool false, .int .i64 0, .int .u64 0, .bool false] : Array Value).size = 4 := rfl
 rw [e, show (i * 4 + t) % 4 = t by omega]
theorem VAt.made (w : World) (n : Nat) : VAt (w.alloc (.cells (madeCells #[Value.bool false, .int .i64 0, .int .u64 0, .bool false] (n * 4)) 147)) w.heap.size n (fun _ => E0) :=
 ⟨_, (MapKept.heap_alloc w _).1, by simp [size_madeCells], fun i hi => ⟨made_get n i 0 hi (by omega), made_get n i 1 hi (by omega), made_get n i 2 hi (by omega), made_get n i 3 hi (by omega)⟩⟩
theorem run_make33 (t : TypeId) (ht : Tryz.prog.underlying t = some (.slice 147)) (n : Nat) (hn : n ≤ 4096) (w : World) :
  (Instr.makeSlice t (.int .i64 (n : Int)) (.int .i64 (n : Int))).run Tryz.prog w = .ok (.slice (some ⟨w.heap.size, 0, none⟩) n n) (w.alloc (.cells (madeCells #[Value.bool false, .int .i64 0, .int .u64 0, .bool false] (n * 4)) 147)) := by
 obtain ⟨i0, hi, hz0, hz1, hz2⟩ := info_parts info33'
 have h := run_make (P := Tryz.prog) w t 147 i0 _ ht hi hz0 .i64 .i64 (n : Int) (n : Int) (by omega) (by omega) (by rw [hz2]; omega) (by omega)
 rw [hz1] at h
 simpa [Value.cells] using h
attribute [local go_sem] max2' min2' max_two' min_two' in
theorem vof_calls (w : World) (n : Nat) (hn : n ≤ 4096) :
  Calls Tryz.prog 29 #[.int .i64 (n : Int)] w fun z w' => ∃ g, z = .returned (.slice (some ⟨g, 0, none⟩) n n) ∧ VAt w' g n (fun _ => E0) ∧ w.heap.size ≤ g ∧ w.grownBy w' none := by
 have hm := run_make33 73 Tryz.underlying73 n hn w
 have h1 : min (n : Int) 4096 = n := by omega
 have h2 : max 0 (n : Int) = n := by omega
 go_enter Tryz.func29, Tryz.ntmps29
 go_wp2
 go_ret
 exact ⟨_, rfl, VAt.made w n, Nat.le_refl _, World.grownBy_alloc _ _ _⟩
def Blk (w : World) (q : Nat) (cs : Array Value) (T : TypeId) : Prop := w.heap[q]? = some (.cells cs T (0, 0))
section
variable {w w' : World} {q : Nat} {cs : Array Value} {T : TypeId}
theorem Blk.lt (h : Blk w q cs T) : q < w.heap.size := (Array.getElem?_eq_some_iff.1 h).1
theorem Blk.kept {row : Option Nat} (h : Blk w q cs T) (hg : w.grownBy w' row) (hr : row ≠ some q) : Blk w' q cs T := by
 have hl := h.lt
 unfold Blk at *
 rw [hg.block q hl (fun e => hr e.symm)]
 exact h
theorem Blk.g (h : Blk w q cs T) (hg : w.grownBy w' none) : Blk w' q cs T := h.kept hg (by simp)
theorem Blk.alloc (w : World) (cs : Array Value) (T : TypeId) : Blk (w.alloc (.cells cs T)) w.heap.size cs T := by
 unfold Blk
 simpa using (MapKept.heap_alloc w (.cells cs T)).1
theorem Blk.at (h : Blk w q cs T) (i : Nat) : w.cell? ⟨q, i, none⟩ = cs[i]? := cel h i
theorem Blk.fr (h : Blk w q cs T) (i : Nat) : w.frozen? ⟨q, i, none⟩ = false := frz h i
theorem Blk.set (h : Blk w q cs T) (i : Nat) (v : Value) : Blk (w.setCell ⟨q, i, none⟩ v) q (cs.setIfInBounds i v) T := heap_setCell_same w q i cs T v h
theorem Blk.drew (h : Blk w q cs T) : Blk w.drew q cs T := h
end
theorem cell_g {w w' : World} {a : Addr} {v : Value} (h : w.cell? a = some v) (hg : w.grownBy w' none) : w'.cell? a = some v := hg.cell h (by simp)
structure Chg (S : Nat → Prop) (w w' : World) : Prop where
 os : w'.os = w.os
 tape : w'.tape = w.tape
 output : w'.output = w.output
 size : w.heap.size ≤ w'.heap.size
 block : ∀ i, i < w.heap.size → ¬ S i → w'.heap[i]? = w.heap[i]?
section
variable {S S' : Nat → Prop} {w w' w'' : World}
theorem Chg.refl (S : Nat → Prop) (w : World) : Chg S w w := ⟨rfl, rfl, rfl, Nat.le_refl _, fun _ _ _ => rfl⟩
theorem Chg.of (h : w.grownBy w' none) : Chg S w w' := ⟨h.os, h.tape, h.output, h.size, fun i hi _ => h.block i hi (by simp)⟩
theorem Chg.one {b : Nat} (h : w.grownBy w' (some b)) (hb : S b) : Chg S w w' := ⟨h.os, h.tape, h.output, h.size, fun i hi hn => h.block i hi (fun e => hn (by cases e; exact hb))⟩
theorem Chg.trans (h : Chg S w w') (k : Chg S w' w'') : Chg S w w'' :=
 ⟨k.os.trans h.os, k.tape.trans h.tape, k.output.trans h.output, Nat.le_trans h.size k.size, fun i hi hn => (k.block i (Nat.lt_of_lt_of_le hi h.size) hn).trans (h.block i hi hn)⟩
theorem Chg.then (h : Chg S w w') (k : Chg S' w' w'') (hs : ∀ i, S' i → S i ∨ w.heap.size ≤ i) : Chg S w w'' :=
 ⟨k.os.trans h.os, k.tape.trans h.tape, k.output.trans h.output, Nat.le_trans h.size k.size, fun i hi hn => (k.block i (Nat.lt_of_lt_of_le hi h.size) (fun e => (hs i e).elim hn (fun e => by omega))).trans (h.block i hi hn)⟩
theorem Chg.mono (h : Chg S w w') (hs : ∀ i, S i → S' i) : Chg S' w w' := ⟨h.os, h.tape, h.output, h.size, fun i hi hn => h.block i hi (fun e => hn (hs i e))⟩
theorem Chg.non (h : Chg S w w') (hs : ∀ i, S i → w.heap.size ≤ i) : w.grownBy w' none := ⟨h.os, h.tape, h.output, h.size, fun i hi _ => h.block i hi (fun e => by have := hs i e; omega)⟩
theorem Chg.blk {q : Nat} {cs : Array Value} {T : TypeId} (h : Chg S w w') (hb : Blk w q cs T) (hq : ¬ S q) : Blk w' q cs T := (h.block q hb.lt hq).trans hb
theorem Chg.cell {q i : Nat} {v : Value} (h : Chg S w w') (hc : w.cell? ⟨q, i, none⟩ = some v) (hq : ¬ S q) : w'.cell? ⟨q, i, none⟩ = some v := by
 have hl : q < w.heap.size := by
  rcases Nat.lt_or_ge q w.heap.size with hl | hl
  ·exact hl
  ·unfold World.cell? at hc
   rw [Array.getElem?_eq_none (by exact hl)] at hc
   simp at hc
 unfold World.cell? at *
 simp only at *
 rw [h.block q hl hq]
 exact hc
theorem Chg.raw {P : Program} {kt : TypeId} {b n : Nat} {F : Int → Option Value} (h : Chg S w w') (hm : RawMap P kt w b n F) (hb : ¬ S b) : RawMap P kt w' b n F := by
 have hl := hm.lt
 obtain ⟨D, ⟨es, clock, hb2, Ft, hs, hD⟩, h2⟩ := hm
 exact ⟨D, ⟨es, clock, (h.block b hl hb).trans hb2, Ft, hs, hD⟩, h2⟩
theorem Chg.tree {p b n : Nat} {f : Int} {F : Int → Option (Int × Int × Int)} (h : Chg S w w') (ht : TreeAt w p b n f F) (hp : ¬ S p) (hb : ¬ S b) : TreeAt w' p b n f F :=
 ⟨ht.1, h.blk (q := p) ht.2.1 hp, h.raw ht.2.2 hb⟩
theorem Chg.votes {g n : Nat} {V : Nat → Ent} (h : Chg S w w') (hv : VAt w g n V) (hb : ¬ S g) : VAt w' g n V := by
 have hl := hv.lt
 obtain ⟨cs, hb2, h2, h3⟩ := hv
 exact ⟨cs, (h.block g hl hb).trans hb2, h2, h3⟩
end
section
variable {P : Program} {kt et mt : TypeId} {w : World} {b n : Nat} {F : Int → Option Value}
theorem RawMap.store (h : RawMap P kt w b n F) (hk : P.underlying kt = some (.int .u64)) (ht : P.underlying mt = some (.map kt et)) (hn : n < maxLen) {k : Int} (hin : inU k) (v : Value) :
  ∃ w', (Instr.mapUpdate mt (.map (some b)) (.int .u64 k) v).run P w = .ok () w' ∧ RawMap P kt w' b (if (F k).isSome then n else n + 1) (upd F k v) ∧ w.grownBy w' (some b) := by
 obtain ⟨D, h, hH, hs⟩ := h
 obtain ⟨w', hrun, h', hg⟩ := h.update (int_keyed hk) ht hn (keyOf_int_mk hk (kk_wf hin)) (val := v) (d := .held v) (ps := []) rfl
 have h2 := size_put (k := kk k) (h.tidy (int_keyed hk)) (.held v)
 have h3 : (Lit.int .u64 k) = kk k := rfl
 rw [h3] at h'
 refine ⟨w', hrun, ⟨D.put (kk k) (.held v), ?_, holdsAs_put h.isMap hH hin v, ?_⟩, hg⟩
 ·obtain ⟨es, clock, e1, e2, e3, e4⟩ := h'
  refine ⟨es, clock, e1, e2, ?_, e4⟩
  have e5 : Maps.size (D.put (kk k) (.held v)) = es.size := by
   rw [e4]
   exact length_read es
  rw [← e5, h2]
  cases hF : F k with
  | none => rw [(hH k hin).1 hF]; simp [hs]
  | some u => rw [((hH k hin).2 u hF).1]; simp [hs]
 ·rw [h2]
  cases hF : F k with
  | none => rw [(hH k hin).1 hF]; simp [hs]
  | some u => rw [((hH k hin).2 u hF).1]; simp [hs]
def updel (F : Int → Option Value) (k : Int) : Int → Option Value := fun j => if j = k then none else F j
theorem RawMap.drop (h : RawMap P kt w b n F) (hk : P.underlying kt = some (.int .u64)) (ht : P.underlying mt = some (.map kt et)) {k : Int} (hin : inU k) (ty : TypeId) :
  ∃ w', (Builtin.delete_ #[mt, kt] ty #[.map (some b), .int .u64 k]).run P w = .ok (.tuple #[]) w' ∧ RawMap P kt w' b (if (F k).isSome then n - 1 else n) (updel F k) ∧ w.grownBy w' (some b) := by
 obtain ⟨D, h, hH, hs⟩ := h
 obtain ⟨w', hrun, h', hg⟩ := h.drop (int_keyed hk) ht (keyOf_int_mk hk (kk_wf hin)) ty
 have h2 := size_del (k := kk k) (h.tidy (int_keyed hk))
 have h3 : (Lit.int .u64 k) = kk k := rfl
 rw [h3] at h'
 have h5 : Maps.size (D.del (kk k)) = if (F k).isSome then n - 1 else n := by
  cases hF : F k with
  | none => rw [(hH k hin).1 hF] at h2; simp at h2; simp [h2, hs]
  | some u => rw [((hH k hin).2 u hF).1] at h2; simp at h2; simp; omega
 refine ⟨w', hrun, ⟨D.del (kk k), ?_, ?_, h5⟩, hg.grown⟩
 ·obtain ⟨es, clock, e1, e2, e3, e4⟩ := h'
  refine ⟨es, clock, e1, e2, ?_, e4⟩
  have e5 : Maps.size (D.del (kk k)) = es.size := by
   rw [e4]
   exact length_read es
  omega
 ·intro j hj
  unfold updel
  by_cases e : j = k
  ·subst e
   simp only [if_true]
   exact ⟨fun _ => has_del_same, fun v hv => by cases hv⟩
  ·rw [if_neg e]
   have e2 := kk_ne e
   obtain ⟨h1, h2⟩ := hH j hj
   exact ⟨fun hn => by rw [has_del_other e2]; exact h1 hn, fun v hv => ⟨by rw [has_del_other e2]; exact (h2 v hv).1, fun z => by rw [atKey_del_other e2]; exact (h2 v hv).2 z⟩⟩
end
section
variable {P : Program} {w : World} {ops : Array Oper} {rest : List Oper} {o : Oper} {a : Act} {Q : Exit → Act → World → Prop} {kt et : TypeId} {b n : Nat} {F : Int → Option Value}
theorem wpList_store_any (h : RawMap P kt w b n F) (hg : o.guard = none) (m x v : Operand) (t : TypeId) (hop : o.op = Op.mapUpdate t m x v ∨ o.op = Op.insert t m x v)
  (hk : P.underlying kt = some (.int .u64)) (ht : P.underlying t = some (.map kt et)) (hn : n < maxLen) {k : Int} (hin : inU k) (val : Value)
  (hm : a.eval m = .map (some b)) (hx : a.eval x = .int .u64 k) (hv : a.eval v = val)
  (hK : ∀ w', RawMap P kt w' b (if (F k).isSome then n else n + 1) (upd F k val) → w.grownBy w' (some b) → wpList P ops Q rest (a.put o.dst undef) w') :
  wpList P ops Q (o :: rest) a w := by
 refine wpList_plain hg fun K' hK' => ?_
 obtain ⟨w', hrun, r1, r2⟩ := h.store hk ht hn hin val
 unfold Oper.wp
 rcases hop with hop | hop
 all_goals
  simp [execOp, hop, hm, hx, hv, hrun, Result.andThen]
  exact hK' _ _ (hK w' r1 r2)
theorem wpList_drop_any (h : RawMap P kt w b n F) (hg : o.guard = none) (m x : Operand) (t : TypeId) (hop : o.op = Op.call { callee := Callee.builtin Builtin.delete, args := #[m, x], argTypes := #[t, kt] })
  (hk : P.underlying kt = some (.int .u64)) (ht : P.underlying t = some (.map kt et)) {k : Int} (hin : inU k)
  (hm : a.eval m = .map (some b)) (hx : a.eval x = .int .u64 k)
  (hK : ∀ w', RawMap P kt w' b (if (F k).isSome then n - 1 else n) (updel F k) → w.grownBy w' (some b) → wpList P ops Q rest (a.put o.dst (.tuple #[])) w') :
  wpList P ops Q (o :: rest) a w := by
 refine wpList_plain hg fun K' hK' => ?_
 obtain ⟨w', hrun, r1, r2⟩ := h.drop hk ht hin o.type
 unfold Oper.wp
 simp [execOp, hop, resolve, invoke, builtin, hm, hx, hrun, Result.andThen]
 exact hK' _ _ (hK w' r1 r2)
end
end Go.Proofs.YtndfpmboanohcaaGreatDoor
