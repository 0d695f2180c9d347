/- Laws that name the world behind allocs and stores (written by names_gen.py). -/
import Derived.Test.YtndfpmboanohcaaGreatDoorKidsToBase
namespace Go.Proofs.YtndfpmboanohcaaGreatDoor
set_option maxRecDepth 100000
open Go.RowKit Go.Maps SkipPure
theorem alloc1 (w : World) (c0 : Array Value) (T0 : TypeId) : (Blk (w.alloc (.cells c0 T0)) (w.heap.size) c0 T0) ∧ (w.alloc (.cells c0 T0)).heap.size = w.heap.size + 1 ∧ w.grownBy (w.alloc (.cells c0 T0)) none := by
 exact ⟨Blk.alloc w c0 T0, by simp, World.grownBy_alloc w _ none⟩
theorem nmC1 {w : World} {c0 : Array Value} {T0 : TypeId} {P : Program} {c : Code} {K : Exit → Act → World → Prop} {a : Act} (h : ∀ W, Blk W (w.heap.size) c0 T0 → W.heap.size = w.heap.size + 1 → w.grownBy W none → Code.wp P c K a W) : Code.wp P c K a (w.alloc (.cells c0 T0)) := by
 obtain ⟨h0, hz, hg⟩ := alloc1 w c0 T0
 exact h _ h0 hz hg
theorem nmK1 {w : World} {c0 : Array Value} {T0 : TypeId} {P : Program} {f : Nat} {args : Array Value} {R : Ending → World → Prop} (h : ∀ W, Blk W (w.heap.size) c0 T0 → W.heap.size = w.heap.size + 1 → w.grownBy W none → Calls P f args W R) : Calls P f args (w.alloc (.cells c0 T0)) R := by
 obtain ⟨h0, hz, hg⟩ := alloc1 w c0 T0
 exact h _ h0 hz hg
theorem alloc2 (w : World) (c0 c1 : Array Value) (T0 T1 : TypeId) : (Blk ((w.alloc (.cells c0 T0)).alloc (.cells c1 T1)) (w.heap.size) c0 T0 ∧ Blk ((w.alloc (.cells c0 T0)).alloc (.cells c1 T1)) (w.heap.size + 1) c1 T1) ∧ ((w.alloc (.cells c0 T0)).alloc (.cells c1 T1)).heap.size = w.heap.size + 1 + 1 ∧ w.grownBy ((w.alloc (.cells c0 T0)).alloc (.cells c1 T1)) none := by
 have h := alloc1 w c0 T0
 generalize (w.alloc (.cells c0 T0)) = W at h ⊢
 obtain ⟨h0, hz, hg⟩ := h
 have ha := World.grownBy_alloc W (.cells c1 T1) none
 have hn := Blk.alloc W c1 T1
 rw [hz] at hn
 exact ⟨⟨h0.g ha, hn⟩, by simp [hz], g2 hg ha⟩
theorem nmC2 {w : World} {c0 c1 : Array Value} {T0 T1 : TypeId} {P : Program} {c : Code} {K : Exit → Act → World → Prop} {a : Act} (h : ∀ W, Blk W (w.heap.size) c0 T0 → Blk W (w.heap.size + 1) c1 T1 → W.heap.size = w.heap.size + 1 + 1 → w.grownBy W none → Code.wp P c K a W) : Code.wp P c K a ((w.alloc (.cells c0 T0)).alloc (.cells c1 T1)) := by
 obtain ⟨⟨h0, h1⟩, hz, hg⟩ := alloc2 w c0 c1 T0 T1
 exact h _ h0 h1 hz hg
theorem nmK2 {w : World} {c0 c1 : Array Value} {T0 T1 : TypeId} {P : Program} {f : Nat} {args : Array Value} {R : Ending → World → Prop} (h : ∀ W, Blk W (w.heap.size) c0 T0 → Blk W (w.heap.size + 1) c1 T1 → W.heap.size = w.heap.size + 1 + 1 → w.grownBy W none → Calls P f args W R) : Calls P f args ((w.alloc (.cells c0 T0)).alloc (.cells c1 T1)) R := by
 obtain ⟨⟨h0, h1⟩, hz, hg⟩ := alloc2 w c0 c1 T0 T1
 exact h _ h0 h1 hz hg
theorem alloc3 (w : World) (c0 c1 c2 : Array Value) (T0 T1 T2 : TypeId) : (Blk (((w.alloc (.cells c0 T0)).alloc (.cells c1 T1)).alloc (.cells c2 T2)) (w.heap.size) c0 T0 ∧ Blk (((w.alloc (.cells c0 T0)).alloc (.cells c1 T1)).alloc (.cells c2 T2)) (w.heap.size + 1) c1 T1 ∧ Blk (((w.alloc (.cells c0 T0)).alloc (.cells c1 T1)).alloc (.cells c2 T2)) (w.heap.size + 1 + 1) c2 T2) ∧ (((w.alloc (.cells c0 T0)).alloc (.cells c1 T1)).alloc (.cells c2 T2)).heap.size = w.heap.size + 1 + 1 + 1 ∧ w.grownBy (((w.alloc (.cells c0 T0)).alloc (.cells c1 T1)).alloc (.cells c2 T2)) none := by
 have h := alloc2 w c0 c1 T0 T1
 generalize ((w.alloc (.cells c0 T0)).alloc (.cells c1 T1)) = W at h ⊢
 obtain ⟨⟨h0, h1⟩, hz, hg⟩ := h
 have ha := World.grownBy_alloc W (.cells c2 T2) none
 have hn := Blk.alloc W c2 T2
 rw [hz] at hn
 exact ⟨⟨h0.g ha, h1.g ha, hn⟩, by simp [hz], g2 hg ha⟩
theorem nmC3 {w : World} {c0 c1 c2 : Array Value} {T0 T1 T2 : TypeId} {P : Program} {c : Code} {K : Exit → Act → World → Prop} {a : Act} (h : ∀ W, Blk W (w.heap.size) c0 T0 → Blk W (w.heap.size + 1) c1 T1 → Blk W (w.heap.size + 1 + 1) c2 T2 → W.heap.size = w.heap.size + 1 + 1 + 1 → w.grownBy W none → Code.wp P c K a W) : Code.wp P c K a (((w.alloc (.cells c0 T0)).alloc (.cells c1 T1)).alloc (.cells c2 T2)) := by
 obtain ⟨⟨h0, h1, h2⟩, hz, hg⟩ := alloc3 w c0 c1 c2 T0 T1 T2
 exact h _ h0 h1 h2 hz hg
theorem alloc4 (w : World) (c0 c1 c2 c3 : Array Value) (T0 T1 T2 T3 : TypeId) : (Blk ((((w.alloc (.cells c0 T0)).alloc (.cells c1 T1)).alloc (.cells c2 T2)).alloc (.cells c3 T3)) (w.heap.size) c0 T0 ∧ Blk ((((w.alloc (.cells c0 T0)).alloc (.cells c1 T1)).alloc (.cells c2 T2)).alloc (.cells c3 T3)) (w.heap.size + 1) c1 T1 ∧ Blk ((((w.alloc (.cells c0 T0)).alloc (.cells c1 T1)).alloc (.cells c2 T2)).alloc (.cells c3 T3)) (w.heap.size + 1 + 1) c2 T2 ∧ Blk ((((w.alloc (.cells c0 T0)).alloc (.cells c1 T1)).alloc (.cells c2 T2)).alloc (.cells c3 T3)) (w.heap.size + 1 + 1 + 1) c3 T3) ∧ ((((w.alloc (.cells c0 T0)).alloc (.cells c1 T1)).alloc (.cells c2 T2)).alloc (.cells c3 T3)).heap.size = w.heap.size + 1 + 1 + 1 + 1 ∧ w.grownBy ((((w.alloc (.cells c0 T0)).alloc (.cells c1 T1)).alloc (.cells c2 T2)).alloc (.cells c3 T3)) none := by
 have h := alloc3 w c0 c1 c2 T0 T1 T2
 generalize (((w.alloc (.cells c0 T0)).alloc (.cells c1 T1)).alloc (.cells c2 T2)) = W at h ⊢
 obtain ⟨⟨h0, h1, h2⟩, hz, hg⟩ := h
 have ha := World.grownBy_alloc W (.cells c3 T3) none
 have hn := Blk.alloc W c3 T3
 rw [hz] at hn
 exact ⟨⟨h0.g ha, h1.g ha, h2.g ha, hn⟩, by simp [hz], g2 hg ha⟩
theorem nmC4 {w : World} {c0 c1 c2 c3 : Array Value} {T0 T1 T2 T3 : TypeId} {P : Program} {c : Code} {K : Exit → Act → World → Prop} {a : Act} (h : ∀ W, Blk W (w.heap.size) c0 T0 → Blk W (w.heap.size + 1) c1 T1 → Blk W (w.heap.size + 1 + 1) c2 T2 → Blk W (w.heap.size + 1 + 1 + 1) c3 T3 → W.heap.size = w.heap.size + 1 + 1 + 1 + 1 → w.grownBy W none → Code.wp P c K a W) : Code.wp P c K a ((((w.alloc (.cells c0 T0)).alloc (.cells c1 T1)).alloc (.cells c2 T2)).alloc (.cells c3 T3)) := by
 obtain ⟨⟨h0, h1, h2, h3⟩, hz, hg⟩ := alloc4 w c0 c1 c2 c3 T0 T1 T2 T3
 exact h _ h0 h1 h2 h3 hz hg
theorem Blk.c1 {w : World} {q : Nat} {T : TypeId} {v0 : Value} (h : Blk w q #[v0] T) : w.cell? ⟨q, 0, none⟩ = some v0 := by
 exact h.at 0
theorem Blk.f1 {w : World} {q : Nat} {T : TypeId} {v0 : Value} (h : Blk w q #[v0] T) : w.frozen? ⟨q, 0, none⟩ = false := by
 exact h.fr 0
theorem Blk.c2 {w : World} {q : Nat} {T : TypeId} {v0 v1 : Value} (h : Blk w q #[v0, v1] T) : w.cell? ⟨q, 0, none⟩ = some v0 ∧ w.cell? ⟨q, 1, none⟩ = some v1 := by
 exact ⟨h.at 0, h.at 1⟩
theorem Blk.f2 {w : World} {q : Nat} {T : TypeId} {v0 v1 : Value} (h : Blk w q #[v0, v1] T) : w.frozen? ⟨q, 0, none⟩ = false ∧ w.frozen? ⟨q, 1, none⟩ = false := by
 exact ⟨h.fr 0, h.fr 1⟩
theorem put2 {w : World} {q : Nat} {T : TypeId} {u0 u1 : Value} (v0 v1 : Value) (hb : Blk w q #[u0, u1] T) : Blk ((w.setCell ⟨q, 0, none⟩ v0).setCell ⟨q, 1, none⟩ v1) q #[v0, v1] T ∧ ((w.setCell ⟨q, 0, none⟩ v0).setCell ⟨q, 1, none⟩ v1).heap.size = w.heap.size ∧ w.grownBy ((w.setCell ⟨q, 0, none⟩ v0).setCell ⟨q, 1, none⟩ v1) (some q) := by
 have h0 : Blk (w.setCell ⟨q, 0, none⟩ v0) q #[v0, u1] T := hb.set 0 v0
 have h1 : Blk ((w.setCell ⟨q, 0, none⟩ v0).setCell ⟨q, 1, none⟩ v1) q #[v0, v1] T := h0.set 1 v1
 exact ⟨h1, by simp, gtrans (gset _ _ _ _) (gset _ _ _ _)⟩
theorem Blk.c3 {w : World} {q : Nat} {T : TypeId} {v0 v1 v2 : Value} (h : Blk w q #[v0, v1, v2] T) : w.cell? ⟨q, 0, none⟩ = some v0 ∧ w.cell? ⟨q, 1, none⟩ = some v1 ∧ w.cell? ⟨q, 2, none⟩ = some v2 := by
 exact ⟨h.at 0, h.at 1, h.at 2⟩
theorem Blk.f3 {w : World} {q : Nat} {T : TypeId} {v0 v1 v2 : Value} (h : Blk w q #[v0, v1, v2] T) : w.frozen? ⟨q, 0, none⟩ = false ∧ w.frozen? ⟨q, 1, none⟩ = false ∧ w.frozen? ⟨q, 2, none⟩ = false := by
 exact ⟨h.fr 0, h.fr 1, h.fr 2⟩
theorem Blk.c4 {w : World} {q : Nat} {T : TypeId} {v0 v1 v2 v3 : Value} (h : Blk w q #[v0, v1, v2, v3] T) : w.cell? ⟨q, 0, none⟩ = some v0 ∧ w.cell? ⟨q, 1, none⟩ = some v1 ∧ w.cell? ⟨q, 2, none⟩ = some v2 ∧ w.cell? ⟨q, 3, none⟩ = some v3 := by
 exact ⟨h.at 0, h.at 1, h.at 2, h.at 3⟩
theorem Blk.c5 {w : World} {q : Nat} {T : TypeId} {v0 v1 v2 v3 v4 : Value} (h : Blk w q #[v0, v1, v2, v3, v4] T) : w.cell? ⟨q, 0, none⟩ = some v0 ∧ w.cell? ⟨q, 1, none⟩ = some v1 ∧ w.cell? ⟨q, 2, none⟩ = some v2 ∧ w.cell? ⟨q, 3, none⟩ = some v3 ∧ w.cell? ⟨q, 4, none⟩ = some v4 := by
 exact ⟨h.at 0, h.at 1, h.at 2, h.at 3, h.at 4⟩
theorem Blk.c6 {w : World} {q : Nat} {T : TypeId} {v0 v1 v2 v3 v4 v5 : Value} (h : Blk w q #[v0, v1, v2, v3, v4, v5] T) : w.cell? ⟨q, 0, none⟩ = some v0 ∧ w.cell? ⟨q, 1, none⟩ = some v1 ∧ w.cell? ⟨q, 2, none⟩ = some v2 ∧ w.cell? ⟨q, 3, none⟩ = some v3 ∧ w.cell? ⟨q, 4, none⟩ = some v4 ∧ w.cell? ⟨q, 5, none⟩ = some v5 := by
 exact ⟨h.at 0, h.at 1, h.at 2, h.at 3, h.at 4, h.at 5⟩
theorem Blk.f6 {w : World} {q : Nat} {T : TypeId} {v0 v1 v2 v3 v4 v5 : Value} (h : Blk w q #[v0, v1, v2, v3, v4, v5] T) : w.frozen? ⟨q, 0, none⟩ = false ∧ w.frozen? ⟨q, 1, none⟩ = false ∧ w.frozen? ⟨q, 2, none⟩ = false ∧ w.frozen? ⟨q, 3, none⟩ = false ∧ w.frozen? ⟨q, 4, none⟩ = false ∧ w.frozen? ⟨q, 5, none⟩ = false := by
 exact ⟨h.fr 0, h.fr 1, h.fr 2, h.fr 3, h.fr 4, h.fr 5⟩
theorem put6 {w : World} {q : Nat} {T : TypeId} {u0 u1 u2 u3 u4 u5 : Value} (v0 v1 v2 v3 v4 v5 : Value) (hb : Blk w q #[u0, u1, u2, u3, u4, u5] T) : Blk ((((((w.setCell ⟨q, 0, none⟩ v0).setCell ⟨q, 1, none⟩ v1).setCell ⟨q, 2, none⟩ v2).setCell ⟨q, 3, none⟩ v3).setCell ⟨q, 4, none⟩ v4).setCell ⟨q, 5, none⟩ v5) q #[v0, v1, v2, v3, v4, v5] T ∧ ((((((w.setCell ⟨q, 0, none⟩ v0).setCell ⟨q, 1, none⟩ v1).setCell ⟨q, 2, none⟩ v2).setCell ⟨q, 3, none⟩ v3).setCell ⟨q, 4, none⟩ v4).setCell ⟨q, 5, none⟩ v5).heap.size = w.heap.size ∧ w.grownBy ((((((w.setCell ⟨q, 0, none⟩ v0).setCell ⟨q, 1, none⟩ v1).setCell ⟨q, 2, none⟩ v2).setCell ⟨q, 3, none⟩ v3).setCell ⟨q, 4, none⟩ v4).setCell ⟨q, 5, none⟩ v5) (some q) := by
 have h0 : Blk (w.setCell ⟨q, 0, none⟩ v0) q #[v0, u1, u2, u3, u4, u5] T := hb.set 0 v0
 have h1 : Blk ((w.setCell ⟨q, 0, none⟩ v0).setCell ⟨q, 1, none⟩ v1) q #[v0, v1, u2, u3, u4, u5] T := h0.set 1 v1
 have h2 : Blk (((w.setCell ⟨q, 0, none⟩ v0).setCell ⟨q, 1, none⟩ v1).setCell ⟨q, 2, none⟩ v2) q #[v0, v1, v2, u3, u4, u5] T := h1.set 2 v2
 have h3 : Blk ((((w.setCell ⟨q, 0, none⟩ v0).setCell ⟨q, 1, none⟩ v1).setCell ⟨q, 2, none⟩ v2).setCell ⟨q, 3, none⟩ v3) q #[v0, v1, v2, v3, u4, u5] T := h2.set 3 v3
 have h4 : Blk (((((w.setCell ⟨q, 0, none⟩ v0).setCell ⟨q, 1, none⟩ v1).setCell ⟨q, 2, none⟩ v2).setCell ⟨q, 3, none⟩ v3).setCell ⟨q, 4, none⟩ v4) q #[v0, v1, v2, v3, v4, u5] T := h3.set 4 v4
 have h5 : Blk ((((((w.setCell ⟨q, 0, none⟩ v0).setCell ⟨q, 1, none⟩ v1).setCell ⟨q, 2, none⟩ v2).setCell ⟨q, 3, none⟩ v3).setCell ⟨q, 4, none⟩ v4).setCell ⟨q, 5, none⟩ v5) q #[v0, v1, v2, v3, v4, v5] T := h4.set 5 v5
 exact ⟨h5, by simp, gtrans (gtrans (gtrans (gtrans (gtrans (gset _ _ _ _) (gset _ _ _ _)) (gset _ _ _ _)) (gset _ _ _ _)) (gset _ _ _ _)) (gset _ _ _ _)⟩
theorem Blk.c10 {w : World} {q : Nat} {T : TypeId} {v0 v1 v2 v3 v4 v5 v6 v7 v8 v9 : Value} (h : Blk w q #[v0, v1, v2, v3, v4, v5, v6, v7, v8, v9] T) : w.cell? ⟨q, 0, none⟩ = some v0 ∧ w.cell? ⟨q, 1, none⟩ = some v1 ∧ w.cell? ⟨q, 2, none⟩ = some v2 ∧ w.cell? ⟨q, 3, none⟩ = some v3 ∧ w.cell? ⟨q, 4, none⟩ = some v4 ∧ w.cell? ⟨q, 5, none⟩ = some v5 ∧ w.cell? ⟨q, 6, none⟩ = some v6 ∧ w.cell? ⟨q, 7, none⟩ = some v7 ∧ w.cell? ⟨q, 8, none⟩ = some v8 ∧ w.cell? ⟨q, 9, none⟩ = some v9 := by
 exact ⟨h.at 0, h.at 1, h.at 2, h.at 3, h.at 4, h.at 5, h.at 6, h.at 7, h.at 8, h.at 9⟩
theorem Blk.f10 {w : World} {q : Nat} {T : TypeId} {v0 v1 v2 v3 v4 v5 v6 v7 v8 v9 : Value} (h : Blk w q #[v0, v1, v2, v3, v4, v5, v6, v7, v8, v9] T) : w.frozen? ⟨q, 0, none⟩ = false ∧ w.frozen? ⟨q, 1, none⟩ = false ∧ w.frozen? ⟨q, 2, none⟩ = false ∧ w.frozen? ⟨q, 3, none⟩ = false ∧ w.frozen? ⟨q, 4, none⟩ = false ∧ w.frozen? ⟨q, 5, none⟩ = false ∧ w.frozen? ⟨q, 6, none⟩ = false ∧ w.frozen? ⟨q, 7, none⟩ = false ∧ w.frozen? ⟨q, 8, none⟩ = false ∧ w.frozen? ⟨q, 9, none⟩ = false := by
 exact ⟨h.fr 0, h.fr 1, h.fr 2, h.fr 3, h.fr 4, h.fr 5, h.fr 6, h.fr 7, h.fr 8, h.fr 9⟩
theorem put10 {w : World} {q : Nat} {T : TypeId} {u0 u1 u2 u3 u4 u5 u6 u7 u8 u9 : Value} (v0 v1 v2 v3 v4 v5 v6 v7 v8 v9 : Value) (hb : Blk w q #[u0, u1, u2, u3, u4, u5, u6, u7, u8, u9] T) : Blk ((((((((((w.setCell ⟨q, 0, none⟩ v0).setCell ⟨q, 1, none⟩ v1).setCell ⟨q, 2, none⟩ v2).setCell ⟨q, 3, none⟩ v3).setCell ⟨q, 4, none⟩ v4).setCell ⟨q, 5, none⟩ v5).setCell ⟨q, 6, none⟩ v6).setCell ⟨q, 7, none⟩ v7).setCell ⟨q, 8, none⟩ v8).setCell ⟨q, 9, none⟩ v9) q #[v0, v1, v2, v3, v4, v5, v6, v7, v8, v9] T ∧ ((((((((((w.setCell ⟨q, 0, none⟩ v0).setCell ⟨q, 1, none⟩ v1).setCell ⟨q, 2, none⟩ v2).setCell ⟨q, 3, none⟩ v3).setCell ⟨q, 4, none⟩ v4).setCell ⟨q, 5, none⟩ v5).setCell ⟨q, 6, none⟩ v6).setCell ⟨q, 7, none⟩ v7).setCell ⟨q, 8, none⟩ v8).setCell ⟨q, 9, none⟩ v9).heap.size = w.heap.size ∧ w.grownBy ((((((((((w.setCell ⟨q, 0, none⟩ v0).setCell ⟨q, 1, none⟩ v1).setCell ⟨q, 2, none⟩ v2).setCell ⟨q, 3, none⟩ v3).setCell ⟨q, 4, none⟩ v4).setCell ⟨q, 5, none⟩ v5).setCell ⟨q, 6, none⟩ v6).setCell ⟨q, 7, none⟩ v7).setCell ⟨q, 8, none⟩ v8).setCell ⟨q, 9, none⟩ v9) (some q) := by
 have h0 : Blk (w.setCell ⟨q, 0, none⟩ v0) q #[v0, u1, u2, u3, u4, u5, u6, u7, u8, u9] T := hb.set 0 v0
 have h1 : Blk ((w.setCell ⟨q, 0, none⟩ v0).setCell ⟨q, 1, none⟩ v1) q #[v0, v1, u2, u3, u4, u5, u6, u7, u8, u9] T := h0.set 1 v1
 have h2 : Blk (((w.setCell ⟨q, 0, none⟩ v0).setCell ⟨q, 1, none⟩ v1).setCell ⟨q, 2, none⟩ v2) q #[v0, v1, v2, u3, u4, u5, u6, u7, u8, u9] T := h1.set 2 v2
 have h3 : Blk ((((w.setCell ⟨q, 0, none⟩ v0).setCell ⟨q, 1, none⟩ v1).setCell ⟨q, 2, none⟩ v2).setCell ⟨q, 3, none⟩ v3) q #[v0, v1, v2, v3, u4, u5, u6, u7, u8, u9] T := h2.set 3 v3
 have h4 : Blk (((((w.setCell ⟨q, 0, none⟩ v0).setCell ⟨q, 1, none⟩ v1).setCell ⟨q, 2, none⟩ v2).setCell ⟨q, 3, none⟩ v3).setCell ⟨q, 4, none⟩ v4) q #[v0, v1, v2, v3, v4, u5, u6, u7, u8, u9] T := h3.set 4 v4
 have h5 : Blk ((((((w.setCell ⟨q, 0, none⟩ v0).setCell ⟨q, 1, none⟩ v1).setCell ⟨q, 2, none⟩ v2).setCell ⟨q, 3, none⟩ v3).setCell ⟨q, 4, none⟩ v4).setCell ⟨q, 5, none⟩ v5) q #[v0, v1, v2, v3, v4, v5, u6, u7, u8, u9] T := h4.set 5 v5
 have h6 : Blk (((((((w.setCell ⟨q, 0, none⟩ v0).setCell ⟨q, 1, none⟩ v1).setCell ⟨q, 2, none⟩ v2).setCell ⟨q, 3, none⟩ v3).setCell ⟨q, 4, none⟩ v4).setCell ⟨q, 5, none⟩ v5).setCell ⟨q, 6, none⟩ v6) q #[v0, v1, v2, v3, v4, v5, v6, u7, u8, u9] T := h5.set 6 v6
 have h7 : Blk ((((((((w.setCell ⟨q, 0, none⟩ v0).setCell ⟨q, 1, none⟩ v1).setCell ⟨q, 2, none⟩ v2).setCell ⟨q, 3, none⟩ v3).setCell ⟨q, 4, none⟩ v4).setCell ⟨q, 5, none⟩ v5).setCell ⟨q, 6, none⟩ v6).setCell ⟨q, 7, none⟩ v7) q #[v0, v1, v2, v3, v4, v5, v6, v7, u8, u9] T := h6.set 7 v7
 have h8 : Blk (((((((((w.setCell ⟨q, 0, none⟩ v0).setCell ⟨q, 1, none⟩ v1).setCell ⟨q, 2, none⟩ v2).setCell ⟨q, 3, none⟩ v3).setCell ⟨q, 4, none⟩ v4).setCell ⟨q, 5, none⟩ v5).setCell ⟨q, 6, none⟩ v6).setCell ⟨q, 7, none⟩ v7).setCell ⟨q, 8, none⟩ v8) q #[v0, v1, v2, v3, v4, v5, v6, v7, v8, u9] T := h7.set 8 v8
 have h9 : Blk ((((((((((w.setCell ⟨q, 0, none⟩ v0).setCell ⟨q, 1, none⟩ v1).setCell ⟨q, 2, none⟩ v2).setCell ⟨q, 3, none⟩ v3).setCell ⟨q, 4, none⟩ v4).setCell ⟨q, 5, none⟩ v5).setCell ⟨q, 6, none⟩ v6).setCell ⟨q, 7, none⟩ v7).setCell ⟨q, 8, none⟩ v8).setCell ⟨q, 9, none⟩ v9) q #[v0, v1, v2, v3, v4, v5, v6, v7, v8, v9] T := h8.set 9 v9
 exact ⟨h9, by simp, gtrans (gtrans (gtrans (gtrans (gtrans (gtrans (gtrans (gtrans (gtrans (gset _ _ _ _) (gset _ _ _ _)) (gset _ _ _ _)) (gset _ _ _ _)) (gset _ _ _ _)) (gset _ _ _ _)) (gset _ _ _ _)) (gset _ _ _ _)) (gset _ _ _ _)) (gset _ _ _ _)⟩
theorem Blk.c13 {w : World} {q : Nat} {T : TypeId} {v0 v1 v2 v3 v4 v5 v6 v7 v8 v9 v10 v11 v12 : Value} (h : Blk w q #[v0, v1, v2, v3, v4, v5, v6, v7, v8, v9, v10, v11, v12] T) : w.cell? ⟨q, 0, none⟩ = some v0 ∧ w.cell? ⟨q, 1, none⟩ = some v1 ∧ w.cell? ⟨q, 2, none⟩ = some v2 ∧ w.cell? ⟨q, 3, none⟩ = some v3 ∧ w.cell? ⟨q, 4, none⟩ = some v4 ∧ w.cell? ⟨q, 5, none⟩ = some v5 ∧ w.cell? ⟨q, 6, none⟩ = some v6 ∧ w.cell? ⟨q, 7, none⟩ = some v7 ∧ w.cell? ⟨q, 8, none⟩ = some v8 ∧ w.cell? ⟨q, 9, none⟩ = some v9 ∧ w.cell? ⟨q, 10, none⟩ = some v10 ∧ w.cell? ⟨q, 11, none⟩ = some v11 ∧ w.cell? ⟨q, 12, none⟩ = some v12 := by
 exact ⟨h.at 0, h.at 1, h.at 2, h.at 3, h.at 4, h.at 5, h.at 6, h.at 7, h.at 8, h.at 9, h.at 10, h.at 11, h.at 12⟩
theorem Blk.f13 {w : World} {q : Nat} {T : TypeId} {v0 v1 v2 v3 v4 v5 v6 v7 v8 v9 v10 v11 v12 : Value} (h : Blk w q #[v0, v1, v2, v3, v4, v5, v6, v7, v8, v9, v10, v11, v12] T) : w.frozen? ⟨q, 0, none⟩ = false ∧ w.frozen? ⟨q, 1, none⟩ = false ∧ w.frozen? ⟨q, 2, none⟩ = false ∧ w.frozen? ⟨q, 3, none⟩ = false ∧ w.frozen? ⟨q, 4, none⟩ = false ∧ w.frozen? ⟨q, 5, none⟩ = false ∧ w.frozen? ⟨q, 6, none⟩ = false ∧ w.frozen? ⟨q, 7, none⟩ = false ∧ w.frozen? ⟨q, 8, none⟩ = false ∧ w.frozen? ⟨q, 9, none⟩ = false ∧ w.frozen? ⟨q, 10, none⟩ = false ∧ w.frozen? ⟨q, 11, none⟩ = false ∧ w.frozen? ⟨q, 12, none⟩ = false := by
 exact ⟨h.fr 0, h.fr 1, h.fr 2, h.fr 3, h.fr 4, h.fr 5, h.fr 6, h.fr 7, h.fr 8, h.fr 9, h.fr 10, h.fr 11, h.fr 12⟩
theorem put13 {w : World} {q : Nat} {T : TypeId} {u0 u1 u2 u3 u4 u5 u6 u7 u8 u9 u10 u11 u12 : Value} (v0 v1 v2 v3 v4 v5 v6 v7 v8 v9 v10 v11 v12 : Value) (hb : Blk w q #[u0, u1, u2, u3, u4, u5, u6, u7, u8, u9, u10, u11, u12] T) : Blk (((((((((((((w.setCell ⟨q, 0, none⟩ v0).setCell ⟨q, 1, none⟩ v1).setCell ⟨q, 2, none⟩ v2).setCell ⟨q, 3, none⟩ v3).setCell ⟨q, 4, none⟩ v4).setCell ⟨q, 5, none⟩ v5).setCell ⟨q, 6, none⟩ v6).setCell ⟨q, 7, none⟩ v7).setCell ⟨q, 8, none⟩ v8).setCell ⟨q, 9, none⟩ v9).setCell ⟨q, 10, none⟩ v10).setCell ⟨q, 11, none⟩ v11).setCell ⟨q, 12, none⟩ v12) q #[v0, v1, v2, v3, v4, v5, v6, v7, v8, v9, v10, v11, v12] T ∧ (((((((((((((w.setCell ⟨q, 0, none⟩ v0).setCell ⟨q, 1, none⟩ v1).setCell ⟨q, 2, none⟩ v2).setCell ⟨q, 3, none⟩ v3).setCell ⟨q, 4, none⟩ v4).setCell ⟨q, 5, none⟩ v5).setCell ⟨q, 6, none⟩ v6).setCell ⟨q, 7, none⟩ v7).setCell ⟨q, 8, none⟩ v8).setCell ⟨q, 9, none⟩ v9).setCell ⟨q, 10, none⟩ v10).setCell ⟨q, 11, none⟩ v11).setCell ⟨q, 12, none⟩ v12).heap.size = w.heap.size ∧ w.grownBy (((((((((((((w.setCell ⟨q, 0, none⟩ v0).setCell ⟨q, 1, none⟩ v1).setCell ⟨q, 2, none⟩ v2).setCell ⟨q, 3, none⟩ v3).setCell ⟨q, 4, none⟩ v4).setCell ⟨q, 5, none⟩ v5).setCell ⟨q, 6, none⟩ v6).setCell ⟨q, 7, none⟩ v7).setCell ⟨q, 8, none⟩ v8).setCell ⟨q, 9, none⟩ v9).setCell ⟨q, 10, none⟩ v10).setCell ⟨q, 11, none⟩ v11).setCell ⟨q, 12, none⟩ v12) (some q) := by
 have h0 : Blk (w.setCell ⟨q, 0, none⟩ v0) q #[v0, u1, u2, u3, u4, u5, u6, u7, u8, u9, u10, u11, u12] T := hb.set 0 v0
 have h1 : Blk ((w.setCell ⟨q, 0, none⟩ v0).setCell ⟨q, 1, none⟩ v1) q #[v0, v1, u2, u3, u4, u5, u6, u7, u8, u9, u10, u11, u12] T := h0.set 1 v1
 have h2 : Blk (((w.setCell ⟨q, 0, none⟩ v0).setCell ⟨q, 1, none⟩ v1).setCell ⟨q, 2, none⟩ v2) q #[v0, v1, v2, u3, u4, u5, u6, u7, u8, u9, u10, u11, u12] T := h1.set 2 v2
 have h3 : Blk ((((w.setCell ⟨q, 0, none⟩ v0).setCell ⟨q, 1, none⟩ v1).setCell ⟨q, 2, none⟩ v2).setCell ⟨q, 3, none⟩ v3) q #[v0, v1, v2, v3, u4, u5, u6, u7, u8, u9, u10, u11, u12] T := h2.set 3 v3
 have h4 : Blk (((((w.setCell ⟨q, 0, none⟩ v0).setCell ⟨q, 1, none⟩ v1).setCell ⟨q, 2, none⟩ v2).setCell ⟨q, 3, none⟩ v3).setCell ⟨q, 4, none⟩ v4) q #[v0, v1, v2, v3, v4, u5, u6, u7, u8, u9, u10, u11, u12] T := h3.set 4 v4
 have h5 : Blk ((((((w.setCell ⟨q, 0, none⟩ v0).setCell ⟨q, 1, none⟩ v1).setCell ⟨q, 2, none⟩ v2).setCell ⟨q, 3, none⟩ v3).setCell ⟨q, 4, none⟩ v4).setCell ⟨q, 5, none⟩ v5) q #[v0, v1, v2, v3, v4, v5, u6, u7, u8, u9, u10, u11, u12] T := h4.set 5 v5
 have h6 : Blk (((((((w.setCell ⟨q, 0, none⟩ v0).setCell ⟨q, 1, none⟩ v1).setCell ⟨q, 2, none⟩ v2).setCell ⟨q, 3, none⟩ v3).setCell ⟨q, 4, none⟩ v4).setCell ⟨q, 5, none⟩ v5).setCell ⟨q, 6, none⟩ v6) q #[v0, v1, v2, v3, v4, v5, v6, u7, u8, u9, u10, u11, u12] T := h5.set 6 v6
 have h7 : Blk ((((((((w.setCell ⟨q, 0, none⟩ v0).setCell ⟨q, 1, none⟩ v1).setCell ⟨q, 2, none⟩ v2).setCell ⟨q, 3, none⟩ v3).setCell ⟨q, 4, none⟩ v4).setCell ⟨q, 5, none⟩ v5).setCell ⟨q, 6, none⟩ v6).setCell ⟨q, 7, none⟩ v7) q #[v0, v1, v2, v3, v4, v5, v6, v7, u8, u9, u10, u11, u12] T := h6.set 7 v7
 have h8 : Blk (((((((((w.setCell ⟨q, 0, none⟩ v0).setCell ⟨q, 1, none⟩ v1).setCell ⟨q, 2, none⟩ v2).setCell ⟨q, 3, none⟩ v3).setCell ⟨q, 4, none⟩ v4).setCell ⟨q, 5, none⟩ v5).setCell ⟨q, 6, none⟩ v6).setCell ⟨q, 7, none⟩ v7).setCell ⟨q, 8, none⟩ v8) q #[v0, v1, v2, v3, v4, v5, v6, v7, v8, u9, u10, u11, u12] T := h7.set 8 v8
 have h9 : Blk ((((((((((w.setCell ⟨q, 0, none⟩ v0).setCell ⟨q, 1, none⟩ v1).setCell ⟨q, 2, none⟩ v2).setCell ⟨q, 3, none⟩ v3).setCell ⟨q, 4, none⟩ v4).setCell ⟨q, 5, none⟩ v5).setCell ⟨q, 6, none⟩ v6).setCell ⟨q, 7, none⟩ v7).setCell ⟨q, 8, none⟩ v8).setCell ⟨q, 9, none⟩ v9) q #[v0, v1, v2, v3, v4, v5, v6, v7, v8, v9, u10, u11, u12] T := h8.set 9 v9
 have h10 : Blk (((((((((((w.setCell ⟨q, 0, none⟩ v0).setCell ⟨q, 1, none⟩ v1).setCell ⟨q, 2, none⟩ v2).setCell ⟨q, 3, none⟩ v3).setCell ⟨q, 4, none⟩ v4).setCell ⟨q, 5, none⟩ v5).setCell ⟨q, 6, none⟩ v6).setCell ⟨q, 7, none⟩ v7).setCell ⟨q, 8, none⟩ v8).setCell ⟨q, 9, none⟩ v9).setCell ⟨q, 10, none⟩ v10) q #[v0, v1, v2, v3, v4, v5, v6, v7, v8, v9, v10, u11, u12] T := h9.set 10 v10
 have h11 : Blk ((((((((((((w.setCell ⟨q, 0, none⟩ v0).setCell ⟨q, 1, none⟩ v1).setCell ⟨q, 2, none⟩ v2).setCell ⟨q, 3, none⟩ v3).setCell ⟨q, 4, none⟩ v4).setCell ⟨q, 5, none⟩ v5).setCell ⟨q, 6, none⟩ v6).setCell ⟨q, 7, none⟩ v7).setCell ⟨q, 8, none⟩ v8).setCell ⟨q, 9, none⟩ v9).setCell ⟨q, 10, none⟩ v10).setCell ⟨q, 11, none⟩ v11) q #[v0, v1, v2, v3, v4, v5, v6, v7, v8, v9, v10, v11, u12] T := h10.set 11 v11
 have h12 : Blk (((((((((((((w.setCell ⟨q, 0, none⟩ v0).setCell ⟨q, 1, none⟩ v1).setCell ⟨q, 2, none⟩ v2).setCell ⟨q, 3, none⟩ v3).setCell ⟨q, 4, none⟩ v4).setCell ⟨q, 5, none⟩ v5).setCell ⟨q, 6, none⟩ v6).setCell ⟨q, 7, none⟩ v7).setCell ⟨q, 8, none⟩ v8).setCell ⟨q, 9, none⟩ v9).setCell ⟨q, 10, none⟩ v10).setCell ⟨q, 11, none⟩ v11).setCell ⟨q, 12, none⟩ v12) q #[v0, v1, v2, v3, v4, v5, v6, v7, v8, v9, v10, v11, v12] T := h11.set 12 v12
 exact ⟨h12, by simp, gtrans (gtrans (gtrans (gtrans (gtrans (gtrans (gtrans (gtrans (gtrans (gtrans (gtrans (gtrans (gset _ _ _ _) (gset _ _ _ _)) (gset _ _ _ _)) (gset _ _ _ _)) (gset _ _ _ _)) (gset _ _ _ _)) (gset _ _ _ _)) (gset _ _ _ _)) (gset _ _ _ _)) (gset _ _ _ _)) (gset _ _ _ _)) (gset _ _ _ _)) (gset _ _ _ _)⟩
theorem Blk.c14 {w : World} {q : Nat} {T : TypeId} {v0 v1 v2 v3 v4 v5 v6 v7 v8 v9 v10 v11 v12 v13 : Value} (h : Blk w q #[v0, v1, v2, v3, v4, v5, v6, v7, v8, v9, v10, v11, v12, v13] T) : w.cell? ⟨q, 0, none⟩ = some v0 ∧ w.cell? ⟨q, 1, none⟩ = some v1 ∧ w.cell? ⟨q, 2, none⟩ = some v2 ∧ w.cell? ⟨q, 3, none⟩ = some v3 ∧ w.cell? ⟨q, 4, none⟩ = some v4 ∧ w.cell? ⟨q, 5, none⟩ = some v5 ∧ w.cell? ⟨q, 6, none⟩ = some v6 ∧ w.cell? ⟨q, 7, none⟩ = some v7 ∧ w.cell? ⟨q, 8, none⟩ = some v8 ∧ w.cell? ⟨q, 9, none⟩ = some v9 ∧ w.cell? ⟨q, 10, none⟩ = some v10 ∧ w.cell? ⟨q, 11, none⟩ = some v11 ∧ w.cell? ⟨q, 12, none⟩ = some v12 ∧ w.cell? ⟨q, 13, none⟩ = some v13 := by
 exact ⟨h.at 0, h.at 1, h.at 2, h.at 3, h.at 4, h.at 5, h.at 6, h.at 7, h.at 8, h.at 9, h.at 10, h.at 11, h.at 12, h.at 13⟩
theorem Blk.f14 {w : World} {q : Nat} {T : TypeId} {v0 v1 v2 v3 v4 v5 v6 v7 v8 v9 v10 v11 v12 v13 : Value} (h : Blk w q #[v0, v1, v2, v3, v4, v5, v6, v7, v8, v9, v10, v11, v12, v13] T) : w.frozen? ⟨q, 0, none⟩ = false ∧ w.frozen? ⟨q, 1, none⟩ = false ∧ w.frozen? ⟨q, 2, none⟩ = false ∧ w.frozen? ⟨q, 3, none⟩ = false ∧ w.frozen? ⟨q, 4, none⟩ = false ∧ w.frozen? ⟨q, 5, none⟩ = false ∧ w.frozen? ⟨q, 6, none⟩ = false ∧ w.frozen? ⟨q, 7, none⟩ = false ∧ w.frozen? ⟨q, 8, none⟩ = false ∧ w.frozen? ⟨q, 9, none⟩ = false ∧ w.frozen? ⟨q, 10, none⟩ = false ∧ w.frozen? ⟨q, 11, none⟩ = false ∧ w.frozen? ⟨q, 12, none⟩ = false ∧ w.frozen? ⟨q, 13, none⟩ = false := by
 exact ⟨h.fr 0, h.fr 1, h.fr 2, h.fr 3, h.fr 4, h.fr 5, h.fr 6, h.fr 7, h.fr 8, h.fr 9, h.fr 10, h.fr 11, h.fr 12, h.fr 13⟩
theorem sto1 {w : World} {q : Nat} {T : TypeId} {cs : Array Value} (i0 : Nat) (v0 : Value) (hb : Blk w q cs T) : Blk (w.setCell ⟨q, i0, none⟩ v0) q (cs.setIfInBounds i0 v0) T ∧ (w.setCell ⟨q, i0, none⟩ v0).heap.size = w.heap.size ∧ w.grownBy (w.setCell ⟨q, i0, none⟩ v0) (some q) :=
 ⟨(hb.set i0 v0), by simp, gset _ _ _ _⟩
theorem nsC1 {w : World} {q : Nat} {T : TypeId} {cs : Array Value} {i0 : Nat} {v0 : Value} {P : Program} {c : Code} {K : Exit → Act → World → Prop} {a : Act} (hb : Blk w q cs T) (h : ∀ W, Blk W q (cs.setIfInBounds i0 v0) T → W.heap.size = w.heap.size → w.grownBy W (some q) → Code.wp P c K a W) : Code.wp P c K a (w.setCell ⟨q, i0, none⟩ v0) := by
 obtain ⟨h0, hz, hg⟩ := sto1 i0 v0 hb
 exact h _ h0 hz hg
theorem sto2 {w : World} {q : Nat} {T : TypeId} {cs : Array Value} (i0 i1 : Nat) (v0 v1 : Value) (hb : Blk w q cs T) : Blk ((w.setCell ⟨q, i0, none⟩ v0).setCell ⟨q, i1, none⟩ v1) q ((cs.setIfInBounds i0 v0).setIfInBounds i1 v1) T ∧ ((w.setCell ⟨q, i0, none⟩ v0).setCell ⟨q, i1, none⟩ v1).heap.size = w.heap.size ∧ w.grownBy ((w.setCell ⟨q, i0, none⟩ v0).setCell ⟨q, i1, none⟩ v1) (some q) :=
 ⟨((hb.set i0 v0).set i1 v1), by simp, gtrans (gset _ _ _ _) (gset _ _ _ _)⟩
theorem sto3 {w : World} {q : Nat} {T : TypeId} {cs : Array Value} (i0 i1 i2 : Nat) (v0 v1 v2 : Value) (hb : Blk w q cs T) : Blk (((w.setCell ⟨q, i0, none⟩ v0).setCell ⟨q, i1, none⟩ v1).setCell ⟨q, i2, none⟩ v2) q (((cs.setIfInBounds i0 v0).setIfInBounds i1 v1).setIfInBounds i2 v2) T ∧ (((w.setCell ⟨q, i0, none⟩ v0).setCell ⟨q, i1, none⟩ v1).setCell ⟨q, i2, none⟩ v2).heap.size = w.heap.size ∧ w.grownBy (((w.setCell ⟨q, i0, none⟩ v0).setCell ⟨q, i1, none⟩ v1).setCell ⟨q, i2, none⟩ v2) (some q) :=
 ⟨(((hb.set i0 v0).set i1 v1).set i2 v2), by simp, gtrans (gtrans (gset _ _ _ _) (gset _ _ _ _)) (gset _ _ _ _)⟩
theorem sto4 {w : World} {q : Nat} {T : TypeId} {cs : Array Value} (i0 i1 i2 i3 : Nat) (v0 v1 v2 v3 : Value) (hb : Blk w q cs T) : Blk ((((w.setCell ⟨q, i0, none⟩ v0).setCell ⟨q, i1, none⟩ v1).setCell ⟨q, i2, none⟩ v2).setCell ⟨q, i3, none⟩ v3) q ((((cs.setIfInBounds i0 v0).setIfInBounds i1 v1).setIfInBounds i2 v2).setIfInBounds i3 v3) T ∧ ((((w.setCell ⟨q, i0, none⟩ v0).setCell ⟨q, i1, none⟩ v1).setCell ⟨q, i2, none⟩ v2).setCell ⟨q, i3, none⟩ v3).heap.size = w.heap.size ∧ w.grownBy ((((w.setCell ⟨q, i0, none⟩ v0).setCell ⟨q, i1, none⟩ v1).setCell ⟨q, i2, none⟩ v2).setCell ⟨q, i3, none⟩ v3) (some q) :=
 ⟨((((hb.set i0 v0).set i1 v1).set i2 v2).set i3 v3), by simp, gtrans (gtrans (gtrans (gset _ _ _ _) (gset _ _ _ _)) (gset _ _ _ _)) (gset _ _ _ _)⟩
theorem nsC4 {w : World} {q : Nat} {T : TypeId} {cs : Array Value} {i0 i1 i2 i3 : Nat} {v0 v1 v2 v3 : Value} {P : Program} {c : Code} {K : Exit → Act → World → Prop} {a : Act} (hb : Blk w q cs T) (h : ∀ W, Blk W q ((((cs.setIfInBounds i0 v0).setIfInBounds i1 v1).setIfInBounds i2 v2).setIfInBounds i3 v3) T → W.heap.size = w.heap.size → w.grownBy W (some q) → Code.wp P c K a W) : Code.wp P c K a ((((w.setCell ⟨q, i0, none⟩ v0).setCell ⟨q, i1, none⟩ v1).setCell ⟨q, i2, none⟩ v2).setCell ⟨q, i3, none⟩ v3) := by
 obtain ⟨h0, hz, hg⟩ := sto4 i0 i1 i2 i3 v0 v1 v2 v3 hb
 exact h _ h0 hz hg
theorem res76 {tmps : Array Value} {W : World} {r : Nat} {v0 v1 v2 v3 v4 v5 v6 v7 v8 v9 : Value} (ht : tmps[12]?.getD undef = .pointer (some ⟨r, 0, none⟩)) (hb : Blk W r #[v0, v1, v2, v3, v4, v5, v6, v7, v8, v9] 130) : (results Tryz.f76 tmps).run Tryz.prog W = .ok (.agg #[v0, v1, v2, v3, v4, v5, v6, v7, v8, v9]) W := by
 obtain ⟨c0, c1, c2, c3, c4, c5, c6, c7, c8, c9⟩ := hb.c10
 have ha : (isAgg 130).run Tryz.prog W = .ok true W := by kernel_rfl
 simp [results, Tryz.results76, go_sem, ht, c0, c1, c2, c3, c4, c5, c6, c7, c8, c9, ha]
theorem res30 {tmps : Array Value} {W : World} {r : Nat} {v0 v1 v2 v3 v4 v5 v6 v7 v8 v9 v10 v11 v12 : Value} (ht : tmps[4]?.getD undef = .pointer (some ⟨r, 0, none⟩)) (hb : Blk W r #[v0, v1, v2, v3, v4, v5, v6, v7, v8, v9, v10, v11, v12] 133) : (results Tryz.f30 tmps).run Tryz.prog W = .ok (.agg #[v0, v1, v2, v3, v4, v5, v6, v7, v8, v9, v10, v11, v12]) W := by
 obtain ⟨c0, c1, c2, c3, c4, c5, c6, c7, c8, c9, c10, c11, c12⟩ := hb.c13
 have ha : (isAgg 133).run Tryz.prog W = .ok true W := by kernel_rfl
 simp [results, Tryz.results30, go_sem, ht, c0, c1, c2, c3, c4, c5, c6, c7, c8, c9, c10, c11, c12, ha]
theorem res52 {tmps : Array Value} {W : World} {r : Nat} {v0 v1 v2 v3 v4 v5 v6 v7 v8 v9 v10 v11 v12 : Value} (ht : tmps[8]?.getD undef = .pointer (some ⟨r, 0, none⟩)) (hb : Blk W r #[v0, v1, v2, v3, v4, v5, v6, v7, v8, v9, v10, v11, v12] 133) : (results Tryz.f52 tmps).run Tryz.prog W = .ok (.agg #[v0, v1, v2, v3, v4, v5, v6, v7, v8, v9, v10, v11, v12]) W := by
 obtain ⟨c0, c1, c2, c3, c4, c5, c6, c7, c8, c9, c10, c11, c12⟩ := hb.c13
 have ha : (isAgg 133).run Tryz.prog W = .ok true W := by kernel_rfl
 simp [results, Tryz.results52, go_sem, ht, c0, c1, c2, c3, c4, c5, c6, c7, c8, c9, c10, c11, c12, ha]
theorem res55 {tmps : Array Value} {W : World} {r : Nat} {v0 v1 v2 v3 v4 v5 v6 v7 v8 v9 : Value} (ht : tmps[6]?.getD undef = .pointer (some ⟨r, 0, none⟩)) (hb : Blk W r #[v0, v1, v2, v3, v4, v5, v6, v7, v8, v9] 130) : (results Tryz.f55 tmps).run Tryz.prog W = .ok (.agg #[v0, v1, v2, v3, v4, v5, v6, v7, v8, v9]) W := by
 obtain ⟨c0, c1, c2, c3, c4, c5, c6, c7, c8, c9⟩ := hb.c10
 have ha : (isAgg 130).run Tryz.prog W = .ok true W := by kernel_rfl
 simp [results, Tryz.results55, go_sem, ht, c0, c1, c2, c3, c4, c5, c6, c7, c8, c9, ha]
theorem res69 {tmps : Array Value} {W : World} {r : Nat} {v0 v1 : Value} (ht : tmps[6]?.getD undef = .pointer (some ⟨r, 0, none⟩)) (hb : Blk W r #[v0, v1] 61) : (results Tryz.f69 tmps).run Tryz.prog W = .ok (.agg #[v0, v1]) W := by
 obtain ⟨c0, c1⟩ := hb.c2
 have ha : (isAgg 61).run Tryz.prog W = .ok true W := by kernel_rfl
 simp [results, Tryz.results69, go_sem, ht, c0, c1, ha]
theorem res144 {tmps : Array Value} {W : World} {r : Nat} {v0 v1 v2 v3 v4 v5 : Value} (ht : tmps[2]?.getD undef = .pointer (some ⟨r, 0, none⟩)) (hb : Blk W r #[v0, v1, v2, v3, v4, v5] 278) : (results Tryz.f144 tmps).run Tryz.prog W = .ok (.agg #[v0, v1, v2, v3, v4, v5]) W := by
 obtain ⟨c0, c1, c2, c3, c4, c5⟩ := hb.c6
 have ha : (isAgg 278).run Tryz.prog W = .ok true W := by kernel_rfl
 simp [results, Tryz.results144, go_sem, ht, c0, c1, c2, c3, c4, c5, ha]
end Go.Proofs.YtndfpmboanohcaaGreatDoor
