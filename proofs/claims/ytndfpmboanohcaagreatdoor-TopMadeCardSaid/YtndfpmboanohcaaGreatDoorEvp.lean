/- What the maker's event holds, and where it lies: words. -/
import Derived.Test.YtndfpmboanohcaaGreatDoorMkaToVot
import Derived.Test.YtndfpmboanohcaaGreatDoorRua
namespace Go.Proofs.YtndfpmboanohcaaGreatDoor
set_option maxRecDepth 100000
open Go.RowKit Go.Maps SkipPure
def WhoAt (w : World) (lo hi : Nat) (vw : Option Addr) (ks : List Int) : Prop := Ints .i64 w vw ks ∧ ∀ ad, vw = some ad → (lo ≤ ad.block ∧ ad.block < hi) ∧ ad.spot = none
theorem WhoAt.chg {S : Nat → Prop} {w w' : World} {lo hi : Nat} {vw : Option Addr} {ks : List Int} (h : WhoAt w lo hi vw ks) (hc : Chg S w w') (hs : ∀ i, lo ≤ i → i < hi → ¬ S i) : WhoAt w' lo hi vw ks :=
 ⟨h.1.chg hc (fun ad e => hs _ (h.2 ad e).1.1 (h.2 ad e).1.2), h.2⟩
theorem WhoAt.nil (w : World) (lo hi : Nat) : WhoAt w lo hi none [] := ⟨fun i hi => by simp at hi, fun ad e => by cases e⟩
theorem WhoAt.ok {w : World} {lo hi : Nat} {vw : Option Addr} {ks : List Int} (h : WhoAt w lo hi vw ks) {l m : Nat} (hl : l ≤ lo) (hm : hi ≤ m) : ∀ ad, vw = some ad → (l ≤ ad.block ∧ ad.block < m) ∧ ad.spot = none :=
 fun ad e => ⟨⟨Nat.le_trans hl (h.2 ad e).1.1, Nat.lt_of_lt_of_le (h.2 ad e).1.2 hm⟩, (h.2 ad e).2⟩
theorem vt0B : VtB vt0 := ⟨by show inU 0; unfold inU; omega, by unfold vt0; simp, by simp [vt0]⟩
def ev0 : Ev := ⟨0, 0, 0, 0, 0, [], [], vt0, vt0, vt0⟩
def ev0C : Array Value := evC ev0 none 0 none 0 none 0 none 0 none 0
structure ES (w0 w : World) (mp p q : Nat) (vb : Value) (nb : Option Nat) : Prop where
 mm : Mk w mp p vb nb
 b0 : Blk w q ev0C 68
 chg : Chg (fun i => i = mp) w0 w
section
variable {w0 w w' : World} {mp p q : Nat} {vb : Value} {nb : Option Nat}
theorem ES.g (h : ES w0 w mp p q vb nb) (hg : w.grownBy w' none) : ES w0 w' mp p q vb nb := ⟨h.mm.g hg, h.b0.g hg, h.chg.trans (Chg.of hg)⟩
theorem ES.num (h : ES w0 w mp p q vb nb) (hm : Mk w' mp p vb nb) (hc : Chg (fun i => i = mp) w w') (h1 : mp < q) : ES w0 w' mp p q vb nb := ⟨hm, hc.blk h.b0 (by omega), h.chg.trans hc⟩
theorem ES.new (h : ES w0 w mp p q vb nb) {b : Nat} (hg : w.grownBy w' (some b)) (hb : q < b) (h1 : mp < q) (h0 : w0.heap.size ≤ q) (hn : ∀ k, nb = some k → k < w0.heap.size) : ES w0 w' mp p q vb nb := by
 have hc : Chg (fun i => i = b) w w' := Chg.one hg rfl
 exact ⟨h.mm.chg hc (by omega) (fun k hk e => by have := hn k hk; omega), hc.blk h.b0 (by omega), h.chg.then hc (fun i e => .inr (by omega))⟩
end
def blC (rt r sl : Int) (vv pv : Value) : Array Value := #[.int .u64 rt, .int .u64 r, .int .i64 sl, vv, pv]
structure Vx where
 v : Vt
 a : Option Addr
 c : Nat
def vrC (x : Vx) : List Value := [.int .i64 x.v.sl, .int .u64 x.v.hd, .int .i64 x.v.se, .int .u64 x.v.sr, .int .i64 x.v.te, .int .u64 x.v.tr, .slice x.a x.v.who.length x.c]
def WRow (w : World) (base : Nat) (x : Vx) : Prop := w.ownsRow base 3 1 (.slice x.a x.v.who.length x.c) x.v.who.length (x.v.who.map (Value.int .i64))
structure BW (w0 w : World) (mp p q gm : Nat) (vb : Value) (nb : Option Nat) (rt r sl : Int) (vv pv : Value) (L : List Vx) (M : List (Vx × Vx)) : Prop where
 es : ES w0 w mp p q vb nb
 b : Blk w gm (blC rt r sl vv pv) 59
 rv : w.ownsRow w0.heap.size 64 7 vv L.length (L.flatMap vrC)
 rp : w.ownsRow w0.heap.size 66 14 pv M.length (M.flatMap fun x => vrC x.1 ++ vrC x.2)
 wv : ∀ x ∈ L, WRow w w0.heap.size x ∧ VtB x.v
 wp : ∀ x ∈ M, (WRow w w0.heap.size x.1 ∧ VtB x.1.v) ∧ WRow w w0.heap.size x.2 ∧ VtB x.2.v
theorem inU_wrap (z : Int) : inU (IntKind.u64.wrap z) := by
 unfold inU
 simp [IntKind.wrap, IntKind.signed, IntKind.bits]
 omega
theorem info_vt : (Tryz.prog.info? 64).map (fun i => (i.zero, i.size, i.bytes)) = some (some (.agg #[.int .i64 0, .int .u64 0, .int .i64 0, .int .u64 0, .int .i64 0, .int .u64 0, .slice none 0 0]), 7, 72) := by kernel_rfl
theorem elem_vt : ∃ i, Elem Tryz.prog 64 i (.agg #[.int .i64 0, .int .u64 0, .int .i64 0, .int .u64 0, .int .i64 0, .int .u64 0, .slice none 0 0]) 7 72 := info_parts info_vt
theorem info_pr : (Tryz.prog.info? 66).map (fun i => (i.zero, i.size, i.bytes)) = some (some (.agg #[.int .i64 0, .int .u64 0, .int .i64 0, .int .u64 0, .int .i64 0, .int .u64 0, .slice none 0 0, .int .i64 0, .int .u64 0, .int .i64 0, .int .u64 0, .int .i64 0, .int .u64 0, .slice none 0 0]), 14, 144) := by kernel_rfl
theorem elem_pr : ∃ i, Elem Tryz.prog 66 i (.agg #[.int .i64 0, .int .u64 0, .int .i64 0, .int .u64 0, .int .i64 0, .int .u64 0, .slice none 0 0, .int .i64 0, .int .u64 0, .int .i64 0, .int .u64 0, .int .i64 0, .int .u64 0, .slice none 0 0]) 14 144 := info_parts info_pr
theorem flat_get {α β : Type} (f : α → List β) (k : Nat) (hf : ∀ x, (f x).length = k) : ∀ (L : List α) (i : Nat) (x : α), L[i]? = some x → ∀ t, t < k → (L.flatMap f)[i * k + t]? = (f x)[t]?
 | [], i, x, h, _, _ => by simp at h
 | y :: L, 0, x, h, t, ht => by
  obtain rfl : y = x := by simpa using h
  show (f y ++ L.flatMap f)[0 * k + t]? = _
  rw [List.getElem?_append_left (by rw [hf]; omega)]
  simp
 | y :: L, i + 1, x, h, t, ht => by
  rw [List.getElem?_cons_succ] at h
  have ih := flat_get f k hf L i x h t ht
  show (f y ++ L.flatMap f)[(i + 1) * k + t]? = _
  rw [List.getElem?_append_right (by rw [hf, Nat.succ_mul]; omega), hf, show (i + 1) * k + t - k = i * k + t from by rw [Nat.succ_mul]; omega]
  exact ih
section
variable {w0 w w' : World} {mp p q gm : Nat} {vb : Value} {nb : Option Nat} {rt r sl : Int} {vv pv : Value} {L : List Vx} {M : List (Vx × Vx)}
theorem blk_row {k : Nat} {cs : Array Value} {T0 T : TypeId} {base s2 n2 : Nat} {v2 : Value} {xs2 : List Value} (hb : Blk w k cs T0) (h2 : w.ownsRow base T s2 v2 n2 xs2) (hg : w.grownBy w' v2.ownBlock) (hT : T ≠ T0) : Blk w' k cs T0 :=
 hb.kept hg (fun e => by
  obtain ⟨cur, hcur⟩ := ownsRow_ty h2 e
  unfold Blk at hb
  rw [hb] at hcur
  cases hcur
  exact hT rfl)
theorem ES.row {T : TypeId} {s2 n2 : Nat} {v2 : Value} {xs2 : List Value} (h : ES w0 w mp p q vb nb) (h2 : w.ownsRow w0.heap.size T s2 v2 n2 xs2) (hg : w.grownBy w' v2.ownBlock) (h1 : T ≠ 92) (h68 : T ≠ 68) (hn : ∀ k, nb = some k → k < w0.heap.size) : ES w0 w' mp p q vb nb := by
 have hc : Chg (fun i => v2.ownBlock = some i) w w' := ⟨hg.os, hg.tape, hg.output, hg.size, fun i hi hn => hg.block i hi (fun e => hn e.symm)⟩
 refine ⟨h.mm.chg hc (fun e => ?_) (fun k hk e => ?_), blk_row h.b0 h2 hg h68, h.chg.then hc (fun i e => .inr (h2.lt i e).1)⟩
 ·obtain ⟨cur, hcur⟩ := ownsRow_ty h2 e
  exact h.mm.ne hcur h1 rfl
 ·have := hn k hk
  have := (h2.lt k e).1
  omega
theorem BW.g (h : BW w0 w mp p q gm vb nb rt r sl vv pv L M) (hg : w.grownBy w' none) : BW w0 w' mp p q gm vb nb rt r sl vv pv L M :=
 ⟨h.es.g hg, h.b.g hg, ownsRow_g h.rv hg, ownsRow_g h.rp hg, fun x hx => ⟨ownsRow_g (h.wv x hx).1 hg, (h.wv x hx).2⟩, fun x hx => ⟨⟨ownsRow_g (h.wp x hx).1.1 hg, (h.wp x hx).1.2⟩, ownsRow_g (h.wp x hx).2.1 hg, (h.wp x hx).2.2⟩⟩
theorem BW.num (h : BW w0 w mp p q gm vb nb rt r sl vv pv L M) (hm : Mk w' mp p vb nb) (hc : Chg (fun i => i = mp) w w') (h1 : mp < q) (h2 : q < gm) : BW w0 w' mp p q gm vb nb rt r sl vv pv L M := by
 obtain ⟨na, nc, ns, hb, _⟩ := id h.es.mm
 exact ⟨h.es.num hm hc h1, hc.blk h.b (by omega), row_kept h.rv hc hb (by decide), row_kept h.rp hc hb (by decide), fun x hx => ⟨row_kept (h.wv x hx).1 hc hb (by decide), (h.wv x hx).2⟩,
  fun x hx => ⟨⟨row_kept (h.wp x hx).1.1 hc hb (by decide), (h.wp x hx).1.2⟩, row_kept (h.wp x hx).2.1 hc hb (by decide), (h.wp x hx).2.2⟩⟩
theorem BW.addv (h : BW w0 w mp p q gm vb nb rt r sl vv pv L M) {v' : Value} {x : Vx} (hx : WRow w w0.heap.size x ∧ VtB x.v) (h5 : w'.ownsRow w0.heap.size 64 7 v' (L.length + 1) (L.flatMap vrC ++ vrC x)) (hg : w.grownBy w' vv.ownBlock)
  (h1 : mp < q) (h2 : q < gm) (h3 : w0.heap.size ≤ q) (hn : ∀ k, nb = some k → k < w0.heap.size) : BW w0 (w'.setCell ⟨gm, 3, none⟩ v') mp p q gm vb nb rt r sl v' pv (L ++ [x]) M := by
 have hb' := blk_row h.b h.rv hg (by decide)
 have hs := hb'.set 3 v'
 have hgs := gset w' gm 3 v'
 have hc2 : Chg (fun i => i = gm) w' (w'.setCell ⟨gm, 3, none⟩ v') := Chg.one hgs rfl
 have hwr : ∀ {y : Vx}, WRow w w0.heap.size y → WRow (w'.setCell ⟨gm, 3, none⟩ v') w0.heap.size y := fun hy => row_kept (row_apart hy h.rv hg (by decide)) hc2 hb' (by decide)
 refine ⟨(h.es.row h.rv hg (by decide) (by decide) hn).new hgs h2 h1 h3 hn, hs, ?_, row_kept (row_apart h.rp h.rv hg (by decide)) hc2 hb' (by decide), fun y hy => ?_, fun y hy => ⟨⟨hwr (h.wp y hy).1.1, (h.wp y hy).1.2⟩, hwr (h.wp y hy).2.1, (h.wp y hy).2.2⟩⟩
 ·have h6 := row_kept h5 hc2 hb' (by decide)
  simpa using h6
 ·rcases List.mem_append.1 hy with hy | hy
  ·exact ⟨hwr (h.wv y hy).1, (h.wv y hy).2⟩
  ·rw [List.mem_singleton.1 hy]
   exact ⟨hwr hx.1, hx.2⟩
theorem BW.addp (h : BW w0 w mp p q gm vb nb rt r sl vv pv L M) {v' : Value} {x : Vx × Vx} (hx : (WRow w w0.heap.size x.1 ∧ VtB x.1.v) ∧ WRow w w0.heap.size x.2 ∧ VtB x.2.v) (h5 : w'.ownsRow w0.heap.size 66 14 v' (M.length + 1) ((M.flatMap fun x => vrC x.1 ++ vrC x.2) ++ (vrC x.1 ++ vrC x.2))) (hg : w.grownBy w' pv.ownBlock)
  (h1 : mp < q) (h2 : q < gm) (h3 : w0.heap.size ≤ q) (hn : ∀ k, nb = some k → k < w0.heap.size) : BW w0 (w'.setCell ⟨gm, 4, none⟩ v') mp p q gm vb nb rt r sl vv v' L (M ++ [x]) := by
 have hb' := blk_row h.b h.rp hg (by decide)
 have hs := hb'.set 4 v'
 have hgs := gset w' gm 4 v'
 have hc2 : Chg (fun i => i = gm) w' (w'.setCell ⟨gm, 4, none⟩ v') := Chg.one hgs rfl
 have hwr : ∀ {y : Vx}, WRow w w0.heap.size y → WRow (w'.setCell ⟨gm, 4, none⟩ v') w0.heap.size y := fun hy => row_kept (row_apart hy h.rp hg (by decide)) hc2 hb' (by decide)
 refine ⟨(h.es.row h.rp hg (by decide) (by decide) hn).new hgs h2 h1 h3 hn, hs, row_kept (row_apart h.rv h.rp hg (by decide)) hc2 hb' (by decide), ?_, fun y hy => ⟨hwr (h.wv y hy).1, (h.wv y hy).2⟩, fun y hy => ?_⟩
 ·have h6 := row_kept h5 hc2 hb' (by decide)
  simpa using h6
 ·rcases List.mem_append.1 hy with hy | hy
  ·exact ⟨⟨hwr (h.wp y hy).1.1, (h.wp y hy).1.2⟩, hwr (h.wp y hy).2.1, (h.wp y hy).2.2⟩
  ·rw [List.mem_singleton.1 hy]
   exact ⟨⟨hwr hx.1.1, hx.1.2⟩, hwr hx.2.1, hx.2.2⟩
end
section
variable {w : World} {base g : Nat} {xs : List Value}
theorem vcell_of {n k at_ : Nat} {T : TypeId} {s : Nat} (h : w.ownsRow base T s (.slice (some ⟨g, 0, none⟩) n k) n xs) {x : Vx} (hx : WRow w base x) (hg : ∀ t, t < 7 → xs[at_ + t]? = (vrC x)[t]?) : VCell w (fun i => base ≤ i ∧ i < w.heap.size) g at_ x.v := by
 have hc : ∀ t u, t < 7 → (vrC x)[t]? = some u → w.cell? ⟨g, at_ + t, none⟩ = some u := fun t u ht hu => by
  have h1 := h.cells (g := g) rfl (at_ + t) u (by rw [hg t ht]; exact hu)
  rw [add0] at h1
  exact h1
 obtain ⟨w1, w2⟩ := who_row hx
 exact ⟨x.a, x.c, hc 0 _ (by omega) rfl, hc 1 _ (by omega) rfl, hc 2 _ (by omega) rfl, hc 3 _ (by omega) rfl, hc 4 _ (by omega) rfl, hc 5 _ (by omega) rfl, hc 6 _ (by omega) rfl, w1, w2⟩
theorem vs_of {va : Option Addr} {k : Nat} {L : List Vx} (h : w.ownsRow base 64 7 (.slice va L.length k) L.length (L.flatMap vrC)) (hw : ∀ x ∈ L, WRow w base x) : VsAt w (fun i => base ≤ i ∧ i < w.heap.size) (L.map Vx.v) va := by
 rcases Nat.eq_zero_or_pos L.length with h0 | h0
 ·exact .inl (by rw [List.eq_nil_of_length_eq_zero h0]; rfl)
 ·obtain ⟨a, c, e, h1, _⟩ := own_slice2 h
  cases e
  obtain ⟨g, rfl⟩ := h1 h0
  refine .inr ⟨g, rfl, h.lt g rfl, fun i hi => ?_⟩
  rw [List.length_map] at hi
  have hx : L[i]? = some L[i] := List.getElem?_eq_getElem hi
  have he : (L.map Vx.v).getD i vt0 = L[i].v := by rw [List.getD_eq_getElem?_getD, List.getElem?_map, hx]; rfl
  rw [he]
  exact vcell_of h (hw _ (List.getElem_mem hi)) (fun t ht => flat_get vrC 7 (fun _ => rfl) L i _ hx t ht)
theorem ps_of {va : Option Addr} {k : Nat} {M : List (Vx × Vx)} (h : w.ownsRow base 66 14 (.slice va M.length k) M.length (M.flatMap fun x => vrC x.1 ++ vrC x.2)) (hw : ∀ x ∈ M, WRow w base x.1 ∧ WRow w base x.2) : PsAt w (fun i => base ≤ i ∧ i < w.heap.size) (M.map fun x => (x.1.v, x.2.v)) va := by
 rcases Nat.eq_zero_or_pos M.length with h0 | h0
 ·exact .inl (by rw [List.eq_nil_of_length_eq_zero h0]; rfl)
 ·obtain ⟨a, c, e, h1, _⟩ := own_slice2 h
  cases e
  obtain ⟨g, rfl⟩ := h1 h0
  refine .inr ⟨g, rfl, h.lt g rfl, fun i hi => ?_⟩
  rw [List.length_map] at hi
  have hx : M[i]? = some M[i] := List.getElem?_eq_getElem hi
  have he : (M.map fun x => (x.1.v, x.2.v)).getD i (vt0, vt0) = (M[i].1.v, M[i].2.v) := by rw [List.getD_eq_getElem?_getD, List.getElem?_map, hx]; rfl
  rw [he]
  have hf := flat_get (fun x : Vx × Vx => vrC x.1 ++ vrC x.2) 14 (fun _ => rfl) M i _ hx
  obtain ⟨w1, w2⟩ := hw _ (List.getElem_mem hi)
  refine ⟨vcell_of h w1 (fun t ht => (hf t (by omega)).trans (List.getElem?_append_left (by show t < 7; exact ht))), vcell_of h w2 (fun t ht => ?_)⟩
  rw [show i * 14 + 7 + t = i * 14 + (7 + t) from by omega]
  refine (hf (7 + t) (by omega)).trans ((List.getElem?_append_right (by show 7 ≤ 7 + t; omega)).trans ?_)
  show (vrC M[i].2)[7 + t - 7]? = _
  rw [show 7 + t - 7 = t from by omega]
end
end Go.Proofs.YtndfpmboanohcaaGreatDoor
