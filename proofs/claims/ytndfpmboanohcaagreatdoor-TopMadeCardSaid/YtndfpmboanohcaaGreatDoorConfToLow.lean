/- Contracts of package config's functions. -/
import Derived.Test.YtndfpmboanohcaaGreatDoorSkip3ToSkip4
import Derived.Deep.OwnRows
import Derived.Deep.RegionHeld3
namespace Go.Proofs.YtndfpmboanohcaaGreatDoor
set_option maxRecDepth 100000
open Go.RowKit Go.Maps SkipPure
theorem max2' (k k' : IntKind) (x y : Int) : Builtin.max2 (.int k x) (.int k' y) = pure (.int k (max x y)) := by
 simp only [Builtin.max2, gt_iff_lt]
 congr 2
 by_cases c : x < y
 ·rw [if_pos c]; omega
 ·rw [if_neg c]; omega
theorem min2' (k k' : IntKind) (x y : Int) : Builtin.min2 (.int k x) (.int k' y) = pure (.int k (min x y)) := by
 simp only [Builtin.min2]
 congr 2
 by_cases c : y < x
 ·rw [if_pos c]; omega
 ·rw [if_neg c]; omega
theorem max_two' (ats : Array TypeId) (ty : TypeId) (a b : Value) : Builtin.max_ ats ty #[a, b] = (Builtin.max2 a b >>= fun s => pure s) := by simp only [Builtin.max_, List.foldlM_cons, List.foldlM_nil]
theorem min_two' (ats : Array TypeId) (ty : TypeId) (a b : Value) : Builtin.min_ ats ty #[a, b] = (Builtin.min2 a b >>= fun s => pure s) := by simp only [Builtin.min_, List.foldlM_cons, List.foldlM_nil]
attribute [local go_sem] max2' min2' max_two' min_two'
def Ints (k : IntKind) (w : World) (a : Option Addr) (xs : List Int) : Prop := ∀ i, i < xs.length → ∃ ad, a = some ad ∧ w.cell? (ad.add i) = some (.int k (xs.getD i 0))
theorem Ints.kept {k : IntKind} {w w' : World} {a : Option Addr} {xs : List Int} (h : Ints k w a xs) (hg : w.grownBy w' none) : Ints k w' a xs := fun i hi => by
 obtain ⟨ad, h1, h2⟩ := h i hi
 exact ⟨ad, h1, hg.cell h2 (by simp)⟩
def cfgV (a : Option Addr) (l c : Nat) (S B : Int) : Value := .agg #[.slice a l c, .int .i64 S, .int .i64 B]
structure MayBe (bs : List Int) (S B : Int) : Prop where
 l1 : 1 ≤ bs.length
 l2 : bs.length ≤ 4096
 s1 : 1 ≤ S
 s2 : S ≤ 64
 b1 : 0 ≤ B
 b2 : B ≤ 100
 bal : ∀ i, i < bs.length → 0 ≤ bs.getD i 0 ∧ bs.getD i 0 ≤ 4294967296
def sumF (bs : List Int) : List Int → Int
 | [] => 0
 | k :: r => (if 0 ≤ k ∧ k < bs.length then bs.getD k.toNat 0 else 0) + sumF bs r
theorem sumF_append (bs : List Int) : ∀ xs ys, sumF bs (xs ++ ys) = sumF bs xs + sumF bs ys
 | [], ys => by simp [sumF]
 | x :: xs, ys => by simp only [List.cons_append, sumF, sumF_append bs xs ys]; omega
theorem sumF_bound {bs : List Int} (hb : ∀ i, i < bs.length → 0 ≤ bs.getD i 0 ∧ bs.getD i 0 ≤ 4294967296) : ∀ xs, 0 ≤ sumF bs xs ∧ sumF bs xs ≤ 4294967296 * xs.length
 | [] => by simp [sumF]
 | x :: xs => by
  have h := sumF_bound hb xs
  simp only [sumF, List.length_cons]
  split
  ·rename_i hc
   have := hb x.toNat (by omega)
   omega
  ·omega
theorem sumF_take {bs : List Int} (xs : List Int) (i : Nat) (h : i < xs.length) : sumF bs (xs.take (i + 1)) = sumF bs (xs.take i) + (if 0 ≤ xs.getD i 0 ∧ xs.getD i 0 < bs.length then bs.getD (xs.getD i 0).toNat 0 else 0) := by
 rw [List.take_add_one, sumF_append]
 congr 1
 simp [sumF, List.getElem?_eq_getElem h, List.getD_eq_getElem?_getD]
theorem sum_calls {w : World} {a wa : Option Addr} {l c l2 c2 : Nat} {S B : Int} {bs ks : List Int} (hb : Ints .u64 w a bs) (hl : l = bs.length) (hw : Ints .i64 w wa ks) (hl2 : l2 = ks.length)
  (hbb : ∀ i, i < bs.length → 0 ≤ bs.getD i 0 ∧ bs.getD i 0 ≤ 4294967296) (hk : ks.length ≤ 1000000) (hkk : ∀ i, i < ks.length → (Lit.int .i64 (ks.getD i 0)).wf = true) :
  Calls Tryz.prog 74 #[cfgV a l c S B, .slice wa l2 c2] w fun e w' => e = .returned (.int .u64 (sumF bs ks)) ∧ w.grownBy w' none := by
 subst hl hl2
 unfold cfgV
 have HB := lh hb
 have HW := lh hw
 have HBB := lh hbb
 have HKK := lh hkk
 clear hb hw hbb hkk
 go_enter Tryz.func74, Tryz.ntmps74
 go_wp2
 have c0 : (w.alloc (Obj.cells #[Value.slice a bs.length c, Value.int IntKind.i64 S, Value.int IntKind.i64 B] 36)).cell? ⟨w.heap.size, 0, none⟩ = some (.slice a bs.length c) := by simp
 have hgb := World.grownBy_alloc w (Obj.cells #[Value.slice a bs.length c, Value.int IntKind.i64 S, Value.int IntKind.i64 B] 36) none
 generalize w.alloc (Obj.cells #[Value.slice a bs.length c, Value.int IntKind.i64 S, Value.int IntKind.i64 B] 36) = wb at c0 hgb ⊢
 have HGB := lh hgb
 clear hgb
 go_loop [10, 5] (fun v10 v5 => ∃ j : Nat, v10 = .int .i64 (j : Int) ∧ v5 = .int .u64 (sumF bs (ks.take j)) ∧ j ≤ ks.length) (fun v10 _ => ks.length - (intOf v10).toNat)
 case atStart => exact ⟨0, rfl, by simp [sumF], by omega⟩
 case round =>
  obtain ⟨j, rfl, rfl, hj⟩ := hrel
  by_cases hlt : j < ks.length
  ·obtain ⟨ad, rfl, hc⟩ := (HW.out.kept HGB.out) j hlt
   have hs := sumF_take (bs := bs) ks j hlt
   have hb1 := sumF_bound HBB.out (ks.take j)
   have hlen : (ks.take j).length ≤ 1000000 := by simp; omega
   have hsb1 : 0 ≤ sumF bs (ks.take j) := hb1.1
   have hsb2 : sumF bs (ks.take j) ≤ 4294967296000000 := by omega
   have hwf := HKK.out j hlt
   obtain ⟨s, hse⟩ : ∃ s, s = sumF bs (ks.take j) := ⟨_, rfl⟩
   obtain ⟨k, hke⟩ : ∃ k, k = ks.getD j 0 := ⟨_, rfl⟩
   rw [← hse, ← hke] at hs
   rw [← hse] at hsb1 hsb2 ⊢
   rw [← hke] at hc hwf
   have HS := lh hs
   have HSE := lh hse
   have HKE := lh hke
   clear hs hse hke hb1 hlen
   have hk0 : -9223372036854775808 ≤ k ∧ k ≤ 9223372036854775807 := by simpa [Lit.wf, IntKind.min, IntKind.max, IntKind.signed, IntKind.bits] using hwf
   clear hwf
   by_cases h0 : 0 ≤ k
   ·by_cases h1 : k < bs.length
    ·obtain ⟨bd, rfl, hd⟩ := (HB.out.kept HGB.out) k.toNat (by omega)
     have hbk := HBB.out k.toNat (by omega)
     obtain ⟨b, hbe⟩ : ∃ b, b = bs.getD k.toNat 0 := ⟨_, rfl⟩
     rw [← hbe] at hd hbk
     have HBE := lh hbe
     clear hbe
     obtain ⟨hbk0, hbk1⟩ := hbk
     go_wp2
     go_round
     case rel => exact ⟨j + 1, by simp, by rw [HS.out, if_pos ⟨h0, h1⟩, ← HBE.out], by omega⟩
     case measure => simp [intOf]; omega
    ·go_wp2
     go_round
     case rel => exact ⟨j + 1, by simp, by rw [HS.out, if_neg (fun h => h1 h.2), Int.add_zero], by omega⟩
     case measure => simp [intOf]; omega
   ·go_wp2
    go_round
    case rel => exact ⟨j + 1, by simp, by rw [HS.out, if_neg (fun h => h0 h.1), Int.add_zero], by omega⟩
    case measure => simp [intOf]; omega
  ·have hje : j = ks.length := by omega
   subst hje
   rw [List.take_length]
   go_wp2
   go_ret
   exact ⟨rfl, HGB.out⟩
theorem set_grown {w0 w1 : World} {q i : Nat} (v : Value) (hq : w0.heap.size ≤ q) (hg : w0.grownBy w1 none) : w0.grownBy (w1.setCell ⟨q, i, none⟩ v) none := by
 have h3 : w1.grownBy (w1.setCell ⟨q, i, none⟩ v) (some q) :=
  ⟨rfl, rfl, rfl, by simp, fun j _ hne => by
   have : j ≠ q := fun e => hne (by rw [e])
   rw [heap_setCell_other _ _ _ _ this]⟩
 exact hg.andThen h3 (fun j e => Or.inl (by cases e; exact hq))
theorem info_int : (Tryz.prog.info? 3).map (fun i => (i.zero, i.size, i.bytes)) = some (some (.int .i64 0), 1, 8) := by kernel_rfl
def upTo (j i : Nat) : Value := .int .i64 (if i < j then (i : Int) else 0)
theorem all_calls (n : Nat) (w : World) (hn : n ≤ 1000000) :
  Calls Tryz.prog 82 #[.int .i64 (n : Int)] w fun e w' => e = .returned (.slice (some ⟨w.heap.size, 0, none⟩) n n) ∧ w'.rowIs w.heap.size 3 n (upTo n) ∧ w.grownBy w' none := by
 have hmk := run_make_row' (P := Tryz.prog) 62 3 (.int .i64 0) 8 Tryz.underlying62 info_int rfl .i64 .i64 n (by omega) (by omega)
 go_enter Tryz.func82, Tryz.ntmps82
 go_wp2
 have h0 := World.rowIs_made w (.int .i64 0) n 3
 have hg := World.grownBy_alloc w (Obj.cells (madeCells #[Value.int IntKind.i64 0] n) 3) none
 clear hmk
 generalize w.alloc (Obj.cells (madeCells #[Value.int IntKind.i64 0] n) 3) = wb at h0 hg ⊢
 have H0 := lh h0
 have HG := lh hg
 clear h0 hg
 go_loopw [9] (fun v9 wr => ∃ j : Nat, v9 = .int .i64 (j : Int) ∧ j ≤ n ∧ wr.rowIs w.heap.size 3 n (upTo j) ∧ w.grownBy wr none) (fun v9 _ => n - (intOf v9).toNat)
 case atStart => exact ⟨0, rfl, by omega, H0.out.congr (fun i _ => by simp [upTo]), HG.out⟩
 case round =>
  obtain ⟨j, rfl, hj, hr, hg⟩ := hrel
  by_cases hlt : j < n
  ·have hc := hr.cell hlt
   have hf := hr.frozen j
   have HR := lh hr
   have HG2 := lh hg
   clear hr hg
   have hs : upTo j j = .int .i64 0 := by simp [upTo]
   rw [hs] at hc
   clear hs
   go_wp2
   exact ⟨⟨j + 1, by simp, by omega, (HR.out.set j _).congr (fun i hi => by
    unfold upTo
    by_cases e : i = j
    ·subst e; simp
    ·rw [if_neg e]
     have : (i < j) = (i < j + 1) := by apply propext; omega
     simp only [this]), set_grown _ (Nat.le_refl _) HG2.out⟩, by simp [intOf]; omega⟩
  ·have hje : j = n := by omega
   subst hje
   have HR := lh hr
   have HG2 := lh hg
   clear hr hg
   go_wp2
   go_ret
   exact ⟨rfl, HR.out, HG2.out⟩
def iota (n : Nat) : List Int := (List.range n).map fun i : Nat => (i : Int)
theorem iota_length (n : Nat) : (iota n).length = n := by simp [iota]
theorem iota_getD (n i : Nat) (h : i < n) : (iota n).getD i 0 = (i : Int) := by simp [iota, List.getD_eq_getElem?_getD, h]
theorem ints_iota {w : World} {b n : Nat} (h : w.rowIs b 3 n (upTo n)) : Ints .i64 w (some ⟨b, 0, none⟩) (iota n) := fun i hi => by
 rw [iota_length] at hi
 refine ⟨_, rfl, ?_⟩
 rw [iota_getD n i hi]
 have := h.cell hi
 unfold upTo at this
 rw [if_pos hi] at this
 rw [← this]
 by_cases e : i = 0
 ·subst e; rfl
 ·simp [Addr.add, e]
def totF (bs : List Int) : Int := sumF bs (iota bs.length)
theorem totF_bound {bs : List Int} (hb : ∀ i, i < bs.length → 0 ≤ bs.getD i 0 ∧ bs.getD i 0 ≤ 4294967296) : 0 ≤ totF bs ∧ totF bs ≤ 4294967296 * bs.length := by
 have := sumF_bound hb (iota bs.length)
 rwa [iota_length] at this
def CfgBox (w : World) (q : Nat) (a : Option Addr) (l c : Nat) (S B : Int) : Prop := w.heap[q]? = some (.cells #[.slice a l c, .int .i64 S, .int .i64 B] 36 (0, 0))
theorem CfgBox.kept {w w' : World} {q : Nat} {a : Option Addr} {l c : Nat} {S B : Int} (h : CfgBox w q a l c S B) (hg : w.grownBy w' none) : CfgBox w' q a l c S B := by
 unfold CfgBox at *
 rw [hg.block q (Array.getElem?_eq_some_iff.1 h).1 (by simp)]
 exact h
theorem CfgBox.c0 {w : World} {q : Nat} {a : Option Addr} {l c : Nat} {S B : Int} (h : CfgBox w q a l c S B) : w.cell? ⟨q, 0, none⟩ = some (.slice a l c) := cel h 0
theorem CfgBox.c1 {w : World} {q : Nat} {a : Option Addr} {l c : Nat} {S B : Int} (h : CfgBox w q a l c S B) : w.cell? ⟨q, 1, none⟩ = some (.int .i64 S) := cel h 1
theorem CfgBox.c2 {w : World} {q : Nat} {a : Option Addr} {l c : Nat} {S B : Int} (h : CfgBox w q a l c S B) : w.cell? ⟨q, 2, none⟩ = some (.int .i64 B) := cel h 2
theorem g2 {w0 w w' : World} (h : w0.grownBy w none) (hg : w.grownBy w' none) : w0.grownBy w' none := h.andThen hg (fun j e => by cases e)
theorem CfgBox.alloc (w : World) (a : Option Addr) (l c : Nat) (S B : Int) : CfgBox (w.alloc (.cells #[.slice a l c, .int .i64 S, .int .i64 B] 36)) w.heap.size a l c S B := by
 unfold CfgBox
 simpa using (MapKept.heap_alloc w (.cells #[.slice a l c, .int .i64 S, .int .i64 B] 36)).1
theorem total_calls {w : World} {a : Option Addr} {l c : Nat} {S B : Int} {bs : List Int} (hb : Ints .u64 w a bs) (hl : l = bs.length)
  (hbb : ∀ i, i < bs.length → 0 ≤ bs.getD i 0 ∧ bs.getD i 0 ≤ 4294967296) (hbl : bs.length ≤ 1000000) :
  Calls Tryz.prog 72 #[cfgV a l c S B] w fun e w' => e = .returned (.int .u64 (totF bs)) ∧ w.grownBy w' none := by
 subst hl
 unfold cfgV
 have HB := lh hb
 have HBB := lh hbb
 clear hb hbb
 go_enter Tryz.func72, Tryz.ntmps72
 go_wp2
 have hx := CfgBox.alloc w a bs.length c S B
 have hgb := World.grownBy_alloc w (Obj.cells #[Value.slice a bs.length c, Value.int IntKind.i64 S, Value.int IntKind.i64 B] 36) none
 obtain ⟨q, hq⟩ : ∃ q, q = w.heap.size := ⟨_, rfl⟩
 rw [← hq] at hx ⊢
 clear hq
 generalize w.alloc (Obj.cells #[Value.slice a bs.length c, Value.int IntKind.i64 S, Value.int IntKind.i64 B] 36) = wb at hx hgb ⊢
 have c0 := hx.c0
 have c1 := hx.c1
 have c2 := hx.c2
 have hgd : wb.grownBy wb.drew none := gdrew (gR wb none)
 have HXD := lh (hx.kept hgd)
 have HGD := lh (g2 hgb hgd)
 clear hx hgb hgd
 go_region_held3 (fun w' => w'.cell? ⟨q, 0, none⟩ = some (.slice a bs.length c) ∧ w'.cell? ⟨q, 1, none⟩ = some (.int .i64 S) ∧ w'.cell? ⟨q, 2, none⟩ = some (.int .i64 B))
  (go_keep)
  (first
    | (go_at_call 82; refine (all_calls _ _ hbl).mono ?_; rintro e wg ⟨rfl, hr, hgg⟩; have HXE := lh (HXD.out.kept hgg); have d0 := HXE.out.c0; have d1 := HXE.out.c1; have d2 := HXE.out.c2; have HGE := lh (g2 HGD.out hgg); have HI := lh (ints_iota hr); clear hr hgg)
    | (go_at_call 74; refine (sum_calls (HB.out.kept HGE.out) rfl HI.out (iota_length _).symm HBB.out (by rw [iota_length]; omega) (fun i hi => by rw [iota_length] at hi; rw [iota_getD _ _ hi]; simp [Lit.wf, IntKind.min, IntKind.max, IntKind.signed, IntKind.bits]; omega)).mono ?_; rintro e wh ⟨rfl, hgg⟩; have HXF := lh (HXE.out.kept hgg); have e0 := HXF.out.c0; have e1 := HXF.out.c1; have e2 := HXF.out.c2; have HGF := lh (g2 HGE.out hgg); clear hgg))
 go_wp2
 go_ret
 exact ⟨rfl, HGF.out⟩
def boostF (bs : List Int) (S B : Int) : Int := totF bs / S * B / 100
theorem boost_calls {w : World} {a : Option Addr} {l c : Nat} {S B : Int} {bs : List Int} (hb : Ints .u64 w a bs) (hl : l = bs.length) (hm : MayBe bs S B) :
  Calls Tryz.prog 155 #[cfgV a l c S B] w fun e w' => e = .returned (.int .u64 (boostF bs S B)) ∧ w.grownBy w' none := by
 subst hl
 unfold cfgV
 have HB := lh hb
 have HBB := lh hm.bal
 have hbl := hm.l2
 have hS1 := hm.s1
 have hS2 := hm.s2
 have hB1 := hm.b1
 have hB2 := hm.b2
 have hT := totF_bound hm.bal
 have hT1 := hT.1
 have hT2 : totF bs ≤ 17592186044416 := by omega
 clear hb hm hT
 have hq0 : 0 ≤ totF bs / S := Int.ediv_nonneg hT1 (by omega)
 have hq1 : totF bs / S ≤ totF bs := Int.ediv_le_self _ hT1
 go_enter Tryz.func155, Tryz.ntmps155
 go_wp2
 have hx := CfgBox.alloc w a bs.length c S B
 have hgb := World.grownBy_alloc w (Obj.cells #[Value.slice a bs.length c, Value.int IntKind.i64 S, Value.int IntKind.i64 B] 36) none
 obtain ⟨q, hq⟩ : ∃ q, q = w.heap.size := ⟨_, rfl⟩
 rw [← hq] at hx ⊢
 clear hq
 generalize w.alloc (Obj.cells #[Value.slice a bs.length c, Value.int IntKind.i64 S, Value.int IntKind.i64 B] 36) = wb at hx hgb ⊢
 have c0 := hx.c0
 have c1 := hx.c1
 have c2 := hx.c2
 have hgd : wb.grownBy wb.drew none := gdrew (gR wb none)
 have HXD := lh (hx.kept hgd)
 have HGD := lh (g2 hgb hgd)
 clear hx hgb hgd
 have hmx1 : max 1 S = S := by omega
 have hmx2 : max 0 B = B := by omega
 have hsn : (S = 0) = False := eq_false (by omega)
 have hwS : IntKind.u64.wrap S = S := by simp [IntKind.wrap, IntKind.signed, IntKind.bits]; omega
 have hwB : IntKind.u64.wrap B = B := by simp [IntKind.wrap, IntKind.signed, IntKind.bits]; omega
 have htd : IntKind.u64.wrap ((totF bs).tdiv S) = totF bs / S := by rw [Int.tdiv_eq_ediv_of_nonneg hT1]; simp [IntKind.wrap, IntKind.signed, IntKind.bits]; omega
 have hp1 : 0 ≤ totF bs / S * B := Int.mul_nonneg hq0 hB1
 have hp2 : totF bs / S * B ≤ 17592186044416 * 100 := Int.mul_le_mul (by omega) hB2 hB1 (by omega)
 have hth : IntKind.u64.wrap ((totF bs / S * B).tdiv 100) = totF bs / S * B / 100 := by rw [Int.tdiv_eq_ediv_of_nonneg hp1]; simp [IntKind.wrap, IntKind.signed, IntKind.bits]; omega
 have htm : IntKind.u64.wrap (totF bs / S * B) = totF bs / S * B := by simp [IntKind.wrap, IntKind.signed, IntKind.bits]; omega
 go_region_held3 (fun w' => w'.cell? ⟨q, 0, none⟩ = some (.slice a bs.length c) ∧ w'.cell? ⟨q, 1, none⟩ = some (.int .i64 S) ∧ w'.cell? ⟨q, 2, none⟩ = some (.int .i64 B))
  (go_keep)
  (first
    | (go_at_call 72; refine (total_calls (S := S) (B := B) (c := c) (HB.out.kept HGD.out) rfl HBB.out (by omega)).mono ?_; rintro e wg ⟨rfl, hgg⟩; have HXE := lh (HXD.out.kept hgg); have d0 := HXE.out.c0; have d1 := HXE.out.c1; have d2 := HXE.out.c2; have HGE := lh (g2 HGD.out hgg); clear hgg))
 all_goals first | (go_ret; exact ⟨rfl, HGE.out⟩) | (go_wp2; go_ret; exact ⟨rfl, HGE.out⟩)
theorem may_calls {w : World} {a : Option Addr} {l c : Nat} {S B : Int} {bs : List Int} (hb : Ints .u64 w a bs) (hl : l = bs.length) (hm : MayBe bs S B) :
  Calls Tryz.prog 27 #[cfgV a l c S B] w fun e w' => e = .returned (.bool true) ∧ w.grownBy w' none := by
 subst hl
 unfold cfgV
 have HB := lh hb
 have HBB := lh hm.bal
 have hbl := hm.l2
 have hbl1 := hm.l1
 have hS1 := hm.s1
 have hS2 := hm.s2
 have hB1 := hm.b1
 have hB2 := hm.b2
 clear hb hm
 have t1 : decide ((bs.length : Int) < 1) = false := decide_eq_false (by omega)
 have t2 : decide (4096 < (bs.length : Int)) = false := decide_eq_false (by omega)
 have t3 : decide (S < 1) = false := decide_eq_false (by omega)
 have t4 : decide (64 < S) = false := decide_eq_false (by omega)
 have t5 : decide (B < 0) = false := decide_eq_false (by omega)
 have t6 : decide (100 < B) = false := decide_eq_false (by omega)
 go_enter Tryz.func27, Tryz.ntmps27
 go_wp2
 have hgb := World.grownBy_alloc w (Obj.cells #[Value.slice a bs.length c, Value.int IntKind.i64 S, Value.int IntKind.i64 B] 36) none
 obtain ⟨q, hq⟩ : ∃ q, q = w.heap.size := ⟨_, rfl⟩
 rw [← hq]
 clear hq
 generalize w.alloc (Obj.cells #[Value.slice a bs.length c, Value.int IntKind.i64 S, Value.int IntKind.i64 B] 36) = wb at hgb ⊢
 have HGB := lh hgb
 clear hgb
 go_loop [38] (fun v38 => ∃ j : Nat, v38 = .int .i64 (j : Int) ∧ j ≤ bs.length) (fun v38 => bs.length - (intOf v38).toNat)
 case atStart => exact ⟨0, rfl, by omega⟩
 case round =>
  obtain ⟨j, rfl, hj⟩ := hrel
  by_cases hlt : j < bs.length
  ·obtain ⟨ad, rfl, hc⟩ := (HB.out.kept HGB.out) j hlt
   have hb2 := (HBB.out j hlt).2
   obtain ⟨x, hx⟩ : ∃ x, x = bs.getD j 0 := ⟨_, rfl⟩
   rw [← hx] at hc hb2
   clear hx
   go_wp2
   go_round
   case rel => exact ⟨j + 1, by simp, by omega⟩
   case measure => simp [intOf]; omega
  ·go_wp2
   go_ret
   exact ⟨rfl, HGB.out⟩
attribute [local go_sem] max2' min2' max_two' min_two'
def eOf (s S : Int) : Int := max 0 s / max 1 S
theorem eOf_nonneg (s S : Int) : 0 ≤ eOf s S := Int.ediv_nonneg (by omega) (by omega)
theorem eOf_le (s S : Int) : eOf s S ≤ max 0 s := Int.ediv_le_self _ (by omega)
theorem eof_calls (s S : Int) (w : World) (hs : s ≤ 9223372036854775807) (hS : S ≤ 1000000) :
  Calls Tryz.prog 47 #[.int .i64 s, .int .i64 S] w fun e w' => e = .returned (.int .i64 (eOf s S)) ∧ w = w' := by
 have h1 := eOf_nonneg s S
 have h2 := eOf_le s S
 have hz : (max 1 S = 0) = False := eq_false (by omega)
 have ht : IntKind.i64.wrap ((max 0 s).tdiv (max 1 S)) = eOf s S := by
  rw [Int.tdiv_eq_ediv_of_nonneg (by omega)]
  unfold eOf at *
  generalize max 0 s / max 1 S = x at *
  simp [IntKind.wrap, IntKind.signed, IntKind.bits]; omega
 go_enter Tryz.func47, Tryz.ntmps47
 go_wp2
 go_ret
 exact ⟨rfl, rfl⟩
def eStart (e S : Int) : Int := max 0 e * max 1 S
theorem estart_calls (e S : Int) (w : World) (h : eStart e S ≤ 9223372036854775807) :
  Calls Tryz.prog 49 #[.int .i64 e, .int .i64 S] w fun z w' => z = .returned (.int .i64 (eStart e S)) ∧ w = w' := by
 have h1 : 0 ≤ eStart e S := Int.mul_nonneg (by omega) (by omega)
 have ht : IntKind.i64.wrap (max 0 e * max 1 S) = eStart e S := by
  change IntKind.i64.wrap (eStart e S) = eStart e S
  simp [IntKind.wrap, IntKind.signed, IntKind.bits]; omega
 go_enter Tryz.func49, Tryz.ntmps49
 go_wp2
 go_ret
 exact ⟨rfl, rfl⟩
theorem flag_calls (b : Bool) (w : World) : Calls Tryz.prog 42 #[.bool b] w fun z w' => z = .returned (.int .u64 (if b then 1 else 0)) ∧ w = w' := by
 cases b
 ·go_enter Tryz.func42, Tryz.ntmps42
  go_wp2
  go_ret
  exact ⟨rfl, rfl⟩
 ·go_enter Tryz.func42, Tryz.ntmps42
  go_wp2
  go_ret
  exact ⟨rfl, rfl⟩
theorem as_nil (t : Value) (w : World) : Calls Tryz.prog 26 #[.nilIface, t] w fun e w' => e = .returned (.bool false) ∧ w = w' := by
 go_enter Tryz.func26, Tryz.ntmps26
 go_wp2
 go_ret
 exact ⟨rfl, rfl⟩
theorem number_nil (w : World) : Calls Tryz.prog 16 #[.nilIface] w fun e w' => e = .returned (.int .i64 0) ∧ w.grownBy w' none := by
 go_enter Tryz.func16, Tryz.ntmps16
 go_wp2_with fail
 refine (as_nil _ _).mono ?_
 rintro e w' ⟨rfl, rfl⟩
 go_wp2
 go_ret
 exact ⟨rfl, World.grownBy_alloc _ _ none⟩
theorem info_u8 : (Tryz.prog.info? 5).map (fun i => (i.zero, i.size, i.bytes)) = some (some (.int .u8 0), 1, 1) := by kernel_rfl
def byteF (x : Int) (i : Nat) : Value := .int .u8 (x / 2 ^ (56 - 8 * i) % 256)
def bytesF (x : Int) : List Value := (List.range 8).map (byteF x)
def putF : List Int → List Value
 | [] => []
 | x :: r => bytesF x ++ putF r
theorem bytesF_length (x : Int) : (bytesF x).length = 8 := by simp [bytesF]
theorem putF_append (xs ys : List Int) : putF (xs ++ ys) = putF xs ++ putF ys := by
 induction xs with
 | nil => rfl
 | cons x r ih => simp [putF, ih]
theorem putF_take (xs : List Int) (i : Nat) (h : i < xs.length) : putF (xs.take (i + 1)) = putF (xs.take i) ++ bytesF (xs.getD i 0) := by
 rw [List.take_add_one, putF_append]
 congr 1
 simp [putF, List.getElem?_eq_getElem h, List.getD_eq_getElem?_getD]
theorem bytesF_take (x : Int) (i : Nat) (h : i < 8) : (bytesF x).take (i + 1) = (bytesF x).take i ++ [byteF x i] := by
 rw [List.take_add_one]
 congr 1
 simp [bytesF, h]
theorem _root_.Go.World.ownsRow.two {w : World} {base : Nat} {e : TypeId} {size : Nat} {v : Value} {n : Nat} {xs : List Value} (h : w.ownsRow base e size v n xs) : v = .slice none 0 0 ∨ ∃ g cap, v = .slice (some ⟨g, 0, none⟩) n cap := by
 rcases h.2 with h | ⟨g, cap, _, h, _⟩
 ·exact .inl h.1
 ·exact .inr ⟨g, cap, h⟩
set_option maxHeartbeats 1000000 in
theorem put_calls {w : World} {B n : Nat} {v : Value} {xs : List Value} (hv : w.ownsRow B 5 1 v n xs) {na : Option Addr} {nl nc : Nat} {ns : List Int} (hn : Ints .u64 w na ns) (hl : nl = ns.length)
  (hns : ∀ i, i < ns.length → inU (ns.getD i 0)) (hsz : n + 8 * ns.length ≤ 1099511627776) (hv0 : v = .slice none 0 0 ∨ 0 < n) (hx1 : ∀ u ∈ xs, u.oneCell' = true) :
  Calls Tryz.prog 39 #[v, .slice na nl nc] w fun e w' => ∃ v', e = .returned v' ∧ w'.ownsRow w.heap.size 5 1 v' (n + 8 * ns.length) (xs ++ putF ns) ∧ w.grownBy w' none := by
 subst hl
 have HV := lh hv
 have HN := lh hn
 have HNS := lh hns
 clear hv hn hns
 obtain ⟨i0, hi, hz0, hz1, hz2⟩ := info_parts info_u8
 have HI0 := lh hi
 have HZ0 := lh hz0
 have HZ1 := lh hz1
 have HZ2 := lh hz2
 clear hi hz0 hz1 hz2
 go_enter Tryz.func39, Tryz.ntmps39
 rcases hv0 with hv0 | hv0
 ·have hn0 : n = 0 := by
   rcases HV.out.2 with h | ⟨_, _, _, h, _⟩
   ·exact h.2
   ·rw [hv0] at h; cases h
  subst hv0
  have hxs : xs = [] := List.eq_nil_of_length_eq_zero (by have := HV.out.1; omega)
  have h5 : w.ownsRow w.heap.size 5 1 (.slice none 0 0) n xs := by rw [hn0, hxs]; exact World.ownsRow_nil _ _ _ _
  clear hn0 hxs
  go_wp2_with (at_builtin; refine wpList_append_own_none rfl _ _ 23 rfl w.heap.size 5 i0 1 Tryz.underlying23 HI0.out (.slice none 0 0) 0 [] rfl (World.ownsRow_nil _ _ _ _) rfl ?_)
  have hg5 := gR w none
  have H5 := lh h5
  have HG5 := lh hg5
  clear h5 hg5
  go_loopw [13, 5] (fun v13 v5 wr => ∃ j : Nat, v13 = .int .i64 (j : Int) ∧ j ≤ ns.length ∧ wr.ownsRow w.heap.size 5 1 v5 (n + 8 * j) (xs ++ putF (ns.take j)) ∧ w.grownBy wr none) (fun v13 _ _ => ns.length - (intOf v13).toNat)
  case atStart => exact ⟨0, rfl, by omega, by simpa [putF] using H5.out, HG5.out⟩
  case round =>
   obtain ⟨j, rfl, hj, ho, hg⟩ := hrel
   have HO := lh ho
   have HG := lh hg
   clear ho hg
   by_cases hlt : j < ns.length
   ·obtain ⟨ad, rfl, hc⟩ := (HN.out.kept HG.out) j hlt
    have hx := HNS.out j hlt
    have ht := putF_take ns j hlt
    obtain ⟨x, hxe⟩ : ∃ x, x = ns.getD j 0 := ⟨_, rfl⟩
    rw [← hxe] at hc hx ht
    have HX := lh hx
    have HT := lh ht
    clear hx hxe ht
    go_wp2
    obtain ⟨wo, rfl⟩ : ∃ wo : World, wo = wr := ⟨_, rfl⟩
    go_loopw [8, 5] (fun v8 v5 wr => ∃ (i : Nat) (s : Int), v8 = .int .i64 s ∧ s = 56 - 8 * i ∧ i ≤ 8 ∧ wr.ownsRow w.heap.size 5 1 v5 (n + 8 * j + i) (xs ++ putF (ns.take j) ++ (bytesF x).take i) ∧ w.grownBy wr none) (fun v8 _ _ => (intOf v8 + 8).toNat)
    case atStart => exact ⟨0, 56, rfl, rfl, by omega, by simpa using HO.out, HG.out⟩
    case round =>
     obtain ⟨i, s, rfl, hs, hi, ho2, hg2⟩ := hrel
     have HO2 := lh ho2
     have HG2 := lh hg2
     clear ho2 hg2
     by_cases h8 : i < 8
     ·obtain ⟨m, rfl⟩ : ∃ m : Nat, s = (m : Int) := ⟨s.toNat, by omega⟩
      have hsi : m = 56 - 8 * i := by omega
      clear hs
      have HSI := lh hsi
      have hm56 : m ≤ 56 := by omega
      clear hsi
      rcases HO2.out.two with hv5 | ⟨g5', cap5', hv5⟩
      ·subst hv5
       go_wp2_with (at_builtin; refine wpList_append_lies _ rfl _ _ 23 rfl w.heap.size 5 i0 (.int .u8 0) 1 1 Tryz.underlying23 HI0.out HZ0.out HZ1.out HZ2.out rfl (by decide) _ (n + 8 * j + i) (xs ++ putF (ns.take j) ++ (bytesF x).take i) rfl (HO2.out.alloc _) ⟨wr.heap.size, 0, none⟩ 1 1 [.int .u8 (x / 2 ^ m % 256)] rfl rfl (World.news_of_block (MapKept.heap_alloc _ _).1) (by simp [Value.oneCell']) (by decide) (by unfold maxLen; omega) (by omega) (by have := HG2.out.size; simp; omega) _ rfl ?_; intro g6 c6 w6 h6 hg6 hat6 hlt6; have H6 := lh h6; have HG6 := lh hg6; clear h6 hg6 hat6)
       refine ⟨⟨i + 1, (m : Int) - 8, rfl, by have := HSI.out; omega, by omega, ?_, (g2 HG2.out (World.grownBy_alloc wr _ none)).andThen HG6.out (fun k e => Or.inl (HO2.out.lt k e).1)⟩, by simp [intOf]; omega⟩
       have h6 := H6.out
       rw [bytesF_take x i h8, ← List.append_assoc]
       have hb : byteF x i = .int .u8 (x / 2 ^ m % 256) := by unfold byteF; rw [HSI.out]
       rw [hb]
       exact h6
      ·subst hv5
       go_wp2_with (at_builtin; refine wpList_append_lies _ rfl _ _ 23 rfl w.heap.size 5 i0 (.int .u8 0) 1 1 Tryz.underlying23 HI0.out HZ0.out HZ1.out HZ2.out rfl (by decide) _ (n + 8 * j + i) (xs ++ putF (ns.take j) ++ (bytesF x).take i) rfl (HO2.out.alloc _) ⟨wr.heap.size, 0, none⟩ 1 1 [.int .u8 (x / 2 ^ m % 256)] rfl rfl (World.news_of_block (MapKept.heap_alloc _ _).1) (by simp [Value.oneCell']) (by decide) (by unfold maxLen; omega) (by omega) (by have := HG2.out.size; simp; omega) _ rfl ?_; intro g6 c6 w6 h6 hg6 hat6 hlt6; have H6 := lh h6; have HG6 := lh hg6; clear h6 hg6 hat6)
       refine ⟨⟨i + 1, (m : Int) - 8, rfl, by have := HSI.out; omega, by omega, ?_, (g2 HG2.out (World.grownBy_alloc wr _ none)).andThen HG6.out (fun k e => Or.inl (HO2.out.lt k e).1)⟩, by simp [intOf]; omega⟩
       have h6 := H6.out
       rw [bytesF_take x i h8, ← List.append_assoc]
       have hb : byteF x i = .int .u8 (x / 2 ^ m % 256) := by unfold byteF; rw [HSI.out]
       rw [hb]
       exact h6
     ·have hi8 : i = 8 := by omega
      subst hi8
      have hs8 : s = -8 := by omega
      subst hs8
      clear hs
      have h7 := HO2.out
      rw [show (bytesF x).take 8 = bytesF x from List.take_of_length_le (by rw [bytesF_length]; omega), List.append_assoc, ← HT.out] at h7
      have H7 := lh h7
      clear h7
      go_wp2
      exact ⟨⟨j + 1, by simp, by omega, by have := H7.out; rwa [show n + 8 * (j + 1) = n + 8 * j + 8 by omega], HG2.out⟩, by simp [intOf]; omega⟩
   ·have hje : j = ns.length := by omega
    subst hje
    rw [List.take_length] at HO
    go_wp2
    go_ret
    exact ⟨_, rfl, HO.out, HG.out⟩
 ·obtain ⟨g, cap, rfl, hgg⟩ := HV.out.form hv0
  go_wp2_with (at_builtin; refine wpList_append_lies _ rfl _ _ 23 rfl w.heap.size 5 i0 (.int .u8 0) 1 1 Tryz.underlying23 HI0.out HZ0.out HZ1.out HZ2.out rfl (by decide) (.slice none 0 0) 0 [] rfl (World.ownsRow_nil _ _ _ _) ⟨g, 0, none⟩ n cap xs rfl (by have := HV.out.1; omega) (HV.out.cells rfl) hx1 hv0 (by unfold maxLen; omega) (by omega) (Nat.le_refl _) _ rfl ?_; intro g5 c5 w5 h5 hg5 hat5 hlt5; rw [Nat.zero_add, List.nil_append] at h5)
  have H5 := lh h5
  have HG5 := lh hg5
  clear h5 hg5
  go_loopw [13, 5] (fun v13 v5 wr => ∃ j : Nat, v13 = .int .i64 (j : Int) ∧ j ≤ ns.length ∧ wr.ownsRow w.heap.size 5 1 v5 (n + 8 * j) (xs ++ putF (ns.take j)) ∧ w.grownBy wr none) (fun v13 _ _ => ns.length - (intOf v13).toNat)
  case atStart => exact ⟨0, rfl, by omega, by simpa [putF] using H5.out, HG5.out⟩
  case round =>
   obtain ⟨j, rfl, hj, ho, hg⟩ := hrel
   have HO := lh ho
   have HG := lh hg
   clear ho hg
   by_cases hlt : j < ns.length
   ·obtain ⟨ad, rfl, hc⟩ := (HN.out.kept HG.out) j hlt
    have hx := HNS.out j hlt
    have ht := putF_take ns j hlt
    obtain ⟨x, hxe⟩ : ∃ x, x = ns.getD j 0 := ⟨_, rfl⟩
    rw [← hxe] at hc hx ht
    have HX := lh hx
    have HT := lh ht
    clear hx hxe ht
    go_wp2
    obtain ⟨wo, rfl⟩ : ∃ wo : World, wo = wr := ⟨_, rfl⟩
    go_loopw [8, 5] (fun v8 v5 wr => ∃ (i : Nat) (s : Int), v8 = .int .i64 s ∧ s = 56 - 8 * i ∧ i ≤ 8 ∧ wr.ownsRow w.heap.size 5 1 v5 (n + 8 * j + i) (xs ++ putF (ns.take j) ++ (bytesF x).take i) ∧ w.grownBy wr none) (fun v8 _ _ => (intOf v8 + 8).toNat)
    case atStart => exact ⟨0, 56, rfl, rfl, by omega, by simpa using HO.out, HG.out⟩
    case round =>
     obtain ⟨i, s, rfl, hs, hi, ho2, hg2⟩ := hrel
     have HO2 := lh ho2
     have HG2 := lh hg2
     clear ho2 hg2
     by_cases h8 : i < 8
     ·obtain ⟨m, rfl⟩ : ∃ m : Nat, s = (m : Int) := ⟨s.toNat, by omega⟩
      have hsi : m = 56 - 8 * i := by omega
      clear hs
      have HSI := lh hsi
      have hm56 : m ≤ 56 := by omega
      clear hsi
      rcases HO2.out.two with hv5 | ⟨g5', cap5', hv5⟩
      ·subst hv5
       go_wp2_with (at_builtin; refine wpList_append_lies _ rfl _ _ 23 rfl w.heap.size 5 i0 (.int .u8 0) 1 1 Tryz.underlying23 HI0.out HZ0.out HZ1.out HZ2.out rfl (by decide) _ (n + 8 * j + i) (xs ++ putF (ns.take j) ++ (bytesF x).take i) rfl (HO2.out.alloc _) ⟨wr.heap.size, 0, none⟩ 1 1 [.int .u8 (x / 2 ^ m % 256)] rfl rfl (World.news_of_block (MapKept.heap_alloc _ _).1) (by simp [Value.oneCell']) (by decide) (by unfold maxLen; omega) (by omega) (by have := HG2.out.size; simp; omega) _ rfl ?_; intro g6 c6 w6 h6 hg6 hat6 hlt6; have H6 := lh h6; have HG6 := lh hg6; clear h6 hg6 hat6)
       refine ⟨⟨i + 1, (m : Int) - 8, rfl, by have := HSI.out; omega, by omega, ?_, (g2 HG2.out (World.grownBy_alloc wr _ none)).andThen HG6.out (fun k e => Or.inl (HO2.out.lt k e).1)⟩, by simp [intOf]; omega⟩
       have h6 := H6.out
       rw [bytesF_take x i h8, ← List.append_assoc]
       have hb : byteF x i = .int .u8 (x / 2 ^ m % 256) := by unfold byteF; rw [HSI.out]
       rw [hb]
       exact h6
      ·subst hv5
       go_wp2_with (at_builtin; refine wpList_append_lies _ rfl _ _ 23 rfl w.heap.size 5 i0 (.int .u8 0) 1 1 Tryz.underlying23 HI0.out HZ0.out HZ1.out HZ2.out rfl (by decide) _ (n + 8 * j + i) (xs ++ putF (ns.take j) ++ (bytesF x).take i) rfl (HO2.out.alloc _) ⟨wr.heap.size, 0, none⟩ 1 1 [.int .u8 (x / 2 ^ m % 256)] rfl rfl (World.news_of_block (MapKept.heap_alloc _ _).1) (by simp [Value.oneCell']) (by decide) (by unfold maxLen; omega) (by omega) (by have := HG2.out.size; simp; omega) _ rfl ?_; intro g6 c6 w6 h6 hg6 hat6 hlt6; have H6 := lh h6; have HG6 := lh hg6; clear h6 hg6 hat6)
       refine ⟨⟨i + 1, (m : Int) - 8, rfl, by have := HSI.out; omega, by omega, ?_, (g2 HG2.out (World.grownBy_alloc wr _ none)).andThen HG6.out (fun k e => Or.inl (HO2.out.lt k e).1)⟩, by simp [intOf]; omega⟩
       have h6 := H6.out
       rw [bytesF_take x i h8, ← List.append_assoc]
       have hb : byteF x i = .int .u8 (x / 2 ^ m % 256) := by unfold byteF; rw [HSI.out]
       rw [hb]
       exact h6
     ·have hi8 : i = 8 := by omega
      subst hi8
      have hs8 : s = -8 := by omega
      subst hs8
      clear hs
      have h7 := HO2.out
      rw [show (bytesF x).take 8 = bytesF x from List.take_of_length_le (by rw [bytesF_length]; omega), List.append_assoc, ← HT.out] at h7
      have H7 := lh h7
      clear h7
      go_wp2
      exact ⟨⟨j + 1, by simp, by omega, by have := H7.out; rwa [show n + 8 * (j + 1) = n + 8 * j + 8 by omega], HG2.out⟩, by simp [intOf]; omega⟩
   ·have hje : j = ns.length := by omega
    subst hje
    rw [List.take_length] at HO
    go_wp2
    go_ret
    exact ⟨_, rfl, HO.out, HG.out⟩
end Go.Proofs.YtndfpmboanohcaaGreatDoor
