/- Contracts of (*store.Store).Apply at a tick, and at a block that is taken. -/
import Derived.Test.YtndfpmboanohcaaGreatDoorSto5
import Derived.Test.YtndfpmboanohcaaGreatDoorHd
namespace Go.Proofs.YtndfpmboanohcaaGreatDoor
set_option maxRecDepth 100000
open Go.RowKit Go.Maps SkipPure

/-- An event's cells: all but a vote's and a proof's fields. -/
def evCells (k s r q bs : Int) (vs ps : Value) : Array Value :=
  #[.int .i64 k, .int .i64 s, .int .u64 r, .int .u64 q, .int .i64 bs, vs, ps,
    .int .i64 0, .int .u64 0, .int .i64 0, .int .u64 0, .int .i64 0, .int .u64 0, .slice none 0 0,
    .int .i64 0, .int .u64 0, .int .i64 0, .int .u64 0, .int .i64 0, .int .u64 0, .slice none 0 0,
    .int .i64 0, .int .u64 0, .int .i64 0, .int .u64 0, .int .i64 0, .int .u64 0, .slice none 0 0]
def evV (k s r q bs : Int) (vs ps : Value) : Value := .agg (evCells k s r q bs vs ps)
def evTick (s : Int) : Value := evV 0 s 0 0 0 (.slice none 0 0) (.slice none 0 0)
def evAdd (r q s : Int) : Value := evV 1 0 r q s (.slice none 0 0) (.slice none 0 0)
section
variable {w w' : World} {I : Ids} {σ : St}
theorem StoreAt.chs (h : StoreAt w I σ) (v : Value) : StoreAt (w.setCell ⟨I.p, 13, none⟩ v) { I with ch := v } σ := by
  have t1 := h.blk.set 13 v
  simp only [List.setIfInBounds_toArray, List.set_cons_zero, List.set_cons_succ] at t1
  exact h.put (I' := { I with ch := v }) (σ' := σ) (gset w I.p 13 v) t1 rfl rfl
theorem ownsRow_base {w : World} {base base' : Nat} {e : TypeId} {size n : Nat} {v : Value} {xs : List Value} (h : w.ownsRow base' e size v n xs) (hb : base ≤ base') : w.ownsRow base e size v n xs := by
  obtain ⟨h1, h2⟩ := h
  refine ⟨h1, ?_⟩
  rcases h2 with h2 | ⟨g, cap, cur, rfl, h3, h4⟩
  · exact .inl h2
  · exact .inr ⟨g, cap, cur, rfl, Nat.le_trans hb h3, h4⟩

set_option maxHeartbeats 1000000 in
theorem apply_tick (h : StoreAt w I σ) (s : Int) :
    Calls Tryz.prog 20 #[.pointer (some ⟨I.p, 0, none⟩), evTick s] w fun e w' => e = .returned (.tuple #[.slice none 0 0, errV (tickE σ s)]) ∧ StoreAt w' { I with ch := .slice none 0 0 } (tickF σ s) ∧ Chg (Mut I) w w' := by
  have HH := Lib.hid h
  have hpl := h.blk.lt
  clear h
  obtain ⟨E, hE⟩ : ∃ E, E = errV (tickE σ s) := ⟨_, rfl⟩
  rw [← hE]
  have HE := Lib.hid hE
  clear hE
  unfold evTick evV
  go_enter Tryz.func20, Tryz.ntmps20
  go_upto_region 1 with (fail)
  refine nmC1 ?_
  intro W b0 hz hg
  obtain ⟨q, hq_q⟩ : ∃ q, q = w.heap.size := ⟨_, rfl⟩
  rw [← hq_q] at b0 hz hpl ⊢
  have HQ_q := Lib.hid hq_q
  clear hq_q
  change Blk W q (evCells 0 s 0 0 0 (.slice none 0 0) (.slice none 0 0)) 68 at b0
  have HB0 := Lib.hid b0
  have HG := Lib.hid hg
  clear b0 hg
  replace HH := Lib.hid (HH.out.g HG.out)
  have c13 := HH.out.s13
  have f13 := HH.out.blk.fr 13
  go_upto_region 2 with (fail)
  have hst := HH.out.chs (.slice none 0 0)
  have hgs := gset W I.p 13 (.slice none 0 0)
  have hc := (Chg.of (S := Mut I) HG.out).trans (Chg.one hgs (.inl rfl))
  replace HB0 := Lib.hid (HB0.out.kept hgs (by simp; omega))
  generalize W.setCell ⟨I.p, 13, none⟩ (.slice none 0 0) = W2 at hst hc HB0 ⊢
  clear HH HG hgs c13 f13 hz
  have HH := Lib.hid hst
  have HC := Lib.hid hc
  clear hst hc
  have d0 : W2.cell? ⟨q, 0, none⟩ = some (.int .i64 0) := HB0.out.at 0
  have d1 : W2.cell? ⟨q, 1, none⟩ = some (.int .i64 s) := HB0.out.at 1
  go_wp2_with fail
  refine (tick_calls HH.out s).mono ?_
  rintro e w3 ⟨rfl, hst, hc⟩
  rw [← HE.out]
  have hcc := HC.out.trans (S := Mut I) hc
  have c13 := hst.s13
  have HH2 := Lib.hid hst
  have HC2 := Lib.hid hcc
  clear hst hcc hc d0 d1
  go_wp2
  go_ret2
  exact ⟨rfl, HH2.out, HC2.out⟩

set_option maxHeartbeats 2000000 in
theorem apply_add (h : StoreAt w I σ) (hw : StWf σ) {r q s qq qs qh : Int} {x : Led} (hr : inU r) (hr0 : r ≠ 0) (hs : s ≤ σ.slot) (hgone : ¬ σ.gone r) (hF : σ.F q = some (qq, qs, qh)) (hn : σ.F r = none)
    (hqs : qs < s) (hsz : σ.n < 1024) (hqh : qh < 1000000) (hL : σ.L q = some x) (hj : (advF σ.bs σ.S (tset σ.F r (q, s, qh + 1)) σ.f r x s).j.ce ≤ σ.je) (hf : (advF σ.bs σ.S (tset σ.F r (q, s, qh + 1)) σ.f r x s).j.fe ≤ σ.fe) (hE : ¬ eOf s σ.S < eOf σ.slot σ.S) :
    Calls Tryz.prog 20 #[.pointer (some ⟨I.p, 0, none⟩), evAdd r q s] w fun e w' => ∃ g c, e = .returned (.tuple #[.slice (some ⟨g, 0, none⟩) 1 c, .nilIface]) ∧ StoreAt w' { I with ch := .slice (some ⟨g, 0, none⟩) 1 c } (addS σ r q s qh x) ∧
      w'.ownsRow w.heap.size 178 6 (.slice (some ⟨g, 0, none⟩) 1 c) 1 (addedRow r q) ∧ Chg (Mut I) w w' := by
  have HH := Lib.hid h
  have hpl := h.blk.lt
  clear h
  have HW := Lib.hid hw
  have HR := Lib.hid hr
  have HR0 := Lib.hid hr0
  have HS := Lib.hid hs
  have HGONE := Lib.hid hgone
  have HFQ := Lib.hid hF
  have HN := Lib.hid hn
  have HQS := Lib.hid hqs
  have HSZ := Lib.hid hsz
  have HQH := Lib.hid hqh
  have HL := Lib.hid hL
  have HJ := Lib.hid hj
  have HFF := Lib.hid hf
  have HE := Lib.hid hE
  clear hw hr hr0 hs hgone hF hn hqs hsz hqh hL hj hf hE
  unfold evAdd evV
  go_enter Tryz.func20, Tryz.ntmps20
  go_upto_region 1 with (fail)
  refine nmC1 ?_
  intro W b0 hz hg
  obtain ⟨qb, hq_qb⟩ : ∃ q, q = w.heap.size := ⟨_, rfl⟩
  rw [← hq_qb] at b0 hz hpl ⊢
  have HQ_qb := Lib.hid hq_qb
  clear hq_qb
  change Blk W qb (evCells 1 0 r q s (.slice none 0 0) (.slice none 0 0)) 68 at b0
  have hqw := Nat.le_of_eq HQ_qb.out.symm
  have HB0 := Lib.hid b0
  have HG := Lib.hid hg
  clear b0 hg
  replace HH := Lib.hid (HH.out.g HG.out)
  have c13 := HH.out.s13
  have f13 := HH.out.blk.fr 13
  go_upto_region 2 with (fail)
  have hst := HH.out.chs (.slice none 0 0)
  have hgs := gset W I.p 13 (.slice none 0 0)
  have hc := (Chg.of (S := Mut I) HG.out).trans (Chg.one hgs (.inl rfl))
  replace HB0 := Lib.hid (HB0.out.kept hgs (by simp; omega))
  generalize W.setCell ⟨I.p, 13, none⟩ (.slice none 0 0) = W2 at hst hc HB0 ⊢
  clear HH HG hgs c13 f13 hz
  have HH := Lib.hid hst
  have HC := Lib.hid hc
  clear hst hc
  have d0 : W2.cell? ⟨qb, 0, none⟩ = some (.int .i64 1) := HB0.out.at 0
  have d2 : W2.cell? ⟨qb, 2, none⟩ = some (.int .u64 r) := HB0.out.at 2
  have d3 : W2.cell? ⟨qb, 3, none⟩ = some (.int .u64 q) := HB0.out.at 3
  have d4 : W2.cell? ⟨qb, 4, none⟩ = some (.int .i64 s) := HB0.out.at 4
  have d5 : W2.cell? ⟨qb, 5, none⟩ = some (.slice none 0 0) := HB0.out.at 5
  have d6 : W2.cell? ⟨qb, 6, none⟩ = some (.slice none 0 0) := HB0.out.at 6
  go_wp2_with fail
  refine (propose_calls HH.out HW.out rfl HR.out HR0.out HS.out HGONE.out HFQ.out HN.out HQS.out HSZ.out HQH.out HL.out HJ.out HFF.out (by have := HE.out; omega)).mono ?_
  rintro e w3 ⟨g, c, rfl, hst, hrow, hc⟩
  have hcc := HC.out.trans (S := Mut I) hc
  have hrow2 := ownsRow_base hrow HC.out.size
  have c13 := hst.s13
  have HH2 := Lib.hid hst
  have HC2 := Lib.hid hcc
  have HROW := Lib.hid hrow2
  clear hcc hrow2
  clear hst hc hrow d0 d2 d3 d4 d5 d6
  go_wp2
  go_ret2
  exact ⟨g, c, rfl, HH2.out, HROW.out, HC2.out⟩
end
end Go.Proofs.YtndfpmboanohcaaGreatDoor
