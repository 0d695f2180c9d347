/- Contracts of package quorum's Enough, justify's Next, ledger's who and epoch's Ends. -/
import Derived.Test.YtndfpmboanohcaaGreatDoorNames
import Derived.Deep.DeepCutAuto
import Derived.Deep.CutBlock
namespace Go.Proofs.YtndfpmboanohcaaGreatDoor
set_option maxRecDepth 100000
open Go.RowKit Go.Maps SkipPure
theorem gnew {w W W' : World} {z : Nat} (h : w.grownBy W none) (k : W.grownBy W' (some z)) (hz : w.heap.size ≤ z) : w.grownBy W' none := h.andThen k (fun j e => Or.inl (by cases e; exact hz))
def enoughF (some all : Int) : Bool := decide (0 < all) && decide (2 * (all / 3) + (2 * (all % 3) + 2) / 3 ≤ some)
theorem enough_calls (some all : Int) (w : World) (h0 : 0 ≤ all) (h1 : all ≤ 4294967296000000) : Calls Tryz.prog 73 #[.int .u64 some, .int .u64 all] w fun e w' => e = .returned (.bool (enoughF some all)) ∧ w = w' := by
 have e1 : IntKind.u64.wrap (all.tdiv 3) = all / 3 := by rw [Int.tdiv_eq_ediv_of_nonneg h0]; simp [IntKind.wrap, IntKind.signed, IntKind.bits]; omega
 have e2 : IntKind.u64.wrap (all.tmod 3) = all % 3 := by rw [Int.tmod_eq_emod_of_nonneg h0]; simp [IntKind.wrap, IntKind.signed, IntKind.bits]; omega
 have e3 : IntKind.u64.wrap (2 * (all / 3)) = 2 * (all / 3) := by simp [IntKind.wrap, IntKind.signed, IntKind.bits]; omega
 have e4 : IntKind.u64.wrap (2 * (all % 3)) = 2 * (all % 3) := by simp [IntKind.wrap, IntKind.signed, IntKind.bits]; omega
 have e5 : IntKind.u64.wrap (2 * (all % 3) + 2) = 2 * (all % 3) + 2 := by simp [IntKind.wrap, IntKind.signed, IntKind.bits]; omega
 have e6 : IntKind.u64.wrap ((2 * (all % 3) + 2).tdiv 3) = (2 * (all % 3) + 2) / 3 := by rw [Int.tdiv_eq_ediv_of_nonneg (by omega)]; simp [IntKind.wrap, IntKind.signed, IntKind.bits]; omega
 have e7 : IntKind.u64.wrap (2 * (all / 3) + (2 * (all % 3) + 2) / 3) = 2 * (all / 3) + (2 * (all % 3) + 2) / 3 := by simp [IntKind.wrap, IntKind.signed, IntKind.bits]; omega
 obtain ⟨B, hB⟩ : ∃ B, B = enoughF some all := ⟨_, rfl⟩
 rw [← hB]
 unfold enoughF at hB
 have HB := lh hB
 clear hB
 by_cases hp : 0 < all
 ·have t0 : decide (0 < all) = true := decide_eq_true hp
  go_enter Tryz.func73, Tryz.ntmps73
  go_wp2
  go_ret
  exact ⟨by rw [HB.out, t0, Bool.true_and]; rfl, rfl⟩
 ·have t0 : decide (0 < all) = false := decide_eq_false hp
  go_enter Tryz.func73, Tryz.ntmps73
  go_wp2
  go_ret
  exact ⟨by rw [HB.out, t0, Bool.false_and]; rfl, rfl⟩
structure Jst where
 b0 : Bool
 b1 : Bool
 b2 : Bool
 b3 : Bool
 pe : Int
 pr : Int
 ce : Int
 cr : Int
 fe : Int
 fr : Int
def jV (s : Jst) : Value := .agg #[.bool s.b0, .bool s.b1, .bool s.b2, .bool s.b3, .int .i64 s.pe, .int .u64 s.pr, .int .i64 s.ce, .int .u64 s.cr, .int .i64 s.fe, .int .u64 s.fr]
structure JBd (s : Jst) : Prop where
 p0 : 0 ≤ s.pe
 p1 : s.pe ≤ 1099511627776
 c0 : 0 ≤ s.ce
 c1 : s.ce ≤ 1099511627776
 f0 : 0 ≤ s.fe
 f1 : s.fe ≤ 1099511627776
 pr : inU s.pr
 cr : inU s.cr
 fr : inU s.fr
def ptV (e r : Int) : Value := .agg #[.int .i64 e, .int .u64 r]
def finF (B0 B1 B2 B3 : Bool) (ep ce cr pe pr fe fr : Int) : Int × Int :=
 if B0 && B1 && (ce + 1 == ep) then (ce, cr) else if B0 && B1 && B2 && (ce + 2 == ep) then (ce, cr)
  else if B1 && B2 && (pe + 2 == ep) then (pe, pr) else if B1 && B2 && B3 && (pe + 3 == ep) then (pe, pr) else (fe, fr)
def nextF (s : Jst) (ep : Int) (before now : Bool) (fe fr se sr : Int) : Jst :=
 { b0 := now, b1 := before || s.b0, b2 := s.b1, b3 := s.b2, pe := s.ce, pr := s.cr, ce := if now then se else if before then fe else s.ce, cr := if now then sr else if before then fr else s.cr,
   fe := (finF now (before || s.b0) s.b1 s.b2 ep s.ce s.cr s.pe s.pr s.fe s.fr).1, fr := (finF now (before || s.b0) s.b1 s.b2 ep s.ce s.cr s.pe s.pr s.fe s.fr).2 }
set_option maxHeartbeats 4000000 in
theorem next_calls (s : Jst) (hs : JBd s) (ep : Int) (before now : Bool) (fe fr se sr : Int) (w : World) :
  Calls Tryz.prog 76 #[jV s, .int .i64 ep, .bool before, .bool now, ptV fe fr, ptV se sr] w fun e w' => e = .returned (jV (nextF s ep before now fe fr se sr)) ∧ w.grownBy w' none := by
 obtain ⟨B0, B1, B2, B3, pe, pr, ce, cr, fe', fr'⟩ := s
 obtain ⟨hp0, hp1, hc0, hc1, _, _, _, _, _⟩ := hs
 simp only at hp0 hp1 hc0 hc1
 obtain ⟨R, hR⟩ : ∃ R, R = jV (nextF ⟨B0, B1, B2, B3, pe, pr, ce, cr, fe', fr'⟩ ep before now fe fr se sr) := ⟨_, rfl⟩
 rw [← hR]
 have HR := lh hR
 clear hR
 unfold jV ptV
 go_enter Tryz.func76, Tryz.ntmps76
 go_wp2
 refine nmC4 ?_
 intro W b0 b1 b2 b3 hz hg
 obtain ⟨q, hq⟩ : ∃ q, q = w.heap.size := ⟨_, rfl⟩
 rw [← hq] at b0 b1 b2 b3 hz ⊢
 obtain ⟨_, _, _, _, c4, c5, c6, c7, _, _⟩ := b0.c10
 have HB0 := lh b0
 have HB1 := lh b1
 have HB2 := lh b2
 have HB3 := lh b3
 have HZ := lh hz
 have HG := lh hg
 have HQ := lh hq
 have n4 := World.new_ne W _ c4
 clear b0 b1 b2 b3 hz hg hq
 go_cut [13, 14] (fun s13 s14 wx => ∃ x y : Nat, s13 = .pointer (some ⟨x, 0, none⟩) ∧ s14 = .pointer (some ⟨y, 0, none⟩) ∧ Blk wx x #[.int .i64 ce, .int .u64 cr] 61 ∧ Blk wx y #[.int .i64 pe, .int .u64 pr] 61 ∧ q + 4 ≤ x ∧ q + 4 ≤ y ∧ W.grownBy wx none)
 case first =>
  go_region_held3 (fun w' => w'.cell? ⟨q, 4, none⟩ = some (.int .i64 pe) ∧ w'.cell? ⟨q, 5, none⟩ = some (.int .u64 pr) ∧ w'.cell? ⟨q, 6, none⟩ = some (.int .i64 ce) ∧ w'.cell? ⟨q, 7, none⟩ = some (.int .u64 cr)) (go_keep) (fail)
  ·go_wp2_with fail
   go_meet
   obtain ⟨⟨k0, k1⟩, k2, k3⟩ := alloc2 W #[.int .i64 ce, .int .u64 cr] #[.int .i64 pe, .int .u64 pr] 61 61
   have hz := HZ.out
   exact ⟨_, _, rfl, rfl, k0.drew, k1.drew, by omega, by omega, gdrew k3⟩
  ·go_wp2_with fail
   go_meet
   obtain ⟨⟨k0, k1⟩, k2, k3⟩ := alloc2 W #[.int .i64 pe, .int .u64 pr] #[.int .i64 ce, .int .u64 cr] 61 61
   have hz := HZ.out
   exact ⟨_, _, rfl, rfl, k1.drew, k0.drew, by omega, by omega, gdrew k3⟩
 case rest =>
  obtain ⟨x, y, rfl, rfl, hx, hy, hxq, hyq, hgw⟩ := hcut
  clear c4 c5 c6 c7 n4
  have hzq : q + 4 ≤ wc.heap.size := by have h1 := HZ.out; have h2 := hgw.size; omega
  have HX := lh hx
  have HY := lh hy
  clear hx hy
  replace HB0 := lh (HB0.out.g hgw)
  replace HB1 := lh (HB1.out.g hgw)
  replace HB2 := lh (HB2.out.g hgw)
  replace HB3 := lh (HB3.out.g hgw)
  replace HG := lh (g2 HG.out hgw)
  clear hgw
  obtain ⟨c0, c1, c2, c3, c4, c5, c6, c7, c8, c9⟩ := HB0.out.c10
  go_upto_region 3 with (fail)
  refine nmC1 ?_
  intro W2 b2 hz2 hg2
  have hxz := HX.out.lt
  have hyz := HY.out.lt
  obtain ⟨z, hq_z⟩ : ∃ q, q = wc.heap.size := ⟨_, rfl⟩
  rw [← hq_z] at b2 hz2 hxz hyz hzq ⊢
  have HQ_z := lh hq_z
  clear hq_z
  clear c0 c1 c2 c3 c4 c5 c6 c7 c8 c9
  have HO := lh b2
  have HZ2 := lh hz2
  clear b2 hz2
  replace HB0 := lh (HB0.out.g hg2)
  replace HB1 := lh (HB1.out.g hg2)
  replace HB2 := lh (HB2.out.g hg2)
  replace HB3 := lh (HB3.out.g hg2)
  replace HX := lh (HX.out.g hg2)
  replace HY := lh (HY.out.g hg2)
  replace HG := lh (g2 HG.out hg2)
  have hgz : W2.grownBy W2 none := gR _ _
  have HGZ := lh hgz
  clear hgz
  clear hg2
  obtain ⟨c0, c1, c2, c3, c4, c5, c6, c7, c8, c9⟩ := HB0.out.c10
  obtain ⟨o0, o1, o2, o3, o4, o5, o6, o7, o8, o9⟩ := HO.out.c10
  obtain ⟨f0, f1, f2, f3, f4, f5, f6, f7, f8, f9⟩ := HO.out.f10
  go_upto_region 4 with (fail)
  refine nsC4 HO.out ?_
  intro W3 b3 hz3 hg3
  simp only [List.setIfInBounds_toArray, List.set_cons_zero, List.set_cons_succ] at b3
  replace HB0 := lh (HB0.out.kept hg3 (by simp; omega))
  replace HB1 := lh (HB1.out.kept hg3 (by simp; omega))
  replace HB2 := lh (HB2.out.kept hg3 (by simp; omega))
  replace HB3 := lh (HB3.out.kept hg3 (by simp; omega))
  replace HX := lh (HX.out.kept hg3 (by simp; omega))
  replace HY := lh (HY.out.kept hg3 (by simp; omega))
  have hwz : w.heap.size ≤ z := by have := HQ.out; omega
  have HG3 := lh (gnew HG.out hg3 hwz)
  clear HG hg3 hz3 c0 c1 c2 c3 c4 c5 c6 c7 c8 c9 o0 o1 o2 o3 o4 o5 o6 o7 o8 o9 f0 f1 f2 f3 f4 f5 f6 f7 f8 f9 HO HZ2 HGZ
  have HO := lh b3
  clear b3
  obtain ⟨o0, o1, o2, o3, o4, o5, o6, o7, o8, o9⟩ := HO.out.c10
  obtain ⟨f0, f1, f2, f3, f4, f5, f6, f7, f8, f9⟩ := HO.out.f10
  obtain ⟨d0, d1⟩ := HB1.out.c2
  obtain ⟨e0, e1⟩ := HB2.out.c2
  go_upto_if 39 with (fail)
  go_cut [2] (fun s2 wx => s2 = .bool before ∧ ∃ (o1 : Bool) (cu cv : Int), o1 = (before || B0) ∧ cu = (if before then fe else ce) ∧ cv = (if before then fr else cr) ∧ Blk wx z #[.bool false, .bool o1, .bool B1, .bool B2, .int .i64 ce, .int .u64 cr, .int .i64 cu, .int .u64 cv, .int .i64 fe', .int .u64 fr'] 130 ∧ W3.grownBy wx (some z))
  case first =>
   cases before
   ·go_wp2
    go_meet
    exact ⟨rfl, B0, ce, cr, by simp, rfl, rfl, HO.out, gR _ _⟩
   ·go_wp2
    go_meet
    obtain ⟨h1, _, h3⟩ := sto3 6 7 1 (.int .i64 fe) (.int .u64 fr) (.bool true) HO.out
    simp only [List.setIfInBounds_toArray, List.set_cons_zero, List.set_cons_succ] at h1
    exact ⟨rfl, true, fe, fr, by simp, rfl, rfl, h1, h3⟩
  case rest =>
   obtain ⟨rfl, p1, cu, cv, hp1e, hcu, hcv, hb, hg⟩ := hcut
   replace HB0 := lh (HB0.out.kept hg (by simp; omega))
   replace HB1 := lh (HB1.out.kept hg (by simp; omega))
   replace HB2 := lh (HB2.out.kept hg (by simp; omega))
   replace HB3 := lh (HB3.out.kept hg (by simp; omega))
   replace HX := lh (HX.out.kept hg (by simp; omega))
   replace HY := lh (HY.out.kept hg (by simp; omega))
   replace HG3 := lh (gnew HG3.out hg hwz)
   clear hg HO o0 o1 o2 o3 o4 o5 o6 o7 o8 o9 f0 f1 f2 f3 f4 f5 f6 f7 f8 f9 d0 d1 e0 e1
   have HO := lh hb
   have HP1 := lh hp1e
   have HCU := lh hcu
   have HCV := lh hcv
   clear hb hp1e hcu hcv
   obtain ⟨o0, o1, o2, o3, o4, o5, o6, o7, o8, o9⟩ := HO.out.c10
   obtain ⟨f0, f1, f2, f3, f4, f5, f6, f7, f8, f9⟩ := HO.out.f10
   obtain ⟨d0, d1⟩ := HB1.out.c2
   obtain ⟨e0, e1⟩ := HB2.out.c2
   go_upto_if 44 with (fail)
   go_cut [3] (fun s3 wx => s3 = .bool now ∧ ∃ (du dv : Int), du = (if now then se else cu) ∧ dv = (if now then sr else cv) ∧ Blk wx z #[.bool now, .bool p1, .bool B1, .bool B2, .int .i64 ce, .int .u64 cr, .int .i64 du, .int .u64 dv, .int .i64 fe', .int .u64 fr'] 130 ∧ wc.grownBy wx (some z))
   case first =>
    cases now
    ·go_wp2
     go_meet
     exact ⟨rfl, cu, cv, rfl, rfl, HO.out, gR _ _⟩
    ·go_wp2
     go_meet
     obtain ⟨h1, _, h3⟩ := sto3 6 7 0 (.int .i64 se) (.int .u64 sr) (.bool true) HO.out
     simp only [List.setIfInBounds_toArray, List.set_cons_zero, List.set_cons_succ] at h1
     exact ⟨rfl, se, sr, rfl, rfl, h1, h3⟩
   case rest =>
    obtain ⟨rfl, du, dv, hdu, hdv, hb, hg⟩ := hcut
    replace HB0 := lh (HB0.out.kept hg (by simp; omega))
    replace HB1 := lh (HB1.out.kept hg (by simp; omega))
    replace HB2 := lh (HB2.out.kept hg (by simp; omega))
    replace HB3 := lh (HB3.out.kept hg (by simp; omega))
    replace HX := lh (HX.out.kept hg (by simp; omega))
    replace HY := lh (HY.out.kept hg (by simp; omega))
    replace HG3 := lh (gnew HG3.out hg hwz)
    clear hg HO o0 o1 o2 o3 o4 o5 o6 o7 o8 o9 f0 f1 f2 f3 f4 f5 f6 f7 f8 f9 d0 d1 e0 e1
    have HO := lh hb
    have HDU := lh hdu
    have HDV := lh hdv
    clear hb hdu hdv
    obtain ⟨o0, o1, o2, o3, o4, o5, o6, o7, o8, o9⟩ := HO.out.c10
    go_upto_region 8 with (fail)
    go_cut [16] (fun s16 wx => ∃ t : Nat, s16 = .pointer (some ⟨t, 0, none⟩) ∧ Blk wx t #[.bool now, .bool p1, .bool B1, .bool B2] 128 ∧ wc.heap.size ≤ t ∧ wc.grownBy wx none)
    case first =>
     go_wp2
     go_meet
     obtain ⟨h1, _, h3⟩ := alloc1 wc #[.bool now, .bool p1, .bool B1, .bool B2] 128
     exact ⟨_, rfl, h1, Nat.le_refl _, h3⟩
    case rest =>
     obtain ⟨t, rfl, b5, hz5, hg5⟩ := hcut
     have hzl := HO.out.lt
     replace HB3 := lh (HB3.out.g hg5)
     replace HO := lh (HO.out.g hg5)
     replace HX := lh (HX.out.g hg5)
     replace HY := lh (HY.out.g hg5)
     replace HG3 := lh (g2 HG3.out hg5)
     clear hg5 o0 o1 o2 o3 o4 o5 o6 o7 o8 o9
     have HT := lh b5
     clear b5
     obtain ⟨d0, d1, d2, d3⟩ := HT.out.c4
     obtain ⟨x0, x1⟩ := HX.out.c2
     obtain ⟨y0, y1⟩ := HY.out.c2
     obtain ⟨f0, f1, f2, f3, f4, f5, f6, f7, f8, f9⟩ := HO.out.f10
     obtain ⟨o0, o1, o2, o3, o4, o5, o6, o7, o8, o9⟩ := HO.out.c10
     have hne : q + 1 + 1 + 1 ≠ z := by omega
     have hqr : w.heap.size ≤ q + 1 + 1 + 1 := by have := HQ.out; omega
     have HRR := lh (show R = _ from HR.out)
     simp only [nextF] at HRR
     rw [← HP1.out, ← HCU.out, ← HCV.out, ← HDU.out, ← HDV.out] at HRR
     clear HR HP1 HCU HCV HDU HDV
     go_upto_block 0 with (fail)
     go_cut [0, 3] (fun _ _ wx => ∃ (xe xr : Int), finF now p1 B1 B2 ep ce cr pe pr fe' fr' = (xe, xr) ∧ Blk wx z #[.bool now, .bool p1, .bool B1, .bool B2, .int .i64 ce, .int .u64 cr, .int .i64 du, .int .u64 dv, .int .i64 xe, .int .u64 xr] 130 ∧ wc.grownBy wx (some z))
     case first =>
      go_wp2
      all_goals go_meet
      all_goals first
       | exact ⟨fe', fr', by simp [finF, *], HO.out, gR _ _⟩
       | (obtain ⟨h1, _, h3⟩ := sto2 8 9 (.int .i64 ce) (.int .u64 cr) HO.out
          simp only [List.setIfInBounds_toArray, List.set_cons_zero, List.set_cons_succ] at h1
          exact ⟨ce, cr, by simp [finF, *], h1, h3⟩)
       | (obtain ⟨h1, _, h3⟩ := sto2 8 9 (.int .i64 pe) (.int .u64 pr) HO.out
          simp only [List.setIfInBounds_toArray, List.set_cons_zero, List.set_cons_succ] at h1
          exact ⟨pe, pr, by simp [finF, *], h1, h3⟩)
     case rest =>
      obtain ⟨xe, xr, hfin, hb, hg⟩ := hcut
      replace HB3 := lh (HB3.out.kept hg (by simp; omega))
      replace HG3 := lh (gnew HG3.out hg hwz)
      clear hg HO o0 o1 o2 o3 o4 o5 o6 o7 o8 o9 f0 f1 f2 f3 f4 f5 f6 f7 f8 f9 d0 d1 d2 d3 x0 x1 y0 y1
      rw [hfin] at HRR
      clear hfin
      have HO := lh hb
      clear hb
      obtain ⟨o0, o1, o2, o3, o4, o5, o6, o7, o8, o9⟩ := HO.out.c10
      obtain ⟨r0, r1, r2, r3, r4, r5, r6, r7, r8, r9⟩ := HB3.out.c10
      obtain ⟨g0, g1, g2', g3, g4, g5, g6, g7, g8, g9⟩ := HB3.out.f10
      go_wp2
      obtain ⟨k1, _, k3⟩ := put10 (.bool now) (.bool p1) (.bool B1) (.bool B2) (.int .i64 ce) (.int .u64 cr) (.int .i64 du) (.int .u64 dv) (.int .i64 xe) (.int .u64 xr) HB3.out
      have k4 := gnew HG3.out k3 hqr
      refine bodyPost_ret (res76 rfl k1) rfl ⟨?_, k4⟩
      rw [HRR.out]
      rfl
theorem add0 (g j : Nat) : (⟨g, 0, none⟩ : Addr).add j = ⟨g, j, none⟩ := by simp [Addr.add]; omega
theorem news_box (w : World) (cs : List Value) (T : TypeId) : ∀ j u, cs[j]? = some u → (w.alloc (.cells cs.toArray T)).cell? ((⟨w.heap.size, 0, none⟩ : Addr).add j) = some u := by
 intro j u hj
 have h := Blk.alloc w cs.toArray T
 have h2 := h.at j
 rw [add0, h2]
 simpa using hj
def Elem (P : Program) (e : TypeId) (i : TypeInfo) (z : Value) (size bytes : Nat) : Prop := P.info? e = some i ∧ i.zero = some z ∧ i.size = size ∧ i.bytes = bytes
section
variable {P : Program} {ops : Array Oper} {rest : List Oper} {o : Oper} {a : Act} {Q : Exit → Act → World → Prop}
theorem wpList_push {W : World} {cs : List Value} {T : TypeId} (hgd : o.guard = none) (s x : Operand) (t : TypeId) (ho : o.op = .call { callee := .builtin .append, args := #[s, x], argTypes := #[t, t] })
  (base : Nat) (e : TypeId) (i : TypeInfo) (z : Value) (size bytes : Nat) (ht : P.underlying t = some (.slice e)) (hI : Elem P e i z size bytes) (hzs : z.cells.size = size) (hsz : 0 < size)
  (v : Value) (n : Nat) (xs : List Value) (hs : a.eval s = v) (hown : W.ownsRow base e size v n xs) (hx : a.eval x = .slice (some ⟨W.heap.size, 0, none⟩) 1 1) (hl : cs.length = size) (h1 : ∀ u ∈ cs, u.oneCell' = true)
  (h63 : n + 1 ≤ maxLen) (hbytes : (n + 1) * bytes ≤ 140737488355328) (hbase : base ≤ W.heap.size)
  (h : ∀ v' w', w'.ownsRow base e size v' (n + 1) (xs ++ cs) → W.grownBy w' v.ownBlock → wpList P ops Q rest (a.put o.dst v') w') :
  wpList P ops Q (o :: rest) a (W.alloc (.cells cs.toArray T)) := by
 refine wpList_append_own_at (w := W.alloc (.cells cs.toArray T)) hgd s x t ho base e i z size bytes ht hI.1 hI.2.1 hI.2.2.1 hI.2.2.2 hzs hsz v n xs hs (hown.alloc _) ⟨W.heap.size, 0, none⟩ 1 1 cs hx (by simpa using hl) (news_box W cs T) h1 h63 hbytes (by simp; omega) ?_
 intro v' w' r1 r2 _ _
 exact h v' w' r1 ((gweak (World.grownBy_alloc W _ none)).andThen r2 (fun j e => Or.inr e))
end
theorem own_grown {w0 W w' : World} {base : Nat} {e : TypeId} {size : Nat} {v : Value} {n : Nat} {xs : List Value} (hg0 : w0.grownBy W none) (hown : W.ownsRow base e size v n xs) (hb : w0.heap.size ≤ base) (hg : W.grownBy w' v.ownBlock) : w0.grownBy w' none :=
 hg0.andThen hg (fun j ej => Or.inl (Nat.le_trans hb (hown.lt j ej).1))
def BRow (w : World) (g n : Nat) (xs : List Bool) : Prop := xs.length = n ∧ ∀ i, i < n → w.cell? ⟨g, i, none⟩ = some (.bool (xs.getD i false))
theorem BRow.g {w w' : World} {g n : Nat} {xs : List Bool} (h : BRow w g n xs) (hg : w.grownBy w' none) : BRow w' g n xs := ⟨h.1, fun i hi => cell_g (h.2 i hi) hg⟩
theorem BRow.chg {S : Nat → Prop} {w w' : World} {g n : Nat} {xs : List Bool} (h : BRow w g n xs) (hg : Chg S w w') (hn : ¬ S g) : BRow w' g n xs := ⟨h.1, fun i hi => hg.cell (h.2 i hi) hn⟩
theorem BRow.lt {w : World} {g n : Nat} {xs : List Bool} (h : BRow w g n xs) (hn : 0 < n) : g < w.heap.size := World.block_lt_of_cell? w ⟨g, 0, none⟩ (h.2 0 hn)
def whoF (xs : List Bool) : Nat → List Int
 | 0 => []
 | k + 1 => whoF xs k ++ (if xs.getD k false then [(k : Int)] else [])
theorem whoF_len (xs : List Bool) : ∀ k, (whoF xs k).length ≤ k
 | 0 => by simp [whoF]
 | k + 1 => by have := whoF_len xs k; unfold whoF; split <;> simp <;> omega
theorem whoF_mem (xs : List Bool) : ∀ k, ∀ x ∈ whoF xs k, 0 ≤ x ∧ x < k
 | 0 => by simp [whoF]
 | k + 1 => by
  intro x hx
  unfold whoF at hx
  rcases List.mem_append.1 hx with h | h
  ·have := whoF_mem xs k x h; omega
  ·split at h
   ·simp at h; omega
   ·simp at h
abbrev encI : Int → Value := Value.int .i64
theorem info_i64 : (Tryz.prog.info? 3).map (fun i => (i.zero, i.size, i.bytes)) = some (some (.int .i64 0), 1, 8) := by kernel_rfl
theorem elem_i64 : ∃ i, Elem Tryz.prog 3 i (.int .i64 0) 1 8 := info_parts info_i64
theorem elem_u64 : ∃ i, Elem Tryz.prog 27 i (.int .u64 0) 1 8 := info_parts info_u64
theorem info_bool : (Tryz.prog.info? 4).map (fun i => (i.zero, i.size, i.bytes)) = some (some (.bool false), 1, 1) := by kernel_rfl
theorem elem_bool : ∃ i, Elem Tryz.prog 4 i (.bool false) 1 1 := info_parts info_bool
theorem ints_own {w : World} {base n : Nat} {v : Value} {ks : List Int} (h : w.ownsRow base 3 1 v n (ks.map encI)) : ∃ wa c, v = .slice wa n c ∧ Ints .i64 w wa ks ∧ n = ks.length := by
 have hl : ks.length = n := by have := h.1; simpa using this
 rcases h.two with hv | ⟨g, cap, hv⟩
 ·subst hv
  have hn : n = 0 := by
   rcases h.2 with h | ⟨_, _, _, h, _⟩
   ·exact h.2
   ·cases h
  exact ⟨none, 0, by rw [hn], fun i hi => by omega, hl.symm⟩
 ·subst hv
  refine ⟨_, _, rfl, fun i hi => ⟨_, rfl, ?_⟩, hl.symm⟩
  have hc := h.cellAt i (by omega)
  rw [add0, hc]
  simp [List.getD_eq_getElem?_getD, hi]
theorem who_calls {w : World} {g n c : Nat} {xs : List Bool} (hb : BRow w g n xs) (hn : n ≤ 1000000) :
  Calls Tryz.prog 75 #[.slice (some ⟨g, 0, none⟩) n c] w fun e w' => ∃ v, e = .returned v ∧ w'.ownsRow w.heap.size 3 1 v (whoF xs n).length ((whoF xs n).map encI) ∧ w.grownBy w' none := by
 have HB := lh hb
 clear hb
 obtain ⟨i0, hi⟩ := elem_i64
 have HI := lh hi
 clear hi
 go_enter Tryz.func75, Tryz.ntmps75
 go_wp2
 go_loopw [8, 3] (fun v8 v3 wr => ∃ j : Nat, v8 = .int .i64 (j : Int) ∧ j ≤ n ∧ wr.ownsRow w.heap.size 3 1 v3 (whoF xs j).length ((whoF xs j).map encI) ∧ w.grownBy wr none) (fun v8 _ _ => n - (intOf v8).toNat)
 case atStart => exact ⟨0, rfl, by omega, World.ownsRow_nil _ _ _ _, gR _ _⟩
 case round =>
  obtain ⟨j, rfl, hj, ho, hg⟩ := hrel
  have HO := lh ho
  have HG := lh hg
  clear ho
  by_cases hlt : j < n
  ·have hc := (HB.out.g hg).2 j hlt
   clear hg
   have hw : whoF xs (j + 1) = whoF xs j ++ (if xs.getD j false then [(j : Int)] else []) := rfl
   obtain ⟨b, hbb⟩ : ∃ b, b = xs.getD j false := ⟨_, rfl⟩
   rw [← hbb] at hc hw
   have HW := lh hw
   have hwl := whoF_len xs j
   clear hw hbb
   cases b with
   | false =>
    go_wp2
    exact ⟨⟨j + 1, by simp, by omega, by rw [HW.out]; simpa using HO.out, HG.out⟩, by simp [intOf]; omega⟩
   | true =>
    go_wp2_with (at_builtin; refine wpList_push rfl _ _ 62 rfl w.heap.size 3 i0 (.int .i64 0) 1 8 Tryz.underlying62 HI.out rfl (by decide) _ (whoF xs j).length ((whoF xs j).map encI) rfl HO.out rfl rfl (by simp [Value.oneCell']) (by unfold maxLen; omega) (by omega) HG.out.size ?_; intro v6 w6 h6 hg6; have H6 := lh h6; have HG6 := lh (own_grown HG.out HO.out (Nat.le_refl _) hg6); clear h6 hg6)
    exact ⟨⟨j + 1, by simp, by omega, by rw [HW.out]; simpa using H6.out, HG6.out⟩, by simp [intOf]; omega⟩
  ·have hje : j = n := by omega
   subst hje
   clear hg
   go_wp2
   go_ret
   exact ⟨_, rfl, HO.out, HG.out⟩
end Go.Proofs.YtndfpmboanohcaaGreatDoor
