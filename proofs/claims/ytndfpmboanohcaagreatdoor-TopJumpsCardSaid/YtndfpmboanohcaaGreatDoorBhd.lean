/- Contract of (*bucket.Engine).Head, whatever the weights are. -/
import Derived.Test.YtndfpmboanohcaaGreatDoorBst
namespace Go.Proofs.YtndfpmboanohcaaGreatDoor
set_option maxRecDepth 100000
open Go.RowKit Go.Maps SkipPure

section
open Classical
noncomputable def fl (may : Int → Prop) (xs : List Int) : List Int := xs.filter fun r => decide (may r)
noncomputable def kidsB (F : Int → Option (Int × Int × Int)) (f : Int) (ks : List Int) (may : Int → Prop) (h : Int) : List Int := fl may (kidsT F f h ks)
noncomputable def stepB (F : Int → Option (Int × Int × Int)) (f : Int) (ks : List Int) (may : Int → Prop) (wt : Int → Int) (h : Int) : Option Int :=
  if (bestF wt (kidsB F f ks may h)).2.2 = true then some (bestF wt (kidsB F f ks may h)).1 else none
theorem fl_take (may : Int → Prop) (xs : List Int) {j : Nat} (h : j < xs.length) : fl may (xs.take (j + 1)) = fl may (xs.take j) ++ (if may (xs.getD j 0) then [xs.getD j 0] else []) := by
  unfold fl
  rw [List.take_add_one, List.filter_append]
  congr 1
  rw [List.getElem?_eq_getElem h, List.getD_eq_getElem?_getD, List.getElem?_eq_getElem h]
  simp only [Option.toList_some, Option.getD_some, List.filter_cons, List.filter_nil, decide_eq_true_eq]
theorem fl_len (may : Int → Prop) (xs : List Int) : (fl may xs).length ≤ xs.length := List.length_filter_le _ _
theorem fl_sub {may : Int → Prop} {xs : List Int} {x : Int} (h : x ∈ fl may xs) : x ∈ xs := (List.mem_filter.1 h).1
end
/-- From h the steps lead to r, where they end. -/
inductive HdB (step : Int → Option Int) : Int → Int → Prop
  | stop {h : Int} : step h = none → HdB step h h
  | next {h k r : Int} : step h = some k → HdB step k r → HdB step h r
theorem HdB.unique {step : Int → Option Int} {h r r' : Int} (a : HdB step h r) (b : HdB step h r') : r = r' := by
  induction a with
  | stop e =>
    cases b with
    | stop _ => rfl
    | next e' _ => rw [e] at e'; cases e'
  | next e _ ih =>
    cases b with
    | stop e' => rw [e] at e'; cases e'
    | next e' b' => rw [e] at e'; cases e'; exact ih b'
theorem fold_mem (wt : Int → Int) : ∀ (rs : List Int) (s : Int × Int × Bool), (rs.foldl (bstep wt) s) = s ∨ (rs.foldl (bstep wt) s).1 ∈ rs
  | [], s => .inl rfl
  | r :: rs, s => by
    rw [List.foldl_cons]
    rcases fold_mem wt rs (bstep wt s r) with h | h
    · rw [h]
      unfold bstep
      split
      · right; simp
      · left; rfl
    · right; exact List.mem_cons_of_mem _ h
theorem bestF_mem {wt : Int → Int} {rs : List Int} (h : (bestF wt rs).2.2 = true) : (bestF wt rs).1 ∈ rs := by
  rcases fold_mem wt rs (0, 0, false) with e | e
  · unfold bestF at h
    rw [e] at h
    cases h
  · exact e

section
variable {w : World} {I : Ids} {σ : St} {J : BIds} {β : Bkt}
set_option maxHeartbeats 8000000 in
theorem bhead_calls (h : StoreAt w I σ) (hw : StWf σ) (ha : BktAt w J I.p β) {ks : List Int} (hks : Rising σ.F ks) (hkl : ks.length ≤ 1000000) (hS : SortUpTo σ.n) (wt : Int → Int)
    (hwt : ∀ W, w.grownBy W none → ∀ r, inU r → Calls Tryz.prog 176 #[.pointer (some ⟨J.q, 0, none⟩), .int .u64 r] W fun e W' => e = .returned (.int .u64 (wt r)) ∧ W.grownBy W' none) :
    Calls Tryz.prog 175 #[.pointer (some ⟨J.q, 0, none⟩)] w fun e w' => ∃ r, e = .returned (.int .u64 r) ∧ HdB (stepB σ.F σ.f ks (MayLead σ.F σ.f ks (srcG σ) σ.je σ.fr (eOf σ.slot σ.S)) wt) σ.jr r ∧ w.grownBy w' none := by
  have HH := Lib.hid h
  have HA := Lib.hid ha
  obtain ⟨may, hmay⟩ : ∃ may, may = MayLead σ.F σ.f ks (srcG σ) σ.je σ.fr (eOf σ.slot σ.S) := ⟨_, rfl⟩
  rw [← hmay]
  obtain ⟨STEP, hSTEP⟩ : ∃ STEP, STEP = stepB σ.F σ.f ks may wt := ⟨_, rfl⟩
  rw [← hSTEP]
  have HST := Lib.hid hSTEP
  clear hSTEP
  have HW := Lib.hid hw
  have HKS := Lib.hid hks
  have HSS := Lib.hid hS
  have HMAY := Lib.hid hmay
  have HWT := Lib.hid hwt
  clear hw hks hS hmay hwt
  clear h ha
  have hG0 := World.grownBy.refl w none
  have HG := Lib.hid hG0
  clear hG0
  go_enter Tryz.func175, Tryz.ntmps175
  go_upto_region 1 with (fail)
  have a0 : w.drew.cell? ⟨J.q, 0, none⟩ = some (.pointer (some ⟨I.p, 0, none⟩)) := HA.out.blk.at 0
  have c3 : w.drew.cell? ⟨I.p, 3, none⟩ = some (.pointer (some ⟨I.tp, 0, none⟩)) := HH.out.s3
  have hgd := gdrew (World.grownBy.refl w none)
  replace HH := Lib.hid (HH.out.g hgd)
  replace HA := Lib.hid (HA.out.kept0 hgd)
  replace HG := Lib.hid (g2 HG.out hgd)
  clear hgd
  go_region_held3 (fun w' => w'.cell? ⟨J.q, 0, none⟩ = some (.pointer (some ⟨I.p, 0, none⟩)) ∧ w'.cell? ⟨I.p, 3, none⟩ = some (.pointer (some ⟨I.tp, 0, none⟩))) (go_keep)
    (first
      | (go_at_call 144
         refine (view_calls HH.out HW.out).mono ?_
         rintro e w2 ⟨m, mn, rfl, hm, hg⟩
         have d0 := (HA.out.kept0 hg).blk.at 0
         have d3 := (HH.out.g hg).s3
         replace HH := Lib.hid (HH.out.g hg)
         replace HA := Lib.hid (HA.out.kept0 hg)
         replace HG := Lib.hid (g2 HG.out hg)
         have HM := Lib.hid hm
         clear hm hg)
      | (go_at_call 149
         refine (viable_calls HH.out.tree HW.out.tree HM.out HKS.out (by omega) (by have := HW.out.n; omega) HSS.out HW.out.fr (srcG_bd HW.out)).mono ?_
         rintro e w3 ⟨ob, rfl, hob, hol, hg⟩
         rw [← HMAY.out] at hob
         have e0 := (HA.out.kept0 hg).blk.at 0
         have e3 := (HH.out.g hg).s3
         replace HH := Lib.hid (HH.out.g hg)
         replace HA := Lib.hid (HA.out.kept0 hg)
         replace HG := Lib.hid (g2 HG.out hg)
         have HOB := Lib.hid hob
         clear hob hg))
  clear d0 d3 e0 e3 a0 c3 HM hol
  have hall : ∀ wz, w3.grownBy wz none → StoreAt wz I σ ∧ BktAt wz J I.p β ∧ BSet wz ob may ∧ w.grownBy wz none := fun wz hz => ⟨HH.out.g hz, HA.out.kept0 hz, HOB.out.g hz, g2 HG.out hz⟩
  have HALL := Lib.hid hall
  have a0 : w3.cell? ⟨J.q, 0, none⟩ = some (.pointer (some ⟨I.p, 0, none⟩)) := HA.out.blk.at 0
  have c8 := HH.out.s8
  clear hall HH HA HOB HG
  go_wp2_with fail
  clear a0 c8
  go_loopw [4] (fun v4 wr => ∃ hd : Int, v4 = .int .u64 hd ∧ (∀ r, HdB STEP hd r → HdB STEP σ.jr r) ∧ w3.grownBy wr none) (fun v4 _ => (1099511627777 - (getT σ.F (intOf v4)).2.1).toNat)
  case atStart => exact ⟨σ.jr, rfl, fun r h => h, World.grownBy.refl w3 none⟩
  case round =>
    obtain ⟨hd, rfl, hH, hg⟩ := hrel
    have HHD := Lib.hid hH
    have HG := Lib.hid hg
    clear hH hg
    obtain ⟨wo, rfl⟩ : ∃ wo, wo = wr := ⟨_, rfl⟩
    have a0 : wo.cell? ⟨J.q, 0, none⟩ = some (.pointer (some ⟨I.p, 0, none⟩)) := (HALL.out wo HG.out).2.1.blk.at 0
    have c3 := (HALL.out wo HG.out).1.s3
    go_wp2_with fail
    refine (kids_calls (HALL.out wo HG.out).1.tree HW.out.tree (by have := HW.out.n; omega) HSS.out hd).mono ?_
    rintro e w4 ⟨v, ks', rfl, hks', hkn, hrow, hg⟩
    obtain rfl : ks' = ks := rising_eq hks'.1 HKS.out.1 (fun x => ⟨fun hx => (HKS.out.2.2 x (hks'.2.1 x hx)).2 ((hks'.2.2 x (hks'.2.1 x hx)).1 hx), fun hx => (hks'.2.2 x (HKS.out.2.1 x hx)).2 ((HKS.out.2.2 x (HKS.out.2.1 x hx)).1 hx)⟩)
    have hlen := len_any (P := Tryz.prog) (t := 34) hrow Tryz.underlying34 3
    obtain ⟨xs, hxs⟩ : ∃ xs, xs = kidsT σ.F σ.f hd ks' := ⟨_, rfl⟩
    rw [← hxs] at hrow hlen
    have hxl : xs.length ≤ 1000000 := by rw [hxs]; exact Nat.le_trans (kidsT_length _ _ _ _) hkl
    have hxu : ∀ x ∈ xs, inU x := fun x hx => by rw [hxs] at hx; exact HKS.out.2.1 x (List.mem_filter.1 hx).1
    replace HG := Lib.hid (g2 HG.out hg)
    have HROW := Lib.hid hrow
    have HXS := Lib.hid hxs
    have HXU := Lib.hid hxu
    clear hrow hxs hxu
    clear hg hks' a0 c3 hkn
    go_wp2_with fail
    clear hlen
    obtain ⟨i0, hi0⟩ := elem_u64
    have HI := Lib.hid hi0
    clear hi0
    go_loopw [41, 5] (fun v41 v5 wr => ∃ j : Nat, v41 = .int .i64 (j : Int) ∧ j ≤ xs.length ∧ wr.ownsRow w4.heap.size 27 1 v5 (fl may (xs.take j)).length ((fl may (xs.take j)).map encU) ∧ w4.grownBy wr none) (fun v41 _ _ => xs.length - (intOf v41).toNat)
    case atStart => exact ⟨0, rfl, by omega, by simpa [fl] using World.ownsRow_nil w4 _ _ _, World.grownBy.refl w4 none⟩
    case round =>
      obtain ⟨j, rfl, hj, ho, hg1⟩ := hrel
      have HO := Lib.hid ho
      have HG1 := Lib.hid hg1
      clear ho hg1
      by_cases hlt : j < xs.length
      · obtain ⟨g, cap, rfl, _, _⟩ := HROW.out.form (by omega)
        have hc := rowCell (HROW.out.kept HG1.out (by simp [Value.ownBlock])) j hlt
        obtain ⟨r, hr⟩ : ∃ r, r = xs.getD j 0 := ⟨_, rfl⟩
        have hrm : r ∈ xs := by rw [hr, List.getD_eq_getElem?_getD, List.getElem?_eq_getElem hlt]; exact List.getElem_mem hlt
        have hin := HXU.out r hrm
        have ht := fl_take may xs hlt
        rw [← hr] at hc ht
        obtain ⟨Bm, hBm⟩ : ∃ Bm : Bool, Bm = true ↔ may r := ⟨@decide (may r) (Classical.propDecidable _), by simp⟩
        have hlk := (HALL.out _ (g2 HG.out HG1.out)).2.2.1.has hin (mt := 75) Tryz.underlying75 Bm hBm
        have hfl : (fl may (xs.take j)).length ≤ 1000000 := Nat.le_trans (fl_len _ _) (by simp; omega)
        have HT := Lib.hid ht
        clear hr hrm ht
        cases Bm with
        | false =>
          have hm : ¬ may r := fun h => by simpa using hBm.2 h
          have HM := Lib.hid hm
          clear hm hBm
          go_wp2
          exact ⟨⟨j + 1, by simp, by omega, by rw [HT.out, if_neg HM.out, List.append_nil]; exact HO.out, HG1.out⟩, by simp [intOf]; omega⟩
        | true =>
          have hm : may r := hBm.1 rfl
          have HM := Lib.hid hm
          clear hm hBm
          rcases HO.out.two with hv5 | ⟨g5, c5, hv5⟩
          all_goals
            subst hv5
            go_wp2_with (at_builtin; refine wpList_append_lies _ rfl _ _ 34 rfl w4.heap.size 27 i0 (.int .u64 0) 1 8 Tryz.underlying34 HI.out.1 HI.out.2.1 HI.out.2.2.1 HI.out.2.2.2 rfl (by decide) _ (fl may (xs.take j)).length ((fl may (xs.take j)).map encU) rfl (HO.out.alloc _) ⟨wr.heap.size, 0, none⟩ 1 1 [.int .u64 r] rfl rfl (World.news_of_block (MapKept.heap_alloc _ _).1) (by simp [Value.oneCell']) (by decide) (by unfold maxLen; omega) (by omega) (by have := HG1.out.size; simp; omega) _ rfl ?_; intro g6 c6 w6 h6 hg6 hat6 hlt6; have H6 := Lib.hid h6; have HG6 := Lib.hid hg6; clear h6 hg6 hat6)
            refine ⟨⟨j + 1, by simp, by omega, ?_, (g2 HG1.out (World.grownBy_alloc wr _ none)).andThen HG6.out (fun k e => Or.inl (HO.out.lt k e).1)⟩, by simp [intOf]; omega⟩
            rw [HT.out, if_pos HM.out]
            have := H6.out
            simpa using this
      · obtain rfl : j = xs.length := by omega
        have ho := HO.out
        rw [List.take_length] at ho
        replace HO := Lib.hid ho
        clear ho hj hlt
        replace HG := Lib.hid (g2 HG.out HG1.out)
        clear HG1
        have hfl : (fl may xs).length ≤ 1000000 := Nat.le_trans (fl_len _ _) hxl
        go_wp2_with fail
        refine (best_calls HO.out hfl wt (fun W hW r hr => HWT.out W (g2 (HALL.out wr HG.out).2.2.2 hW) r (HXU.out r (fl_sub hr)))).mono ?_
        rintro e w5 ⟨rfl, hg⟩
        replace HG := Lib.hid (g2 HG.out hg)
        obtain ⟨B, hB⟩ : ∃ B, B = bestF wt (fl may xs) := ⟨_, rfl⟩
        have hstep : STEP hd = if B.2.2 = true then some B.1 else none := by rw [HST.out]; unfold stepB kidsB; rw [← HXS.out, ← hB]
        have hmem : B.2.2 = true → B.1 ∈ xs := fun h => by rw [hB] at h ⊢; exact fl_sub (bestF_mem h)
        rw [← hB]
        have HSTEP := Lib.hid hstep
        have HMEM := Lib.hid hmem
        clear hstep hmem
        clear hg hB hfl HO
        obtain ⟨k, m, ok⟩ := B
        simp only
        cases ok with
        | false =>
          have hst := HSTEP.out
          simp only at hst
          rw [if_neg (by simp)] at hst
          have HF := Lib.hid (HHD.out hd (.stop hst))
          clear hst
          go_wp2
          go_ret
          exact ⟨hd, rfl, HF.out, (HALL.out w5 HG.out).2.2.2⟩
        | true =>
          have hst := HSTEP.out
          simp only at hst
          rw [if_pos trivial] at hst
          have hk := HMEM.out rfl
          simp only at hk
          have hlt : (getT σ.F hd).2.1 < (getT σ.F k).2.1 ∧ (getT σ.F k).2.1 ≤ 1099511627776 := by
            rw [HXS.out] at hk
            obtain ⟨hk1, hk2⟩ := List.mem_filter.1 hk
            obtain ⟨y, hy⟩ := Option.isSome_iff_exists.1 ((HKS.out.2.2 k (HKS.out.2.1 k hk1)).1 hk1)
            simp only [hy, Option.getD_some, Bool.and_eq_true, Bool.not_eq_true', beq_eq_false_iff_ne, beq_iff_eq] at hk2
            obtain ⟨z, hz, hzl⟩ := HW.out.tree.up k y hy hk2.1
            rw [hk2.2] at hz
            have := HW.out.tree.slot k y hy
            simp only [getT, hy, hz, Option.getD_some]
            exact ⟨hzl, this.2⟩
          have HNX := Lib.hid (fun r (h : HdB STEP k r) => HHD.out r (.next hst h))
          clear hst hk
          go_wp2
          exact ⟨⟨k, rfl, HNX.out, HG.out⟩, by simp [intOf]; omega⟩
end
end Go.Proofs.YtndfpmboanohcaaGreatDoor
