/- Contracts of (*bucket.Engine).Feed at a tick, and at a block that is taken. -/
import Derived.Test.YtndfpmboanohcaaGreatDoorBkt
namespace Go.Proofs.YtndfpmboanohcaaGreatDoor
set_option maxRecDepth 100000
open Go.RowKit Go.Maps SkipPure
section
variable {w w' : World} {I : Ids} {σ : St} {J : BIds} {β : Bkt}
set_option maxHeartbeats 2000000 in
theorem bfeed_tick (h : StoreAt w I σ) (ha : BktAt w J I.p β) (hx : ∀ i, BOwn J i → I.ex i) (s : Int) :
    Calls Tryz.prog 174 #[.pointer (some ⟨J.q, 0, none⟩), evTick s] w fun e w' => e = .returned (errV (tickE σ s)) ∧ StoreAt w' { I with ch := .slice none 0 0 } (tickF σ s) ∧ BktAt w' J I.p β ∧ Chg (Mut I) w w' := by
  have HH := Lib.hid h
  have HA := Lib.hid ha
  have HX := Lib.hid hx
  have hpl := h.blk.lt
  have hql := ha.blk.lt
  clear h ha hx
  obtain ⟨E, hE⟩ : ∃ E, E = errV (tickE σ s) := ⟨_, rfl⟩
  rw [← hE]
  have HE := Lib.hid hE
  clear hE
  unfold evTick evV
  go_enter Tryz.func174, Tryz.ntmps174
  go_upto_region 1 with (fail)
  refine nmC1 ?_
  intro W b0 hz hg
  obtain ⟨q, hq_q⟩ : ∃ q, q = w.heap.size := ⟨_, rfl⟩
  rw [← hq_q] at b0 hz hpl hql ⊢
  have HQ_q := Lib.hid hq_q
  clear hq_q
  change EvBox W q (evCells 0 s 0 0 0 (.slice none 0 0) (.slice none 0 0)) at b0
  have HB0 := Lib.hid b0
  have HG := Lib.hid hg
  clear b0 hg
  replace HH := Lib.hid (HH.out.g HG.out)
  replace HA := Lib.hid (HA.out.kept0 HG.out)
  refine wp_region_late (fun wr => StoreAt wr I σ ∧ BktAt wr J I.p β ∧ EvBox wr q (evCells 0 s 0 0 0 (.slice none 0 0) (.slice none 0 0))) [5] (by as_aux_lemma => kernel_rfl) ?_
  have hgd := gdrew (World.grownBy.refl W none)
  have hS : (fun wr => StoreAt wr I σ ∧ BktAt wr J I.p β ∧ EvBox wr q (evCells 0 s 0 0 0 (.slice none 0 0) (.slice none 0 0))) W.drew := ⟨HH.out.g hgd, HA.out.kept0 hgd, Blk.g HB0.out hgd⟩
  replace HG := Lib.hid (g2 HG.out hgd)
  clear hgd HH HA HB0
  generalize W.drew = w2 at HG hS ⊢
  refine wpAnyM_pure (i := 0) (v := ?_) rfl (by as_aux_lemma => kernel_rfl) (by as_aux_lemma => kernel_rfl) (by as_aux_lemma => kernel_rfl) (fun _ _ _ h => h) (Or.inl ⟨by rfl, ?_⟩) ?_
  rotate_left 1
  · intro w _; first | (go_simp; done) | (go_simp; with_reducible rfl)
  simp only [Act.put, List.setIfInBounds_toArray, List.set_cons_zero, List.set_cons_succ]
  refine wpAnyM_pure (i := 1) (v := ?_) rfl (by as_aux_lemma => kernel_rfl) (by as_aux_lemma => kernel_rfl) (by as_aux_lemma => kernel_rfl) (fun _ _ _ h => h) (Or.inl ⟨by rfl, ?_⟩) ?_
  rotate_left 1
  · intro w _; first | (go_simp; done) | (go_simp; with_reducible rfl)
  simp only [Act.put, List.setIfInBounds_toArray, List.set_cons_zero, List.set_cons_succ]
  refine wpAnyM_pure (i := 2) (v := ?_) rfl (by as_aux_lemma => kernel_rfl) (by as_aux_lemma => kernel_rfl) (by as_aux_lemma => kernel_rfl) (fun _ _ _ h => h) (Or.inl ⟨by rfl, ?_⟩) ?_
  rotate_left 1
  · intro w _; first | (go_simp; done) | (go_simp; with_reducible rfl)
  simp only [Act.put, List.setIfInBounds_toArray, List.set_cons_zero, List.set_cons_succ]
  refine wpAnyM_take (i := 3) (v := ?_) rfl (by as_aux_lemma => kernel_rfl) (by as_aux_lemma => kernel_rfl) (by as_aux_lemma => kernel_rfl) (by as_aux_lemma => kernel_rfl) (fun _ _ _ h => h) (Or.inl ⟨by rfl, ?_⟩) hS ?_
  rotate_left 1
  · intro w hSw; have a0 : w.cell? ⟨J.q, 0, none⟩ = some (.pointer (some ⟨I.p, 0, none⟩)) := hSw.2.1.blk.at 0; first | (go_simp; done) | (go_simp; with_reducible rfl)
  simp only [Act.put, List.setIfInBounds_toArray, List.set_cons_zero, List.set_cons_succ]
  refine wpAnyM_take (i := 4) (v := ?_) rfl (by as_aux_lemma => kernel_rfl) (by as_aux_lemma => kernel_rfl) (by as_aux_lemma => kernel_rfl) (by as_aux_lemma => kernel_rfl) (fun _ _ _ h => h) (Or.inl ⟨by rfl, ?_⟩) hS ?_
  rotate_left 1
  · intro w hSw; (refine exec_load_blk (ty := 68) (off := 0) (hSw.2.2) ?_ _ Tryz.underlying68 rfl (evCells 0 s 0 0 0 (.slice none 0 0) (.slice none 0 0)) ?_ ?_ <;> first | exact ⟨_, rfl, rfl⟩ | rfl | (as_aux_lemma => kernel_rfl))
  simp only [Act.put, List.setIfInBounds_toArray, List.set_cons_zero, List.set_cons_succ]
  refine wpAnyM_ready (rs := [5]) (by as_aux_lemma => kernel_rfl) (by simp) ?_
  refine (AllReadyM.cons (i := 5) rfl (fun K hK => ?_) AllReadyM.nil)
  go_simp
  refine (apply_tick hS.1 s).mono ?_
  rintro e w3 ⟨rfl, hst, hc⟩
  have ha3 := hS.2.1.chg hc (fun i hi => hS.1.exd _ (HX.out _ hi))
  rw [← HE.out]
  replace HG := Lib.hid ((Chg.of HG.out).trans hc)
  have HH := Lib.hid hst
  have HA := Lib.hid ha3
  clear hst ha3
  clear hc
  refine hK.out _ _ (.inr (by decide)) ?_
  clear hK K
  try simp only [Act.put, List.setIfInBounds_toArray, List.set_cons_zero, List.set_cons_succ]
  refine wpAnyM_pure (i := 6) (v := ?_) rfl (by as_aux_lemma => kernel_rfl) (by as_aux_lemma => kernel_rfl) (by as_aux_lemma => kernel_rfl) (fun _ _ _ h => h) (Or.inl ⟨by rfl, ?_⟩) ?_
  rotate_left 1
  · intro w _; first | (go_simp; done) | (go_simp; with_reducible rfl)
  simp only [Act.put, List.setIfInBounds_toArray, List.set_cons_zero, List.set_cons_succ]
  refine wpAnyM_pure (i := 7) (v := ?_) rfl (by as_aux_lemma => kernel_rfl) (by as_aux_lemma => kernel_rfl) (by as_aux_lemma => kernel_rfl) (fun _ _ _ h => h) (Or.inl ⟨by rfl, ?_⟩) ?_
  rotate_left 1
  · intro w _; first | (go_simp; done) | (go_simp; with_reducible rfl)
  simp only [Act.put, List.setIfInBounds_toArray, List.set_cons_zero, List.set_cons_succ]
  refine wpAnyM_pure (i := 8) (v := ?_) rfl (by as_aux_lemma => kernel_rfl) (by as_aux_lemma => kernel_rfl) (by as_aux_lemma => kernel_rfl) (fun _ _ _ h => h) (Or.inl ⟨by rfl, ?_⟩) ?_
  rotate_left 1
  · intro w _; first | (go_simp; done) | (go_simp; with_reducible rfl)
  simp only [Act.put, List.setIfInBounds_toArray, List.set_cons_zero, List.set_cons_succ]
  refine wpAnyM_pure (i := 9) (v := ?_) rfl (by as_aux_lemma => kernel_rfl) (by as_aux_lemma => kernel_rfl) (by as_aux_lemma => kernel_rfl) (fun _ _ _ h => h) (Or.inl ⟨by rfl, ?_⟩) ?_
  rotate_left 1
  · intro w _; first | (go_simp; done) | (go_simp; with_reducible rfl)
  simp only [Act.put, List.setIfInBounds_toArray, List.set_cons_zero, List.set_cons_succ]
  refine wpAnyM_pure (i := 10) (v := ?_) rfl (by as_aux_lemma => kernel_rfl) (by as_aux_lemma => kernel_rfl) (by as_aux_lemma => kernel_rfl) (fun _ _ _ h => h) (Or.inl ⟨by rfl, ?_⟩) ?_
  rotate_left 1
  · intro w _; first | (go_simp; done) | (go_simp; with_reducible rfl)
  simp only [Act.put, List.setIfInBounds_toArray, List.set_cons_zero, List.set_cons_succ]
  refine wpAnyM_done (by as_aux_lemma => kernel_rfl) ?_ _
  go_wp2_with fail
  refine wp_loop_rounds 1 ?_
  rw [rounds_succ]
  go_wp2
  go_ret
  exact ⟨rfl, HH.out, HA.out, HG.out⟩
def addB (β : Bkt) (r q : Int) (k : Nat) : Bkt := { β with n := β.n + 1, hgt := setHgt β.hgt r (k + 1), par := setPar β.par r q }
set_option maxHeartbeats 8000000 in
theorem bfeed_add (h : StoreAt w I σ) (hw : StWf σ) (ha : BktAt w J I.p β) (hx : I.ex = BOwn J) (hn : β.n ≤ 2000) {r q s qq qs qh : Int} {x : Led} (hA : Addable σ r q s qq qs qh x) {kq : Nat} (hhq : β.hgt q = some kq) (hhk : kq ≤ 50000) (hhr : β.hgt r = none) :
    Calls Tryz.prog 174 #[.pointer (some ⟨J.q, 0, none⟩), evAdd r q s] w fun e w' => ∃ ch lok, e = .returned .nilIface ∧ StoreAt w' { I with ch := ch, ex := BOwn { J with lok := lok } } (addS σ r q s qh x) ∧ BktAt w' { J with lok := lok } I.p (addB β r q kq) ∧
      Chg (fun i => Mut I i ∨ BOwn J i) w w' := by
  have HH := Lib.hid h
  have HA := Lib.hid ha
  have HX := Lib.hid hx
  have HW := Lib.hid hw
  have HAD := Lib.hid hA
  have HHQ := Lib.hid hhq
  have HHR := Lib.hid hhr
  clear hhq hhr
  have hpl := h.blk.lt
  have hql := ha.blk.lt
  clear h ha hx hw hA
  unfold evAdd evV
  go_enter Tryz.func174, Tryz.ntmps174
  go_upto_region 1 with (fail)
  refine nmC1 ?_
  intro W b0 hz hg
  obtain ⟨qb, hq_qb⟩ : ∃ q, q = w.heap.size := ⟨_, rfl⟩
  rw [← hq_qb] at b0 hz hpl hql ⊢
  have HQ_qb := Lib.hid hq_qb
  clear hq_qb
  change EvBox W qb (evCells 1 0 r q s (.slice none 0 0) (.slice none 0 0)) at b0
  have HB0 := Lib.hid b0
  have HG := Lib.hid hg
  clear b0 hg
  replace HH := Lib.hid (HH.out.g HG.out)
  replace HA := Lib.hid (HA.out.kept0 HG.out)
  refine wp_region_late (fun wr => StoreAt wr I σ ∧ BktAt wr J I.p β ∧ EvBox wr qb (evCells 1 0 r q s (.slice none 0 0) (.slice none 0 0))) [5] (by as_aux_lemma => kernel_rfl) ?_
  have hgd := gdrew (World.grownBy.refl W none)
  have hS : (fun wr => StoreAt wr I σ ∧ BktAt wr J I.p β ∧ EvBox wr qb (evCells 1 0 r q s (.slice none 0 0) (.slice none 0 0))) W.drew := ⟨HH.out.g hgd, HA.out.kept0 hgd, Blk.g HB0.out hgd⟩
  replace HG := Lib.hid (g2 HG.out hgd)
  clear hgd HH HA HB0
  generalize W.drew = w2 at HG hS ⊢
  refine wpAnyM_pure (i := 0) (v := ?_) rfl (by as_aux_lemma => kernel_rfl) (by as_aux_lemma => kernel_rfl) (by as_aux_lemma => kernel_rfl) (fun _ _ _ h => h) (Or.inl ⟨by rfl, ?_⟩) ?_
  rotate_left 1
  · intro w _; first | (go_simp; done) | (go_simp; with_reducible rfl)
  simp only [Act.put, List.setIfInBounds_toArray, List.set_cons_zero, List.set_cons_succ]
  refine wpAnyM_pure (i := 1) (v := ?_) rfl (by as_aux_lemma => kernel_rfl) (by as_aux_lemma => kernel_rfl) (by as_aux_lemma => kernel_rfl) (fun _ _ _ h => h) (Or.inl ⟨by rfl, ?_⟩) ?_
  rotate_left 1
  · intro w _; first | (go_simp; done) | (go_simp; with_reducible rfl)
  simp only [Act.put, List.setIfInBounds_toArray, List.set_cons_zero, List.set_cons_succ]
  refine wpAnyM_pure (i := 2) (v := ?_) rfl (by as_aux_lemma => kernel_rfl) (by as_aux_lemma => kernel_rfl) (by as_aux_lemma => kernel_rfl) (fun _ _ _ h => h) (Or.inl ⟨by rfl, ?_⟩) ?_
  rotate_left 1
  · intro w _; first | (go_simp; done) | (go_simp; with_reducible rfl)
  simp only [Act.put, List.setIfInBounds_toArray, List.set_cons_zero, List.set_cons_succ]
  refine wpAnyM_take (i := 3) (v := ?_) rfl (by as_aux_lemma => kernel_rfl) (by as_aux_lemma => kernel_rfl) (by as_aux_lemma => kernel_rfl) (by as_aux_lemma => kernel_rfl) (fun _ _ _ h => h) (Or.inl ⟨by rfl, ?_⟩) hS ?_
  rotate_left 1
  · intro w hSw; have a0 : w.cell? ⟨J.q, 0, none⟩ = some (.pointer (some ⟨I.p, 0, none⟩)) := hSw.2.1.blk.at 0; first | (go_simp; done) | (go_simp; with_reducible rfl)
  simp only [Act.put, List.setIfInBounds_toArray, List.set_cons_zero, List.set_cons_succ]
  refine wpAnyM_take (i := 4) (v := ?_) rfl (by as_aux_lemma => kernel_rfl) (by as_aux_lemma => kernel_rfl) (by as_aux_lemma => kernel_rfl) (by as_aux_lemma => kernel_rfl) (fun _ _ _ h => h) (Or.inl ⟨by rfl, ?_⟩) hS ?_
  rotate_left 1
  · intro w hSw; (refine exec_load_all (ty := 68) (hSw.2.2) ?_ _ Tryz.underlying68 rfl ?_ <;> first | exact ⟨_, rfl, rfl⟩ | (as_aux_lemma => kernel_rfl))
  simp only [Act.put, List.setIfInBounds_toArray, List.set_cons_zero, List.set_cons_succ]
  refine wpAnyM_ready (rs := [5]) (by as_aux_lemma => kernel_rfl) (by simp) ?_
  refine (AllReadyM.cons (i := 5) rfl (fun K hK => ?_) AllReadyM.nil)
  go_simp
  refine (apply_adds hS.1 HW.out HAD.out).mono ?_
  rintro e w3 ⟨g, c, rfl, hst, hrow, hc⟩
  have hexq : ∀ i, BOwn J i → ¬ Mut I i := fun i hi => hS.1.exd i (by rw [HX.out]; exact hi)
  have ha3 := hS.2.1.chg hc hexq
  have hcc := (Chg.of (S := fun i => Mut I i ∨ BOwn J i) HG.out).trans (hc.mono (fun i hi => .inl hi))
  have hgw := hrow.lt g rfl
  clear hexq HG
  have HH := Lib.hid hst
  have HA := Lib.hid ha3
  have HROW := Lib.hid hrow
  have HG := Lib.hid hcc
  clear hst ha3 hrow hcc
  clear hc
  refine hK.out _ _ (.inr (by decide)) ?_
  clear hK K
  try simp only [Act.put, List.setIfInBounds_toArray, List.set_cons_zero, List.set_cons_succ]
  refine wpAnyM_pure (i := 6) (v := ?_) rfl (by as_aux_lemma => kernel_rfl) (by as_aux_lemma => kernel_rfl) (by as_aux_lemma => kernel_rfl) (fun _ _ _ h => h) (Or.inl ⟨by rfl, ?_⟩) ?_
  rotate_left 1
  · intro w _; first | (go_simp; done) | (go_simp; with_reducible rfl)
  simp only [Act.put, List.setIfInBounds_toArray, List.set_cons_zero, List.set_cons_succ]
  refine wpAnyM_pure (i := 7) (v := ?_) rfl (by as_aux_lemma => kernel_rfl) (by as_aux_lemma => kernel_rfl) (by as_aux_lemma => kernel_rfl) (fun _ _ _ h => h) (Or.inl ⟨by rfl, ?_⟩) ?_
  rotate_left 1
  · intro w _; first | (go_simp; done) | (go_simp; with_reducible rfl)
  simp only [Act.put, List.setIfInBounds_toArray, List.set_cons_zero, List.set_cons_succ]
  refine wpAnyM_pure (i := 8) (v := ?_) rfl (by as_aux_lemma => kernel_rfl) (by as_aux_lemma => kernel_rfl) (by as_aux_lemma => kernel_rfl) (fun _ _ _ h => h) (Or.inl ⟨by rfl, ?_⟩) ?_
  rotate_left 1
  · intro w _; first | (go_simp; done) | (go_simp; with_reducible rfl)
  simp only [Act.put, List.setIfInBounds_toArray, List.set_cons_zero, List.set_cons_succ]
  refine wpAnyM_pure (i := 9) (v := ?_) rfl (by as_aux_lemma => kernel_rfl) (by as_aux_lemma => kernel_rfl) (by as_aux_lemma => kernel_rfl) (fun _ _ _ h => h) (Or.inl ⟨by rfl, ?_⟩) ?_
  rotate_left 1
  · intro w _; first | (go_simp; done) | (go_simp; with_reducible rfl)
  simp only [Act.put, List.setIfInBounds_toArray, List.set_cons_zero, List.set_cons_succ]
  refine wpAnyM_pure (i := 10) (v := ?_) rfl (by as_aux_lemma => kernel_rfl) (by as_aux_lemma => kernel_rfl) (by as_aux_lemma => kernel_rfl) (fun _ _ _ h => h) (Or.inl ⟨by rfl, ?_⟩) ?_
  rotate_left 1
  · intro w _; first | (go_simp; done) | (go_simp; with_reducible rfl)
  simp only [Act.put, List.setIfInBounds_toArray, List.set_cons_zero, List.set_cons_succ]
  refine wpAnyM_done (by as_aux_lemma => kernel_rfl) ?_ _
  have r0 : w3.cell? ⟨g, 0, none⟩ = some (.int .i64 0) := HROW.out.cells (g := g) rfl 0 _ rfl
  have r1 : w3.cell? ⟨g, 1, none⟩ = some (.int .u64 r) := HROW.out.cells (g := g) rfl 1 _ rfl
  have r2 : w3.cell? ⟨g, 2, none⟩ = some (.int .u64 q) := HROW.out.cells (g := g) rfl 2 _ rfl
  have r3 : w3.cell? ⟨g, 3, none⟩ = some (.int .i64 0) := HROW.out.cells (g := g) rfl 3 _ rfl
  have r4 : w3.cell? ⟨g, 4, none⟩ = some (.int .u64 0) := HROW.out.cells (g := g) rfl 4 _ rfl
  have r5 : w3.cell? ⟨g, 5, none⟩ = some (.bool false) := HROW.out.cells (g := g) rfl 5 _ rfl
  go_wp2_with fail
  refine wp_loop_rounds 2 ?_
  rw [rounds_succ]
  go_upto_region 5 with (fail)
  obtain ⟨σ2, hσ⟩ : ∃ σ2, σ2 = addS σ r q s qh x := ⟨_, rfl⟩
  have hm2 : MayBe σ2.bs σ2.S σ2.B := by rw [hσ]; exact HW.out.may
  rw [← hσ] at HH
  have HS2 := Lib.hid hσ
  have HM2 := Lib.hid hm2
  clear hσ hm2 r0 r1 r2 r3 r4 r5
  refine nmC1 ?_
  intro W4 b4 hz4 hg4
  have hql := HA.out.blk.lt
  have hpl3 := HH.out.blk.lt
  have hgl3 := (HA.out.lokb J.lb HA.out.list.2.1).1
  obtain ⟨qc, hq_qc⟩ : ∃ q, q = w3.heap.size := ⟨_, rfl⟩
  rw [← hq_qc] at b4 hz4 hgw hql hpl3 hgl3 ⊢
  have HQ_qc := Lib.hid hq_qc
  clear hq_qc
  have HQC := Lib.hid b4
  replace HH := Lib.hid (HH.out.g hg4)
  replace HA := Lib.hid (HA.out.kept0 hg4)
  replace HG := Lib.hid (HG.out.trans (Chg.of hg4))
  clear b4 hg4 hz4
  refine wp_region_late (fun wr => StoreAt wr { I with ch := .slice (some ⟨g, 0, none⟩) 1 c } σ2 ∧ BktAt wr J I.p β ∧ Blk wr qc #[.int .i64 0, .int .u64 r, .int .u64 q, .int .i64 0, .int .u64 0, .bool false] 178) [] (by as_aux_lemma => kernel_rfl) ?_
  have hgd := gdrew (World.grownBy.refl W4 none)
  have hS : (fun wr => StoreAt wr { I with ch := .slice (some ⟨g, 0, none⟩) 1 c } σ2 ∧ BktAt wr J I.p β ∧ Blk wr qc #[.int .i64 0, .int .u64 r, .int .u64 q, .int .i64 0, .int .u64 0, .bool false] 178) W4.drew := ⟨HH.out.g hgd, HA.out.kept0 hgd, HQC.out.g hgd⟩
  replace HG := Lib.hid (HG.out.trans (Chg.of hgd))
  clear hgd HH HA HQC
  generalize W4.drew = w5 at HG hS ⊢
  refine wpAnyM_pure (i := 0) (v := ?_) rfl (by as_aux_lemma => kernel_rfl) (by as_aux_lemma => kernel_rfl) (by as_aux_lemma => kernel_rfl) (fun _ _ _ h => h) (Or.inl ⟨by rfl, ?_⟩) ?_
  rotate_left 1
  · intro w _; first | (go_simp; done) | (go_simp; with_reducible rfl)
  simp only [Act.put, List.setIfInBounds_toArray, List.set_cons_zero, List.set_cons_succ]
  refine wpAnyM_pure (i := 1) (v := ?_) rfl (by as_aux_lemma => kernel_rfl) (by as_aux_lemma => kernel_rfl) (by as_aux_lemma => kernel_rfl) (fun _ _ _ h => h) (Or.inl ⟨by rfl, ?_⟩) ?_
  rotate_left 1
  · intro w _; first | (go_simp; done) | (go_simp; with_reducible rfl)
  simp only [Act.put, List.setIfInBounds_toArray, List.set_cons_zero, List.set_cons_succ]
  refine wpAnyM_pure (i := 2) (v := ?_) rfl (by as_aux_lemma => kernel_rfl) (by as_aux_lemma => kernel_rfl) (by as_aux_lemma => kernel_rfl) (fun _ _ _ h => h) (Or.inl ⟨by rfl, ?_⟩) ?_
  rotate_left 1
  · intro w _; first | (go_simp; done) | (go_simp; with_reducible rfl)
  simp only [Act.put, List.setIfInBounds_toArray, List.set_cons_zero, List.set_cons_succ]
  refine wpAnyM_pure (i := 7) (v := ?_) rfl (by as_aux_lemma => kernel_rfl) (by as_aux_lemma => kernel_rfl) (by as_aux_lemma => kernel_rfl) (fun _ _ _ h => h) (Or.inl ⟨by rfl, ?_⟩) ?_
  rotate_left 1
  · intro w _; first | (go_simp; done) | (go_simp; with_reducible rfl)
  simp only [Act.put, List.setIfInBounds_toArray, List.set_cons_zero, List.set_cons_succ]
  refine wpAnyM_take (i := 3) (v := ?_) rfl (by as_aux_lemma => kernel_rfl) (by as_aux_lemma => kernel_rfl) (by as_aux_lemma => kernel_rfl) (by as_aux_lemma => kernel_rfl) (fun _ _ _ h => h) (Or.inl ⟨by rfl, ?_⟩) hS ?_
  rotate_left 1
  · intro w hSw; have a0 : w.cell? ⟨J.q, 0, none⟩ = some (.pointer (some ⟨I.p, 0, none⟩)) := hSw.2.1.blk.at 0; have e0 := hSw.1.s0; have e1 := hSw.1.s1; have e2 := hSw.1.s2; have r3 : w.cell? ⟨qc, 3, none⟩ = some (.int .i64 0) := hSw.2.2.at 3; first | (go_simp; done) | (go_simp; with_reducible rfl)
  simp only [Act.put, List.setIfInBounds_toArray, List.set_cons_zero, List.set_cons_succ]
  refine wpAnyM_pure (i := 4) (v := ?_) rfl (by as_aux_lemma => kernel_rfl) (by as_aux_lemma => kernel_rfl) (by as_aux_lemma => kernel_rfl) (fun _ _ _ h => h) (Or.inl ⟨by rfl, ?_⟩) ?_
  rotate_left 1
  · intro w _; first | (go_simp; done) | (go_simp; with_reducible rfl)
  simp only [Act.put, List.setIfInBounds_toArray, List.set_cons_zero, List.set_cons_succ]
  refine wpAnyM_pure (i := 5) (v := ?_) rfl (by as_aux_lemma => kernel_rfl) (by as_aux_lemma => kernel_rfl) (by as_aux_lemma => kernel_rfl) (fun _ _ _ h => h) (Or.inl ⟨by rfl, ?_⟩) ?_
  rotate_left 1
  · intro w _; first | (go_simp; done) | (go_simp; with_reducible rfl)
  simp only [Act.put, List.setIfInBounds_toArray, List.set_cons_zero, List.set_cons_succ]
  refine wpAnyM_take (i := 6) (v := ?_) rfl (by as_aux_lemma => kernel_rfl) (by as_aux_lemma => kernel_rfl) (by as_aux_lemma => kernel_rfl) (by as_aux_lemma => kernel_rfl) (fun _ _ _ h => h) (Or.inl ⟨by rfl, ?_⟩) hS ?_
  rotate_left 1
  · intro w hSw; have a0 : w.cell? ⟨J.q, 0, none⟩ = some (.pointer (some ⟨I.p, 0, none⟩)) := hSw.2.1.blk.at 0; have e0 := hSw.1.s0; have e1 := hSw.1.s1; have e2 := hSw.1.s2; have r3 : w.cell? ⟨qc, 3, none⟩ = some (.int .i64 0) := hSw.2.2.at 3; first | (go_simp; done) | (go_simp; with_reducible rfl)
  simp only [Act.put, List.setIfInBounds_toArray, List.set_cons_zero, List.set_cons_succ]
  refine wpAnyM_take (i := 8) (v := ?_) rfl (by as_aux_lemma => kernel_rfl) (by as_aux_lemma => kernel_rfl) (by as_aux_lemma => kernel_rfl) (by as_aux_lemma => kernel_rfl) (fun _ _ _ h => h) (Or.inl ⟨by rfl, ?_⟩) hS ?_
  rotate_left 1
  · intro w hSw; have a0 : w.cell? ⟨J.q, 0, none⟩ = some (.pointer (some ⟨I.p, 0, none⟩)) := hSw.2.1.blk.at 0; have e0 := hSw.1.s0; have e1 := hSw.1.s1; have e2 := hSw.1.s2; have r3 : w.cell? ⟨qc, 3, none⟩ = some (.int .i64 0) := hSw.2.2.at 3; first | (go_simp; done) | (go_simp; with_reducible rfl)
  simp only [Act.put, List.setIfInBounds_toArray, List.set_cons_zero, List.set_cons_succ]
  refine wpAnyM_ready (rs := [9]) (by as_aux_lemma => kernel_rfl) (by simp) ?_
  refine (AllReadyM.cons (i := 9) rfl (fun K hK => ?_) AllReadyM.nil)
  go_simp
  refine nmA1 ?_
  intro w6 b6 hg6
  generalize w5.heap.size = gm at b6 ⊢
  have HB6 := Lib.hid b6
  have hS2 : (fun wr => _) w6 := And.intro (hS.1.g hg6) (And.intro (hS.2.1.kept0 hg6) (hS.2.2.g hg6))
  replace HG := Lib.hid (HG.out.trans (Chg.of hg6))
  clear hg6 b6
  refine hK.out _ _ (.inl (fun _ => hS2)) ?_
  clear hK K hS
  have hS := hS2
  clear hS2
  try simp only [Act.put, List.setIfInBounds_toArray, List.set_cons_zero, List.set_cons_succ]
  refine wpAnyM_ready (rs := [10]) (by as_aux_lemma => kernel_rfl) (by simp) ?_
  refine (AllReadyM.cons (i := 10) rfl (fun K hK => ?_) AllReadyM.nil)
  go_simp
  refine (sum_calls (ks := [0]) hS.1.bal rfl (Ints.one HB6.out) rfl HM2.out.bal (by simp) (wf_one 0 (by rfl))).mono ?_
  rintro e w7 ⟨rfl, hg7⟩
  have hst := hS.1.g hg7
  have hat := hS.2.1.kept0 hg7
  have hqc := hS.2.2.g hg7
  replace HG := Lib.hid (HG.out.trans (Chg.of hg7))
  have hS2 : (fun wr => _) w7 := And.intro hst (And.intro hat hqc)
  generalize sumF σ2.bs [0] = sm
  clear hg7 HB6 hst hat hqc
  refine hK.out _ _ (.inl (fun _ => hS2)) ?_
  clear hK K hS
  have hS := hS2
  clear hS2
  try simp only [Act.put, List.setIfInBounds_toArray, List.set_cons_zero, List.set_cons_succ]
  refine wpAnyM_pure (i := 11) (v := ?_) rfl (by as_aux_lemma => kernel_rfl) (by as_aux_lemma => kernel_rfl) (by as_aux_lemma => kernel_rfl) (fun _ _ _ h => h) (Or.inl ⟨by rfl, ?_⟩) ?_
  rotate_left 1
  · intro w _; first | (go_simp; done) | (go_simp; with_reducible rfl)
  simp only [Act.put, List.setIfInBounds_toArray, List.set_cons_zero, List.set_cons_succ]
  refine wpAnyM_done (by as_aux_lemma => kernel_rfl) ?_ _
  have hst := hS.1
  have hat := hS.2.1
  have hqc := hS.2.2
  clear hS
  have HH := Lib.hid hst
  have HA := Lib.hid hat
  have HQC := Lib.hid hqc
  clear hst hat hqc
  have r0 : w7.cell? ⟨qc, 0, none⟩ = some (.int .i64 0) := HQC.out.at 0
  go_upto_region 8 with (fail)
  clear r0
  refine wp_region_late (fun wr => Blk wr J.q #[.pointer (some ⟨I.p, 0, none⟩), .pointer (some ⟨J.lp, 0, none⟩), .map (some J.mb)] 122 ∧ Blk wr qc #[.int .i64 0, .int .u64 r, .int .u64 q, .int .i64 0, .int .u64 0, .bool false] 178) [] (by as_aux_lemma => kernel_rfl) ?_
  have hgd := gdrew (World.grownBy.refl w7 none)
  have hS : (fun wr => Blk wr J.q #[.pointer (some ⟨I.p, 0, none⟩), .pointer (some ⟨J.lp, 0, none⟩), .map (some J.mb)] 122 ∧ Blk wr qc #[.int .i64 0, .int .u64 r, .int .u64 q, .int .i64 0, .int .u64 0, .bool false] 178) w7.drew := ⟨HA.out.blk.g hgd, HQC.out.g hgd⟩
  replace HH := Lib.hid (HH.out.g hgd)
  replace HA := Lib.hid (HA.out.kept0 hgd)
  replace HG := Lib.hid (HG.out.trans (Chg.of hgd))
  clear hgd HQC
  generalize w7.drew = w8 at HH HA HG hS ⊢
  refine wpAnyM_pure (i := 0) (v := ?_) rfl (by as_aux_lemma => kernel_rfl) (by as_aux_lemma => kernel_rfl) (by as_aux_lemma => kernel_rfl) (fun _ _ _ h => h) (Or.inl ⟨by rfl, ?_⟩) ?_
  rotate_left 1
  · intro w _; first | (go_simp; done) | (go_simp; with_reducible rfl)
  simp only [Act.put, List.setIfInBounds_toArray, List.set_cons_zero, List.set_cons_succ]
  refine wpAnyM_pure (i := 1) (v := ?_) rfl (by as_aux_lemma => kernel_rfl) (by as_aux_lemma => kernel_rfl) (by as_aux_lemma => kernel_rfl) (fun _ _ _ h => h) (Or.inl ⟨by rfl, ?_⟩) ?_
  rotate_left 1
  · intro w _; first | (go_simp; done) | (go_simp; with_reducible rfl)
  simp only [Act.put, List.setIfInBounds_toArray, List.set_cons_zero, List.set_cons_succ]
  refine wpAnyM_pure (i := 2) (v := ?_) rfl (by as_aux_lemma => kernel_rfl) (by as_aux_lemma => kernel_rfl) (by as_aux_lemma => kernel_rfl) (fun _ _ _ h => h) (Or.inl ⟨by rfl, ?_⟩) ?_
  rotate_left 1
  · intro w _; first | (go_simp; done) | (go_simp; with_reducible rfl)
  simp only [Act.put, List.setIfInBounds_toArray, List.set_cons_zero, List.set_cons_succ]
  refine wpAnyM_pure (i := 4) (v := ?_) rfl (by as_aux_lemma => kernel_rfl) (by as_aux_lemma => kernel_rfl) (by as_aux_lemma => kernel_rfl) (fun _ _ _ h => h) (Or.inl ⟨by rfl, ?_⟩) ?_
  rotate_left 1
  · intro w _; first | (go_simp; done) | (go_simp; with_reducible rfl)
  simp only [Act.put, List.setIfInBounds_toArray, List.set_cons_zero, List.set_cons_succ]
  refine wpAnyM_pure (i := 6) (v := ?_) rfl (by as_aux_lemma => kernel_rfl) (by as_aux_lemma => kernel_rfl) (by as_aux_lemma => kernel_rfl) (fun _ _ _ h => h) (Or.inl ⟨by rfl, ?_⟩) ?_
  rotate_left 1
  · intro w _; first | (go_simp; done) | (go_simp; with_reducible rfl)
  simp only [Act.put, List.setIfInBounds_toArray, List.set_cons_zero, List.set_cons_succ]
  refine wpAnyM_take (i := 3) (v := ?_) rfl (by as_aux_lemma => kernel_rfl) (by as_aux_lemma => kernel_rfl) (by as_aux_lemma => kernel_rfl) (by as_aux_lemma => kernel_rfl) (fun _ _ _ h => h) (Or.inl ⟨by rfl, ?_⟩) hS ?_
  rotate_left 1
  · intro w hSw; have a1 : w.cell? ⟨J.q, 1, none⟩ = some (.pointer (some ⟨J.lp, 0, none⟩)) := hSw.1.at 1; have r1 : w.cell? ⟨qc, 1, none⟩ = some (.int .u64 r) := hSw.2.at 1; have r2 : w.cell? ⟨qc, 2, none⟩ = some (.int .u64 q) := hSw.2.at 2; first | (go_simp; done) | (go_simp; with_reducible rfl)
  simp only [Act.put, List.setIfInBounds_toArray, List.set_cons_zero, List.set_cons_succ]
  refine wpAnyM_take (i := 5) (v := ?_) rfl (by as_aux_lemma => kernel_rfl) (by as_aux_lemma => kernel_rfl) (by as_aux_lemma => kernel_rfl) (by as_aux_lemma => kernel_rfl) (fun _ _ _ h => h) (Or.inl ⟨by rfl, ?_⟩) hS ?_
  rotate_left 1
  · intro w hSw; have a1 : w.cell? ⟨J.q, 1, none⟩ = some (.pointer (some ⟨J.lp, 0, none⟩)) := hSw.1.at 1; have r1 : w.cell? ⟨qc, 1, none⟩ = some (.int .u64 r) := hSw.2.at 1; have r2 : w.cell? ⟨qc, 2, none⟩ = some (.int .u64 q) := hSw.2.at 2; first | (go_simp; done) | (go_simp; with_reducible rfl)
  simp only [Act.put, List.setIfInBounds_toArray, List.set_cons_zero, List.set_cons_succ]
  refine wpAnyM_take (i := 7) (v := ?_) rfl (by as_aux_lemma => kernel_rfl) (by as_aux_lemma => kernel_rfl) (by as_aux_lemma => kernel_rfl) (by as_aux_lemma => kernel_rfl) (fun _ _ _ h => h) (Or.inl ⟨by rfl, ?_⟩) hS ?_
  rotate_left 1
  · intro w hSw; have a1 : w.cell? ⟨J.q, 1, none⟩ = some (.pointer (some ⟨J.lp, 0, none⟩)) := hSw.1.at 1; have r1 : w.cell? ⟨qc, 1, none⟩ = some (.int .u64 r) := hSw.2.at 1; have r2 : w.cell? ⟨qc, 2, none⟩ = some (.int .u64 q) := hSw.2.at 2; first | (go_simp; done) | (go_simp; with_reducible rfl)
  simp only [Act.put, List.setIfInBounds_toArray, List.set_cons_zero, List.set_cons_succ]
  refine wpAnyM_ready (rs := [8]) (by as_aux_lemma => kernel_rfl) (by simp) ?_
  refine (AllReadyM.cons (i := 8) rfl (fun K hK => ?_) AllReadyM.nil)
  go_simp
  have hlb := (HA.out.lokb J.lb HA.out.list.2.1)
  have hpl8 := HA.out.list.1
  refine (add_yes HA.out.list (fun j hj => (HA.out.lokb j hj).1) HA.out.tree HA.out.keys (by omega) HAD.out.hr (by omega) HHQ.out HHR.out).mono ?_
  rintro e w9 ⟨rfl, hg, hsk⟩
  have hS2 : (fun wr => _) w9 := And.intro (hS.1.kept hg (by simpa using fun e => hlb.2.1 e)) (hS.2.kept hg (by simp; omega))
  have hcA : Chg (BOwn J) w8 w9 := Chg.one hg (.inr (.inr HA.out.list.2.1))
  have hN0 : 0 < σ2.bs.length := by have := HM2.out.l1; omega
  obtain ⟨J', hJ⟩ : ∃ J' : BIds, J' = { J with lok := fun j => J.lok j ∨ (w8.heap.size ≤ j ∧ j < w9.heap.size) } := ⟨_, rfl⟩
  have hown : ∀ i, BOwn J' i → BOwn J i ∨ (w8.heap.size ≤ i ∧ i < w9.heap.size) := fun i hi => by
    rw [hJ] at hi
    rcases hi with e | e | e | e
    · exact .inl (.inl e)
    · exact .inl (.inr (.inl e))
    · exact .inl (.inr (.inr e))
    · exact .inr e
  have hbA := HA.out.blk.lt
  have hmA := HA.out.buckets.lt
  have hsz9 := hg.size
  have hlt8 : ∀ i, BOwn J i → i < w9.heap.size := fun i hi => by
    rcases hi with e | e | e
    · rw [e]; omega
    · rw [e]; omega
    · have := (HA.out.lokb i e).1; omega
  have hst := HH.out.reex hN0 (by rw [HX.out]; exact hcA) (BOwn J') (fun i hi => by
    rw [HX.out]
    rcases hown i hi with h | h
    · exact .inl h
    · exact .inr h.1) (fun i hi => by
    rcases hown i hi with h | h
    · exact hlt8 i h
    · exact h.2)
  have hat : BktAt w9 J' I.p (addB β r q kq) := by
    rw [hJ]
    refine ⟨hS2.1, hsk, HA.out.buckets.kept hg (by simpa using fun e => hlb.2.2 e.symm), fun j hj => ?_, HA.out.ne, HA.out.tree.set HHR.out HHQ.out, fun x' m hm => ?_, by show β.n + 1 ≤ 100000; omega, fun x' m hm => ?_⟩
    · rcases hj with hj | hj
      · have h1 := HA.out.lokb j hj
        exact ⟨by omega, h1.2⟩
      · exact ⟨hj.2, by show j ≠ J.q; omega, by show j ≠ J.mb; omega⟩
    · unfold addB setHgt at hm
      simp only at hm
      split at hm
      · next e => cases hm; rw [e]; exact ⟨HAD.out.hr, by omega⟩
      · exact HA.out.keys x' m hm
    · unfold addB setHgt at hm
      simp only at hm
      split at hm
      · cases hm; omega
      · exact HA.out.hb x' m hm
  have hcc := HG.out.trans (hcA.mono (fun i hi => .inr hi))
  rw [HS2.out] at hst
  clear HH HA HG hS
  have HH := Lib.hid hst
  have HA := Lib.hid hat
  have HG := Lib.hid hcc
  clear hst hat hcc
  have HJ := Lib.hid hJ
  clear hsk hcA hown hlt8 hJ
  refine hK.out _ _ (.inl (fun _ => hS2)) ?_
  clear hK K hS
  have hS := hS2
  clear hS2
  try simp only [Act.put, List.setIfInBounds_toArray, List.set_cons_zero, List.set_cons_succ]
  refine wpAnyM_done (by as_aux_lemma => kernel_rfl) ?_ _
  go_wp2_with fail
  rw [rounds_succ]
  go_wp2
  go_ret
  have hJ2 := HJ.out
  subst hJ2
  exact ⟨_, _, rfl, HH.out, HA.out, HG.out⟩
end
end Go.Proofs.YtndfpmboanohcaaGreatDoor
