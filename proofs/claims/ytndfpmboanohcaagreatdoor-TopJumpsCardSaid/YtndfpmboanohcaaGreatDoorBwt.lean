/- Contract of (*bucket.Engine).Weight where no vote lies in a bucket. -/
import Derived.Test.YtndfpmboanohcaaGreatDoorBhd
namespace Go.Proofs.YtndfpmboanohcaaGreatDoor
set_option maxRecDepth 100000
open Go.RowKit Go.Maps SkipPure

def wt0 (σ : St) (β : Bkt) (root : Int) : Int :=
  if (σ.F root).isSome = true then (if ((σ.F σ.boosted).isSome && belowF β.hgt β.par σ.boosted root) = true then boostF σ.bs σ.S σ.B else 0) else 0
theorem boost_bound {bs : List Int} {S B : Int} (hm : MayBe bs S B) : 0 ≤ boostF bs S B ∧ boostF bs S B ≤ 18446744073709551615 := by
  have ht := totF_bound hm.bal
  have hl := hm.l2
  have hS := hm.s1
  have hB0 := hm.b1
  have hB1 := hm.b2
  unfold boostF
  obtain ⟨t, htt⟩ : ∃ t, t = totF bs := ⟨_, rfl⟩
  rw [← htt] at ht ⊢
  have h1 : 0 ≤ t / S := Int.ediv_nonneg ht.1 (by omega)
  have h2 : t / S ≤ t := Int.ediv_le_self _ ht.1
  have h3 : t ≤ 17592186044416 := by omega
  have h4 : 0 ≤ t / S * B := Int.mul_nonneg h1 hB0
  have h5 : t / S * B ≤ 17592186044416 * 100 := Int.mul_le_mul (by omega) hB1 hB0 (by omega)
  omega
section
variable {w : World} {I : Ids} {σ : St} {J : BIds} {β : Bkt}
set_option maxHeartbeats 2000000 in
theorem weight0_calls (h : StoreAt w I σ) (hw : StWf σ) (ha : BktAt w J I.p β) (hnb : β.nb = 0) (hbu : β.bu = fun _ => none) (hbo : inU σ.boosted) {root : Int} (hr : inU root) :
    Calls Tryz.prog 176 #[.pointer (some ⟨J.q, 0, none⟩), .int .u64 root] w fun e w' => e = .returned (.int .u64 (wt0 σ β root)) ∧ w.grownBy w' none := by
  have HH := Lib.hid h
  have HA := Lib.hid ha
  have hbb : 0 ≤ boostF σ.bs σ.S σ.B ∧ boostF σ.bs σ.S σ.B ≤ 18446744073709551615 := boost_bound hw.may
  obtain ⟨R, hR⟩ : ∃ R, R = wt0 σ β root := ⟨_, rfl⟩
  rw [← hR]
  unfold wt0 at hR
  have HW := Lib.hid hw
  have HR := Lib.hid hR
  have HNB := Lib.hid hnb
  have HBU := Lib.hid hbu
  clear hw hR hnb hbu
  have a0 : w.cell? ⟨J.q, 0, none⟩ = some (.pointer (some ⟨I.p, 0, none⟩)) := ha.blk.at 0
  have c3 := h.s3
  clear h ha
  go_enter Tryz.func176, Tryz.ntmps176
  go_wp2_with fail
  refine (thas_calls HH.out.tree hr).mono ?_
  rintro e w1 ⟨rfl, hg⟩
  have HG := Lib.hid hg
  replace HH := Lib.hid (HH.out.g hg)
  replace HA := Lib.hid (HA.out.kept0 hg)
  clear hg a0 c3
  obtain ⟨B1, hB1⟩ : ∃ B1, B1 = (σ.F root).isSome := ⟨_, rfl⟩
  rw [← hB1] at HR ⊢
  clear hB1
  cases B1 with
  | false =>
    have hr := HR.out
    rw [if_neg (by simp)] at hr
    subst hr
    go_wp2
    go_ret
    exact ⟨rfl, HG.out⟩
  | true =>
    have hr2 := HR.out
    rw [if_pos rfl] at hr2
    replace HR := Lib.hid hr2
    clear hr2
    have a0 : w1.cell? ⟨J.q, 0, none⟩ = some (.pointer (some ⟨I.p, 0, none⟩)) := HA.out.blk.at 0
    have a2 : w1.cell? ⟨J.q, 2, none⟩ = some (.map (some J.mb)) := HA.out.blk.at 2
    obtain ⟨D, hown, hHD, hsz⟩ := HA.out.buckets
    rw [HNB.out] at hsz hown
    have HOWN := Lib.hid hown
    have HHD := Lib.hid hHD
    clear hown hHD
    clear hsz
    go_wp2_with (first
      | (at_range; refine wpList_range_own _ rfl _ 120 rfl 27 27 (int_keyed Tryz.underlying27) Tryz.underlying120 rawE J.mb 0 D rfl HOWN.out ?_; intro w2 hrg hg hs))
    clear a0 a2
    refine wp_loop_rounds 1 ?_
    rw [rounds_succ]
    go_wp2_with (at_next; refine wpList_next_raw rfl _ rfl Tryz.underlying27 J.mb _ 0 D _ _ rfl hrg HHD.out ?_ ?_)
    · intro _ _
      replace HG := Lib.hid (g2 HG.out hg)
      replace HH := Lib.hid (HH.out.g hg)
      replace HA := Lib.hid (HA.out.kept0 hg)
      clear hg hs hrg HOWN HHD
      go_wp2_with fail
      obtain ⟨B2, hB2⟩ : ∃ B2, (σ.F σ.boosted).isSome = B2 := ⟨_, rfl⟩
      have HB2 := Lib.hid hB2
      clear hB2
      cases B2 with
      | false =>
        refine wp_region_late (fun wr => StoreAt wr I σ ∧ BktAt wr J I.p β) [] (by as_aux_lemma => kernel_rfl) ?_
        have hgd := gdrew (World.grownBy.refl w2 none)
        have hS : (fun wr => StoreAt wr I σ ∧ BktAt wr J I.p β) w2.drew := ⟨HH.out.g hgd, HA.out.kept0 hgd⟩
        replace HG := Lib.hid (g2 HG.out hgd)
        clear hgd HH HA
        generalize w2.drew = wl at hS HG ⊢
        refine wpAnyM_pure (i := 0) (v := ?_) rfl (by as_aux_lemma => kernel_rfl) (by as_aux_lemma => kernel_rfl) (by as_aux_lemma => kernel_rfl) (fun _ _ _ h => h) (Or.inl ⟨by rfl, ?_⟩) ?_
        rotate_left 1
        · intro w _; first | (go_simp; done) | (go_simp; with_reducible rfl)
        simp only [Act.put, List.setIfInBounds_toArray, List.set_cons_zero, List.set_cons_succ]
        refine wpAnyM_pure (i := 1) (v := ?_) rfl (by as_aux_lemma => kernel_rfl) (by as_aux_lemma => kernel_rfl) (by as_aux_lemma => kernel_rfl) (fun _ _ _ h => h) (Or.inl ⟨by rfl, ?_⟩) ?_
        rotate_left 1
        · intro w _; first | (go_simp; done) | (go_simp; with_reducible rfl)
        simp only [Act.put, List.setIfInBounds_toArray, List.set_cons_zero, List.set_cons_succ]
        refine wpAnyM_pure (i := 2) (v := ?_) rfl (by as_aux_lemma => kernel_rfl) (by as_aux_lemma => kernel_rfl) (by as_aux_lemma => kernel_rfl) (fun _ _ _ h => h) (Or.inl ⟨by rfl, ?_⟩) ?_
        rotate_left 1
        · intro w _; first | (go_simp; done) | (go_simp; with_reducible rfl)
        simp only [Act.put, List.setIfInBounds_toArray, List.set_cons_zero, List.set_cons_succ]
        refine wpAnyM_pure (i := 7) (v := ?_) rfl (by as_aux_lemma => kernel_rfl) (by as_aux_lemma => kernel_rfl) (by as_aux_lemma => kernel_rfl) (fun _ _ _ h => h) (Or.inl ⟨by rfl, ?_⟩) ?_
        rotate_left 1
        · intro w _; first | (go_simp; done) | (go_simp; with_reducible rfl)
        simp only [Act.put, List.setIfInBounds_toArray, List.set_cons_zero, List.set_cons_succ]
        refine wpAnyM_pure (i := 8) (v := ?_) rfl (by as_aux_lemma => kernel_rfl) (by as_aux_lemma => kernel_rfl) (by as_aux_lemma => kernel_rfl) (fun _ _ _ h => h) (Or.inl ⟨by rfl, ?_⟩) ?_
        rotate_left 1
        · intro w _; first | (go_simp; done) | (go_simp; with_reducible rfl)
        simp only [Act.put, List.setIfInBounds_toArray, List.set_cons_zero, List.set_cons_succ]
        refine wpAnyM_pure (i := 9) (v := ?_) rfl (by as_aux_lemma => kernel_rfl) (by as_aux_lemma => kernel_rfl) (by as_aux_lemma => kernel_rfl) (fun _ _ _ h => h) (Or.inl ⟨by rfl, ?_⟩) ?_
        rotate_left 1
        · intro w _; first | (go_simp; done) | (go_simp; with_reducible rfl)
        simp only [Act.put, List.setIfInBounds_toArray, List.set_cons_zero, List.set_cons_succ]
        refine wpAnyM_take (i := 3) (v := ?_) rfl (by as_aux_lemma => kernel_rfl) (by as_aux_lemma => kernel_rfl) (by as_aux_lemma => kernel_rfl) (by as_aux_lemma => kernel_rfl) (fun _ _ _ h => h) (Or.inl ⟨by rfl, ?_⟩) hS ?_
        rotate_left 1
        · intro w hSw; have a0 : w.cell? ⟨J.q, 0, none⟩ = some (.pointer (some ⟨I.p, 0, none⟩)) := hSw.2.blk.at 0; have a1 : w.cell? ⟨J.q, 1, none⟩ = some (.pointer (some ⟨J.lp, 0, none⟩)) := hSw.2.blk.at 1; have c3 := hSw.1.s3; have c6 := hSw.1.s6; first | (go_simp; done) | (go_simp; with_reducible rfl)
        simp only [Act.put, List.setIfInBounds_toArray, List.set_cons_zero, List.set_cons_succ]
        refine wpAnyM_pure (i := 4) (v := ?_) rfl (by as_aux_lemma => kernel_rfl) (by as_aux_lemma => kernel_rfl) (by as_aux_lemma => kernel_rfl) (fun _ _ _ h => h) (Or.inl ⟨by rfl, ?_⟩) ?_
        rotate_left 1
        · intro w _; first | (go_simp; done) | (go_simp; with_reducible rfl)
        simp only [Act.put, List.setIfInBounds_toArray, List.set_cons_zero, List.set_cons_succ]
        refine wpAnyM_pure (i := 5) (v := ?_) rfl (by as_aux_lemma => kernel_rfl) (by as_aux_lemma => kernel_rfl) (by as_aux_lemma => kernel_rfl) (fun _ _ _ h => h) (Or.inl ⟨by rfl, ?_⟩) ?_
        rotate_left 1
        · intro w _; first | (go_simp; done) | (go_simp; with_reducible rfl)
        simp only [Act.put, List.setIfInBounds_toArray, List.set_cons_zero, List.set_cons_succ]
        refine wpAnyM_take (i := 6) (v := ?_) rfl (by as_aux_lemma => kernel_rfl) (by as_aux_lemma => kernel_rfl) (by as_aux_lemma => kernel_rfl) (by as_aux_lemma => kernel_rfl) (fun _ _ _ h => h) (Or.inl ⟨by rfl, ?_⟩) hS ?_
        rotate_left 1
        · intro w hSw; have a0 : w.cell? ⟨J.q, 0, none⟩ = some (.pointer (some ⟨I.p, 0, none⟩)) := hSw.2.blk.at 0; have a1 : w.cell? ⟨J.q, 1, none⟩ = some (.pointer (some ⟨J.lp, 0, none⟩)) := hSw.2.blk.at 1; have c3 := hSw.1.s3; have c6 := hSw.1.s6; first | (go_simp; done) | (go_simp; with_reducible rfl)
        simp only [Act.put, List.setIfInBounds_toArray, List.set_cons_zero, List.set_cons_succ]
        refine wpAnyM_take (i := 10) (v := ?_) rfl (by as_aux_lemma => kernel_rfl) (by as_aux_lemma => kernel_rfl) (by as_aux_lemma => kernel_rfl) (by as_aux_lemma => kernel_rfl) (fun _ _ _ h => h) (Or.inl ⟨by rfl, ?_⟩) hS ?_
        rotate_left 1
        · intro w hSw; have a0 : w.cell? ⟨J.q, 0, none⟩ = some (.pointer (some ⟨I.p, 0, none⟩)) := hSw.2.blk.at 0; have a1 : w.cell? ⟨J.q, 1, none⟩ = some (.pointer (some ⟨J.lp, 0, none⟩)) := hSw.2.blk.at 1; have c3 := hSw.1.s3; have c6 := hSw.1.s6; first | (go_simp; done) | (go_simp; with_reducible rfl)
        simp only [Act.put, List.setIfInBounds_toArray, List.set_cons_zero, List.set_cons_succ]
        refine wpAnyM_pure (i := 11) (v := ?_) rfl (by as_aux_lemma => kernel_rfl) (by as_aux_lemma => kernel_rfl) (by as_aux_lemma => kernel_rfl) (fun _ _ _ h => h) (Or.inl ⟨by rfl, ?_⟩) ?_
        rotate_left 1
        · intro w _; first | (go_simp; done) | (go_simp; with_reducible rfl)
        simp only [Act.put, List.setIfInBounds_toArray, List.set_cons_zero, List.set_cons_succ]
        refine wpAnyM_pure (i := 12) (v := ?_) rfl (by as_aux_lemma => kernel_rfl) (by as_aux_lemma => kernel_rfl) (by as_aux_lemma => kernel_rfl) (fun _ _ _ h => h) (Or.inl ⟨by rfl, ?_⟩) ?_
        rotate_left 1
        · intro w _; first | (go_simp; done) | (go_simp; with_reducible rfl)
        simp only [Act.put, List.setIfInBounds_toArray, List.set_cons_zero, List.set_cons_succ]
        refine wpAnyM_take (i := 13) (v := ?_) rfl (by as_aux_lemma => kernel_rfl) (by as_aux_lemma => kernel_rfl) (by as_aux_lemma => kernel_rfl) (by as_aux_lemma => kernel_rfl) (fun _ _ _ h => h) (Or.inl ⟨by rfl, ?_⟩) hS ?_
        rotate_left 1
        · intro w hSw; have a0 : w.cell? ⟨J.q, 0, none⟩ = some (.pointer (some ⟨I.p, 0, none⟩)) := hSw.2.blk.at 0; have a1 : w.cell? ⟨J.q, 1, none⟩ = some (.pointer (some ⟨J.lp, 0, none⟩)) := hSw.2.blk.at 1; have c3 := hSw.1.s3; have c6 := hSw.1.s6; first | (go_simp; done) | (go_simp; with_reducible rfl)
        simp only [Act.put, List.setIfInBounds_toArray, List.set_cons_zero, List.set_cons_succ]
        refine wpAnyM_ready (rs := [14]) (by as_aux_lemma => kernel_rfl) (by simp) ?_
        refine (AllReadyM.cons (i := 14) rfl (fun K hK => ?_) AllReadyM.nil)
        go_simp
        refine (thas_calls hS.1.tree hbo).mono ?_
        rintro e wl ⟨rfl, hg⟩
        rw [HB2.out]
        have hS2 : (fun wr => StoreAt wr I σ ∧ BktAt wr J I.p β) wl := And.intro (hS.1.g hg) (hS.2.kept0 hg)
        replace HG := Lib.hid (g2 HG.out hg)
        clear hg
        refine hK.out _ _ (.inl (fun _ => hS2)) ?_
        clear hK K hS
        have hS := hS2
        clear hS2
        try simp only [Act.put, List.setIfInBounds_toArray, List.set_cons_zero, List.set_cons_succ]
        refine wpAnyM_pure (i := 15) (v := ?_) rfl (by as_aux_lemma => kernel_rfl) (by as_aux_lemma => kernel_rfl) (by as_aux_lemma => kernel_rfl) (fun _ _ _ h => h) (Or.inl ⟨by rfl, ?_⟩) ?_
        rotate_left 1
        · intro w _; first | (go_simp; done) | (go_simp; with_reducible rfl)
        simp only [Act.put, List.setIfInBounds_toArray, List.set_cons_zero, List.set_cons_succ]
        refine wpAnyM_pure (i := 16) (v := undef) rfl (by as_aux_lemma => kernel_rfl) (by as_aux_lemma => kernel_rfl) (by as_aux_lemma => kernel_rfl) (fun _ _ _ h => h) (Or.inr ⟨by rfl, rfl⟩) ?_
        simp only [Act.put, List.setIfInBounds_toArray, List.set_cons_zero, List.set_cons_succ]
        refine wpAnyM_pure (i := 17) (v := undef) rfl (by as_aux_lemma => kernel_rfl) (by as_aux_lemma => kernel_rfl) (by as_aux_lemma => kernel_rfl) (fun _ _ _ h => h) (Or.inr ⟨by rfl, rfl⟩) ?_
        simp only [Act.put, List.setIfInBounds_toArray, List.set_cons_zero, List.set_cons_succ]
        refine wpAnyM_pure (i := 18) (v := undef) rfl (by as_aux_lemma => kernel_rfl) (by as_aux_lemma => kernel_rfl) (by as_aux_lemma => kernel_rfl) (fun _ _ _ h => h) (Or.inr ⟨by rfl, rfl⟩) ?_
        simp only [Act.put, List.setIfInBounds_toArray, List.set_cons_zero, List.set_cons_succ]
        refine wpAnyM_pure (i := 19) (v := undef) rfl (by as_aux_lemma => kernel_rfl) (by as_aux_lemma => kernel_rfl) (by as_aux_lemma => kernel_rfl) (fun _ _ _ h => h) (Or.inr ⟨by rfl, rfl⟩) ?_
        simp only [Act.put, List.setIfInBounds_toArray, List.set_cons_zero, List.set_cons_succ]
        refine wpAnyM_pure (i := 20) (v := undef) rfl (by as_aux_lemma => kernel_rfl) (by as_aux_lemma => kernel_rfl) (by as_aux_lemma => kernel_rfl) (fun _ _ _ h => h) (Or.inr ⟨by rfl, rfl⟩) ?_
        simp only [Act.put, List.setIfInBounds_toArray, List.set_cons_zero, List.set_cons_succ]
        refine wpAnyM_pure (i := 21) (v := undef) rfl (by as_aux_lemma => kernel_rfl) (by as_aux_lemma => kernel_rfl) (by as_aux_lemma => kernel_rfl) (fun _ _ _ h => h) (Or.inr ⟨by rfl, rfl⟩) ?_
        simp only [Act.put, List.setIfInBounds_toArray, List.set_cons_zero, List.set_cons_succ]
        refine wpAnyM_pure (i := 22) (v := undef) rfl (by as_aux_lemma => kernel_rfl) (by as_aux_lemma => kernel_rfl) (by as_aux_lemma => kernel_rfl) (fun _ _ _ h => h) (Or.inr ⟨by rfl, rfl⟩) ?_
        simp only [Act.put, List.setIfInBounds_toArray, List.set_cons_zero, List.set_cons_succ]
        refine wpAnyM_pure (i := 23) (v := undef) rfl (by as_aux_lemma => kernel_rfl) (by as_aux_lemma => kernel_rfl) (by as_aux_lemma => kernel_rfl) (fun _ _ _ h => h) (Or.inr ⟨by rfl, rfl⟩) ?_
        simp only [Act.put, List.setIfInBounds_toArray, List.set_cons_zero, List.set_cons_succ]
        refine wpAnyM_pure (i := 24) (v := undef) rfl (by as_aux_lemma => kernel_rfl) (by as_aux_lemma => kernel_rfl) (by as_aux_lemma => kernel_rfl) (fun _ _ _ h => h) (Or.inr ⟨by rfl, rfl⟩) ?_
        simp only [Act.put, List.setIfInBounds_toArray, List.set_cons_zero, List.set_cons_succ]
        refine wpAnyM_pure (i := 25) (v := undef) rfl (by as_aux_lemma => kernel_rfl) (by as_aux_lemma => kernel_rfl) (by as_aux_lemma => kernel_rfl) (fun _ _ _ h => h) (Or.inr ⟨by rfl, rfl⟩) ?_
        simp only [Act.put, List.setIfInBounds_toArray, List.set_cons_zero, List.set_cons_succ]
        refine wpAnyM_pure (i := 26) (v := undef) rfl (by as_aux_lemma => kernel_rfl) (by as_aux_lemma => kernel_rfl) (by as_aux_lemma => kernel_rfl) (fun _ _ _ h => h) (Or.inr ⟨by rfl, rfl⟩) ?_
        simp only [Act.put, List.setIfInBounds_toArray, List.set_cons_zero, List.set_cons_succ]
        refine wpAnyM_pure (i := 27) (v := undef) rfl (by as_aux_lemma => kernel_rfl) (by as_aux_lemma => kernel_rfl) (by as_aux_lemma => kernel_rfl) (fun _ _ _ h => h) (Or.inr ⟨by rfl, rfl⟩) ?_
        simp only [Act.put, List.setIfInBounds_toArray, List.set_cons_zero, List.set_cons_succ]
        refine wpAnyM_pure (i := 28) (v := undef) rfl (by as_aux_lemma => kernel_rfl) (by as_aux_lemma => kernel_rfl) (by as_aux_lemma => kernel_rfl) (fun _ _ _ h => h) (Or.inr ⟨by rfl, rfl⟩) ?_
        simp only [Act.put, List.setIfInBounds_toArray, List.set_cons_zero, List.set_cons_succ]
        refine wpAnyM_pure (i := 29) (v := ?_) rfl (by as_aux_lemma => kernel_rfl) (by as_aux_lemma => kernel_rfl) (by as_aux_lemma => kernel_rfl) (fun _ _ _ h => h) (Or.inl ⟨by rfl, ?_⟩) ?_
        rotate_left 1
        · intro w _; first | (go_simp; done) | (go_simp; with_reducible rfl)
        simp only [Act.put, List.setIfInBounds_toArray, List.set_cons_zero, List.set_cons_succ]
        refine wpAnyM_done (by as_aux_lemma => kernel_rfl) ?_ _
        have HH := Lib.hid hS.1
        have HA := Lib.hid hS.2
        clear hS
        have hr2 := HR.out
        rw [HB2.out, Bool.false_and, if_neg (by simp)] at hr2
        subst hr2
        go_wp2
        go_ret
        exact ⟨rfl, HG.out⟩
      | true =>
        refine wp_region_late (fun wr => StoreAt wr I σ ∧ BktAt wr J I.p β) [] (by as_aux_lemma => kernel_rfl) ?_
        have hgd := gdrew (World.grownBy.refl w2 none)
        have hS : (fun wr => StoreAt wr I σ ∧ BktAt wr J I.p β) w2.drew := ⟨HH.out.g hgd, HA.out.kept0 hgd⟩
        replace HG := Lib.hid (g2 HG.out hgd)
        clear hgd HH HA
        generalize w2.drew = wl at hS HG ⊢
        refine wpAnyM_pure (i := 0) (v := ?_) rfl (by as_aux_lemma => kernel_rfl) (by as_aux_lemma => kernel_rfl) (by as_aux_lemma => kernel_rfl) (fun _ _ _ h => h) (Or.inl ⟨by rfl, ?_⟩) ?_
        rotate_left 1
        · intro w _; first | (go_simp; done) | (go_simp; with_reducible rfl)
        simp only [Act.put, List.setIfInBounds_toArray, List.set_cons_zero, List.set_cons_succ]
        refine wpAnyM_pure (i := 1) (v := ?_) rfl (by as_aux_lemma => kernel_rfl) (by as_aux_lemma => kernel_rfl) (by as_aux_lemma => kernel_rfl) (fun _ _ _ h => h) (Or.inl ⟨by rfl, ?_⟩) ?_
        rotate_left 1
        · intro w _; first | (go_simp; done) | (go_simp; with_reducible rfl)
        simp only [Act.put, List.setIfInBounds_toArray, List.set_cons_zero, List.set_cons_succ]
        refine wpAnyM_pure (i := 2) (v := ?_) rfl (by as_aux_lemma => kernel_rfl) (by as_aux_lemma => kernel_rfl) (by as_aux_lemma => kernel_rfl) (fun _ _ _ h => h) (Or.inl ⟨by rfl, ?_⟩) ?_
        rotate_left 1
        · intro w _; first | (go_simp; done) | (go_simp; with_reducible rfl)
        simp only [Act.put, List.setIfInBounds_toArray, List.set_cons_zero, List.set_cons_succ]
        refine wpAnyM_pure (i := 7) (v := ?_) rfl (by as_aux_lemma => kernel_rfl) (by as_aux_lemma => kernel_rfl) (by as_aux_lemma => kernel_rfl) (fun _ _ _ h => h) (Or.inl ⟨by rfl, ?_⟩) ?_
        rotate_left 1
        · intro w _; first | (go_simp; done) | (go_simp; with_reducible rfl)
        simp only [Act.put, List.setIfInBounds_toArray, List.set_cons_zero, List.set_cons_succ]
        refine wpAnyM_pure (i := 8) (v := ?_) rfl (by as_aux_lemma => kernel_rfl) (by as_aux_lemma => kernel_rfl) (by as_aux_lemma => kernel_rfl) (fun _ _ _ h => h) (Or.inl ⟨by rfl, ?_⟩) ?_
        rotate_left 1
        · intro w _; first | (go_simp; done) | (go_simp; with_reducible rfl)
        simp only [Act.put, List.setIfInBounds_toArray, List.set_cons_zero, List.set_cons_succ]
        refine wpAnyM_pure (i := 9) (v := ?_) rfl (by as_aux_lemma => kernel_rfl) (by as_aux_lemma => kernel_rfl) (by as_aux_lemma => kernel_rfl) (fun _ _ _ h => h) (Or.inl ⟨by rfl, ?_⟩) ?_
        rotate_left 1
        · intro w _; first | (go_simp; done) | (go_simp; with_reducible rfl)
        simp only [Act.put, List.setIfInBounds_toArray, List.set_cons_zero, List.set_cons_succ]
        refine wpAnyM_take (i := 3) (v := ?_) rfl (by as_aux_lemma => kernel_rfl) (by as_aux_lemma => kernel_rfl) (by as_aux_lemma => kernel_rfl) (by as_aux_lemma => kernel_rfl) (fun _ _ _ h => h) (Or.inl ⟨by rfl, ?_⟩) hS ?_
        rotate_left 1
        · intro w hSw; have a0 : w.cell? ⟨J.q, 0, none⟩ = some (.pointer (some ⟨I.p, 0, none⟩)) := hSw.2.blk.at 0; have a1 : w.cell? ⟨J.q, 1, none⟩ = some (.pointer (some ⟨J.lp, 0, none⟩)) := hSw.2.blk.at 1; have c3 := hSw.1.s3; have c6 := hSw.1.s6; first | (go_simp; done) | (go_simp; with_reducible rfl)
        simp only [Act.put, List.setIfInBounds_toArray, List.set_cons_zero, List.set_cons_succ]
        refine wpAnyM_pure (i := 4) (v := ?_) rfl (by as_aux_lemma => kernel_rfl) (by as_aux_lemma => kernel_rfl) (by as_aux_lemma => kernel_rfl) (fun _ _ _ h => h) (Or.inl ⟨by rfl, ?_⟩) ?_
        rotate_left 1
        · intro w _; first | (go_simp; done) | (go_simp; with_reducible rfl)
        simp only [Act.put, List.setIfInBounds_toArray, List.set_cons_zero, List.set_cons_succ]
        refine wpAnyM_pure (i := 5) (v := ?_) rfl (by as_aux_lemma => kernel_rfl) (by as_aux_lemma => kernel_rfl) (by as_aux_lemma => kernel_rfl) (fun _ _ _ h => h) (Or.inl ⟨by rfl, ?_⟩) ?_
        rotate_left 1
        · intro w _; first | (go_simp; done) | (go_simp; with_reducible rfl)
        simp only [Act.put, List.setIfInBounds_toArray, List.set_cons_zero, List.set_cons_succ]
        refine wpAnyM_take (i := 6) (v := ?_) rfl (by as_aux_lemma => kernel_rfl) (by as_aux_lemma => kernel_rfl) (by as_aux_lemma => kernel_rfl) (by as_aux_lemma => kernel_rfl) (fun _ _ _ h => h) (Or.inl ⟨by rfl, ?_⟩) hS ?_
        rotate_left 1
        · intro w hSw; have a0 : w.cell? ⟨J.q, 0, none⟩ = some (.pointer (some ⟨I.p, 0, none⟩)) := hSw.2.blk.at 0; have a1 : w.cell? ⟨J.q, 1, none⟩ = some (.pointer (some ⟨J.lp, 0, none⟩)) := hSw.2.blk.at 1; have c3 := hSw.1.s3; have c6 := hSw.1.s6; first | (go_simp; done) | (go_simp; with_reducible rfl)
        simp only [Act.put, List.setIfInBounds_toArray, List.set_cons_zero, List.set_cons_succ]
        refine wpAnyM_take (i := 10) (v := ?_) rfl (by as_aux_lemma => kernel_rfl) (by as_aux_lemma => kernel_rfl) (by as_aux_lemma => kernel_rfl) (by as_aux_lemma => kernel_rfl) (fun _ _ _ h => h) (Or.inl ⟨by rfl, ?_⟩) hS ?_
        rotate_left 1
        · intro w hSw; have a0 : w.cell? ⟨J.q, 0, none⟩ = some (.pointer (some ⟨I.p, 0, none⟩)) := hSw.2.blk.at 0; have a1 : w.cell? ⟨J.q, 1, none⟩ = some (.pointer (some ⟨J.lp, 0, none⟩)) := hSw.2.blk.at 1; have c3 := hSw.1.s3; have c6 := hSw.1.s6; first | (go_simp; done) | (go_simp; with_reducible rfl)
        simp only [Act.put, List.setIfInBounds_toArray, List.set_cons_zero, List.set_cons_succ]
        refine wpAnyM_pure (i := 11) (v := ?_) rfl (by as_aux_lemma => kernel_rfl) (by as_aux_lemma => kernel_rfl) (by as_aux_lemma => kernel_rfl) (fun _ _ _ h => h) (Or.inl ⟨by rfl, ?_⟩) ?_
        rotate_left 1
        · intro w _; first | (go_simp; done) | (go_simp; with_reducible rfl)
        simp only [Act.put, List.setIfInBounds_toArray, List.set_cons_zero, List.set_cons_succ]
        refine wpAnyM_pure (i := 12) (v := ?_) rfl (by as_aux_lemma => kernel_rfl) (by as_aux_lemma => kernel_rfl) (by as_aux_lemma => kernel_rfl) (fun _ _ _ h => h) (Or.inl ⟨by rfl, ?_⟩) ?_
        rotate_left 1
        · intro w _; first | (go_simp; done) | (go_simp; with_reducible rfl)
        simp only [Act.put, List.setIfInBounds_toArray, List.set_cons_zero, List.set_cons_succ]
        refine wpAnyM_take (i := 13) (v := ?_) rfl (by as_aux_lemma => kernel_rfl) (by as_aux_lemma => kernel_rfl) (by as_aux_lemma => kernel_rfl) (by as_aux_lemma => kernel_rfl) (fun _ _ _ h => h) (Or.inl ⟨by rfl, ?_⟩) hS ?_
        rotate_left 1
        · intro w hSw; have a0 : w.cell? ⟨J.q, 0, none⟩ = some (.pointer (some ⟨I.p, 0, none⟩)) := hSw.2.blk.at 0; have a1 : w.cell? ⟨J.q, 1, none⟩ = some (.pointer (some ⟨J.lp, 0, none⟩)) := hSw.2.blk.at 1; have c3 := hSw.1.s3; have c6 := hSw.1.s6; first | (go_simp; done) | (go_simp; with_reducible rfl)
        simp only [Act.put, List.setIfInBounds_toArray, List.set_cons_zero, List.set_cons_succ]
        refine wpAnyM_ready (rs := [14]) (by as_aux_lemma => kernel_rfl) (by simp) ?_
        refine (AllReadyM.cons (i := 14) rfl (fun K hK => ?_) AllReadyM.nil)
        go_simp
        refine (thas_calls hS.1.tree hbo).mono ?_
        rintro e wl ⟨rfl, hg⟩
        rw [HB2.out]
        have hS2 : (fun wr => StoreAt wr I σ ∧ BktAt wr J I.p β) wl := And.intro (hS.1.g hg) (hS.2.kept0 hg)
        replace HG := Lib.hid (g2 HG.out hg)
        clear hg
        refine hK.out _ _ (.inl (fun _ => hS2)) ?_
        clear hK K hS
        have hS := hS2
        clear hS2
        try simp only [Act.put, List.setIfInBounds_toArray, List.set_cons_zero, List.set_cons_succ]
        refine wpAnyM_pure (i := 15) (v := ?_) rfl (by as_aux_lemma => kernel_rfl) (by as_aux_lemma => kernel_rfl) (by as_aux_lemma => kernel_rfl) (fun _ _ _ h => h) (Or.inl ⟨by rfl, ?_⟩) ?_
        rotate_left 1
        · intro w _; first | (go_simp; done) | (go_simp; with_reducible rfl)
        simp only [Act.put, List.setIfInBounds_toArray, List.set_cons_zero, List.set_cons_succ]
        refine wpAnyM_pure (i := 16) (v := ?_) rfl (by as_aux_lemma => kernel_rfl) (by as_aux_lemma => kernel_rfl) (by as_aux_lemma => kernel_rfl) (fun _ _ _ h => h) (Or.inl ⟨by rfl, ?_⟩) ?_
        rotate_left 1
        · intro w _; first | (go_simp; done) | (go_simp; with_reducible rfl)
        simp only [Act.put, List.setIfInBounds_toArray, List.set_cons_zero, List.set_cons_succ]
        refine wpAnyM_pure (i := 17) (v := ?_) rfl (by as_aux_lemma => kernel_rfl) (by as_aux_lemma => kernel_rfl) (by as_aux_lemma => kernel_rfl) (fun _ _ _ h => h) (Or.inl ⟨by rfl, ?_⟩) ?_
        rotate_left 1
        · intro w _; first | (go_simp; done) | (go_simp; with_reducible rfl)
        simp only [Act.put, List.setIfInBounds_toArray, List.set_cons_zero, List.set_cons_succ]
        refine wpAnyM_pure (i := 18) (v := ?_) rfl (by as_aux_lemma => kernel_rfl) (by as_aux_lemma => kernel_rfl) (by as_aux_lemma => kernel_rfl) (fun _ _ _ h => h) (Or.inl ⟨by rfl, ?_⟩) ?_
        rotate_left 1
        · intro w _; first | (go_simp; done) | (go_simp; with_reducible rfl)
        simp only [Act.put, List.setIfInBounds_toArray, List.set_cons_zero, List.set_cons_succ]
        refine wpAnyM_pure (i := 20) (v := ?_) rfl (by as_aux_lemma => kernel_rfl) (by as_aux_lemma => kernel_rfl) (by as_aux_lemma => kernel_rfl) (fun _ _ _ h => h) (Or.inl ⟨by rfl, ?_⟩) ?_
        rotate_left 1
        · intro w _; first | (go_simp; done) | (go_simp; with_reducible rfl)
        simp only [Act.put, List.setIfInBounds_toArray, List.set_cons_zero, List.set_cons_succ]
        refine wpAnyM_pure (i := 21) (v := ?_) rfl (by as_aux_lemma => kernel_rfl) (by as_aux_lemma => kernel_rfl) (by as_aux_lemma => kernel_rfl) (fun _ _ _ h => h) (Or.inl ⟨by rfl, ?_⟩) ?_
        rotate_left 1
        · intro w _; first | (go_simp; done) | (go_simp; with_reducible rfl)
        simp only [Act.put, List.setIfInBounds_toArray, List.set_cons_zero, List.set_cons_succ]
        refine wpAnyM_pure (i := 22) (v := ?_) rfl (by as_aux_lemma => kernel_rfl) (by as_aux_lemma => kernel_rfl) (by as_aux_lemma => kernel_rfl) (fun _ _ _ h => h) (Or.inl ⟨by rfl, ?_⟩) ?_
        rotate_left 1
        · intro w _; first | (go_simp; done) | (go_simp; with_reducible rfl)
        simp only [Act.put, List.setIfInBounds_toArray, List.set_cons_zero, List.set_cons_succ]
        refine wpAnyM_pure (i := 27) (v := ?_) rfl (by as_aux_lemma => kernel_rfl) (by as_aux_lemma => kernel_rfl) (by as_aux_lemma => kernel_rfl) (fun _ _ _ h => h) (Or.inl ⟨by rfl, ?_⟩) ?_
        rotate_left 1
        · intro w _; first | (go_simp; done) | (go_simp; with_reducible rfl)
        simp only [Act.put, List.setIfInBounds_toArray, List.set_cons_zero, List.set_cons_succ]
        refine wpAnyM_take (i := 19) (v := ?_) rfl (by as_aux_lemma => kernel_rfl) (by as_aux_lemma => kernel_rfl) (by as_aux_lemma => kernel_rfl) (by as_aux_lemma => kernel_rfl) (fun _ _ _ h => h) (Or.inl ⟨by rfl, ?_⟩) hS ?_
        rotate_left 1
        · intro w hSw; have a0 : w.cell? ⟨J.q, 0, none⟩ = some (.pointer (some ⟨I.p, 0, none⟩)) := hSw.2.blk.at 0; have a1 : w.cell? ⟨J.q, 1, none⟩ = some (.pointer (some ⟨J.lp, 0, none⟩)) := hSw.2.blk.at 1; have c3 := hSw.1.s3; have c6 := hSw.1.s6; first | (go_simp; done) | (go_simp; with_reducible rfl)
        simp only [Act.put, List.setIfInBounds_toArray, List.set_cons_zero, List.set_cons_succ]
        refine wpAnyM_take (i := 23) (v := ?_) rfl (by as_aux_lemma => kernel_rfl) (by as_aux_lemma => kernel_rfl) (by as_aux_lemma => kernel_rfl) (by as_aux_lemma => kernel_rfl) (fun _ _ _ h => h) (Or.inl ⟨by rfl, ?_⟩) hS ?_
        rotate_left 1
        · intro w hSw; have a0 : w.cell? ⟨J.q, 0, none⟩ = some (.pointer (some ⟨I.p, 0, none⟩)) := hSw.2.blk.at 0; have a1 : w.cell? ⟨J.q, 1, none⟩ = some (.pointer (some ⟨J.lp, 0, none⟩)) := hSw.2.blk.at 1; have c3 := hSw.1.s3; have c6 := hSw.1.s6; first | (go_simp; done) | (go_simp; with_reducible rfl)
        simp only [Act.put, List.setIfInBounds_toArray, List.set_cons_zero, List.set_cons_succ]
        refine wpAnyM_pure (i := 24) (v := ?_) rfl (by as_aux_lemma => kernel_rfl) (by as_aux_lemma => kernel_rfl) (by as_aux_lemma => kernel_rfl) (fun _ _ _ h => h) (Or.inl ⟨by rfl, ?_⟩) ?_
        rotate_left 1
        · intro w _; first | (go_simp; done) | (go_simp; with_reducible rfl)
        simp only [Act.put, List.setIfInBounds_toArray, List.set_cons_zero, List.set_cons_succ]
        refine wpAnyM_pure (i := 25) (v := ?_) rfl (by as_aux_lemma => kernel_rfl) (by as_aux_lemma => kernel_rfl) (by as_aux_lemma => kernel_rfl) (fun _ _ _ h => h) (Or.inl ⟨by rfl, ?_⟩) ?_
        rotate_left 1
        · intro w _; first | (go_simp; done) | (go_simp; with_reducible rfl)
        simp only [Act.put, List.setIfInBounds_toArray, List.set_cons_zero, List.set_cons_succ]
        refine wpAnyM_take (i := 26) (v := ?_) rfl (by as_aux_lemma => kernel_rfl) (by as_aux_lemma => kernel_rfl) (by as_aux_lemma => kernel_rfl) (by as_aux_lemma => kernel_rfl) (fun _ _ _ h => h) (Or.inl ⟨by rfl, ?_⟩) hS ?_
        rotate_left 1
        · intro w hSw; have a0 : w.cell? ⟨J.q, 0, none⟩ = some (.pointer (some ⟨I.p, 0, none⟩)) := hSw.2.blk.at 0; have a1 : w.cell? ⟨J.q, 1, none⟩ = some (.pointer (some ⟨J.lp, 0, none⟩)) := hSw.2.blk.at 1; have c3 := hSw.1.s3; have c6 := hSw.1.s6; first | (go_simp; done) | (go_simp; with_reducible rfl)
        simp only [Act.put, List.setIfInBounds_toArray, List.set_cons_zero, List.set_cons_succ]
        refine wpAnyM_ready (rs := [28]) (by as_aux_lemma => kernel_rfl) (by simp) ?_
        refine (AllReadyM.cons (i := 28) rfl (fun K hK => ?_) AllReadyM.nil)
        go_simp
        refine (below_calls hS.2.list (fun j hj => (hS.2.lokb j hj).1) hS.2.tree hS.2.keys hbo hr).mono ?_
        rintro e wl ⟨rfl, hg⟩
        have hS2 : (fun wr => StoreAt wr I σ ∧ BktAt wr J I.p β) wl := And.intro (hS.1.g hg) (hS.2.kept0 hg)
        replace HG := Lib.hid (g2 HG.out hg)
        clear hg
        refine hK.out _ _ (.inl (fun _ => hS2)) ?_
        clear hK K hS
        have hS := hS2
        clear hS2
        try simp only [Act.put, List.setIfInBounds_toArray, List.set_cons_zero, List.set_cons_succ]
        refine wpAnyM_pure (i := 29) (v := ?_) rfl (by as_aux_lemma => kernel_rfl) (by as_aux_lemma => kernel_rfl) (by as_aux_lemma => kernel_rfl) (fun _ _ _ h => h) (Or.inl ⟨by rfl, ?_⟩) ?_
        rotate_left 1
        · intro w _; first | (go_simp; done) | (go_simp; with_reducible rfl)
        simp only [Act.put, List.setIfInBounds_toArray, List.set_cons_zero, List.set_cons_succ]
        refine wpAnyM_done (by as_aux_lemma => kernel_rfl) ?_ _
        have HH := Lib.hid hS.1
        have HA := Lib.hid hS.2
        clear hS
        have hr2 := HR.out
        rw [HB2.out, Bool.true_and] at hr2
        replace HR := Lib.hid hr2
        clear hr2
        obtain ⟨B3, hB3⟩ : ∃ B3, B3 = belowF β.hgt β.par σ.boosted root := ⟨_, rfl⟩
        rw [← hB3] at HR ⊢
        clear hB3
        cases B3 with
        | false =>
          have hr2 := HR.out
          rw [if_neg (by simp)] at hr2
          subst hr2
          go_wp2
          go_ret
          exact ⟨rfl, HG.out⟩
        | true =>
          have hr2 := HR.out
          rw [if_pos rfl] at hr2
          obtain ⟨bo, hboo⟩ : ∃ bo, bo = boostF σ.bs σ.S σ.B := ⟨_, rfl⟩
          rw [← hboo] at hr2 hbb
          have HBO := Lib.hid hboo
          subst hr2
          clear hboo HR
          obtain ⟨hb0, hb1⟩ := hbb
          have a0 : wl.cell? ⟨J.q, 0, none⟩ = some (.pointer (some ⟨I.p, 0, none⟩)) := HA.out.blk.at 0
          have c0 := HH.out.s0
          have c1 := HH.out.s1
          have c2 := HH.out.s2
          go_wp2_with fail
          refine (boost_calls HH.out.bal rfl HW.out.may).mono ?_
          rintro e w9 ⟨rfl, hg⟩
          rw [← HBO.out]
          replace HG := Lib.hid (g2 HG.out hg)
          have hw0 : IntKind.u64.wrap (0 + R) = R := by simp [IntKind.wrap, IntKind.signed, IntKind.bits]; omega
          clear hg a0 c0 c1 c2
          go_wp2
          go_ret
          exact ⟨by simp, HG.out⟩
    · intro x v w' cnt' _ _ hF
      rw [HBU.out] at hF
      cases hF
end
end Go.Proofs.YtndfpmboanohcaaGreatDoor
