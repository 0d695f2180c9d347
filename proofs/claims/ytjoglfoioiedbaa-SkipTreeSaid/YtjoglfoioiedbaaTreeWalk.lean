/- The walk of SkipTree. -/
import Derived.Test.YtjoglfoioiedbaaTreeCtx
namespace Go.Proofs.Ytjoglfoioiedbaa
open Go.RowKit Go.Maps SkipPure

/-- After the blocks are laid: from the model's box on. -/
theorem TAdd.done {w0 w : World} {p b g c q L : Nat} {P S : Int → Int} (h : TAdd w0 w p b g c q L L P S) : ∃ hgt par, TAt w0 w p b g c q L hgt par P S := by
  obtain ⟨⟨hgt, par, h1⟩, h2, _⟩ := h
  exact ⟨hgt, par, h1, h2⟩

set_option maxRecDepth 100000 in
set_option maxHeartbeats 8000000 in
theorem tree_walk (w : World) (ar : Option Addr) (len cap : Nat) (ha : ArgU8 w ar len) (hlen : len ≤ 140737488351232) :
    Calls Try.prog 8 #[.slice ar len cap] w fun e w' => e = .returned (.bool true) ∧ w.grownBy w' none := by
  have HA := Lib.hid ha
  clear ha
  go_enter Try.func8, Try.ntmps8
  go_wp2_with fail
  refine (awake_calls w).mono ?_
  rintro e w0 ⟨rfl, hg0⟩
  have HG0 := Lib.hid hg0
  clear hg0
  go_wp2_with fail
  refine (of_H HG0.out (small_inU (by omega) (by omega))).mono ?_
  rintro e w1 ⟨p, b, rfl, hs, hg⟩
  have HS := Lib.hid hs
  clear hs hg
  go_wp2_with fail
  have ha1' : ArgU8 w1 ar len := fun i hi => by
    obtain ⟨ad, x, h1, h2, h3⟩ := HA.out i hi
    exact ⟨ad, x, h1, HS.out.grown.cell h2 (by simp), h3⟩
  refine (made_calls w1 ar len cap ha1' hlen).mono ?_
  rintro e w2 ⟨tp, tb, g, c, L, P, S, H, rfl, hm⟩
  obtain ⟨hL0, hL1, hLc⟩ := LawAt.start HS.out hm
  have hL31 := hL0.2.2.2.2.1
  have hbq : b < w2.heap.size := by
    obtain ⟨ok, h1, h2, _⟩ := hL0.1
    exact (h2 b h1.2.1).2
  have hTA : TAdd w (w2.alloc (Obj.cells #[.slice (some ⟨g, 0, none⟩) L c] 41)) p b g c w2.heap.size L 1 P S :=
    ⟨⟨_, _, hL0.kept (World.grownBy_alloc w2 _ none)⟩, (MapKept.heap_alloc w2 _).1, hbq⟩
  have HTA := Lib.hid hTA
  clear hL0 hm ha1' hTA
  have cq0 : (w2.alloc (Obj.cells #[.slice (some ⟨g, 0, none⟩) L c] 41)).cell? ⟨w2.heap.size, 0, none⟩ = some (.slice (some ⟨g, 0, none⟩) L c) := cel HTA.out.2.1 0
  go_wp2
  -- TWO WAYS
  · have hc1 : c = 1 := by assumption
    subst hc1
    go_loopw [34] (fun v34 wr => ∃ i : Nat, v34 = .int .i64 (i : Int) ∧ i + 1 ≤ L ∧ TAdd w wr p b g 1 w2.heap.size L (i + 1) P S) (fun v34 _ => 40 - (intOf v34).toNat)
    case atStart => exact ⟨0, rfl, hL1, HTA.out⟩
    case round =>
      obtain ⟨i, rfl, hi, hl⟩ := hrel
      by_cases hlt : i < L - 1
      · exfalso; omega
      · have hiL : i + 1 = L := by omega
        rw [hiL] at hl
        obtain ⟨hgt, par, hT⟩ := hl.done
        have c5 := hT.cell
        have HT := Lib.hid hT
        clear hl hT hiL
        obtain ⟨q, hqe⟩ : ∃ q, q = w2.heap.size := ⟨_, rfl⟩
        rw [← hqe] at HT c5 ⊢
        clear HTA cq0 hbq
        clear hqe
        obtain ⟨wa, rfl⟩ : ∃ wa : World, wa = wr := ⟨_, rfl⟩
        go_wp2
        go_loopw [57] (fun v57 wr => ∃ k : Nat, v57 = .int .i64 (k : Int) ∧ k ≤ L ∧ TAt w wr p b g 1 q L hgt par P S) (fun v57 _ => 40 - (intOf v57).toNat)
        case atStart => exact ⟨0, rfl, by omega, HT.out⟩
        case round =>
          obtain ⟨k, rfl, hk, hT2⟩ := hrel
          obtain ⟨wb, rfl⟩ : ∃ wb : World, wb = wr := ⟨_, rfl⟩
          by_cases hkl : k < L
          · obtain ⟨m0, m1, m2⟩ := hT2.1.2.2.1 k hkl
            obtain ⟨pk, hpk⟩ : ∃ pk, pk = P ((k : Int) + 1) := ⟨_, rfl⟩
            obtain ⟨sk, hsk⟩ : ∃ sk, sk = S ((k : Int) + 1) := ⟨_, rfl⟩
            rw [← hpk] at m1
            rw [← hsk] at m2
            obtain ⟨h, hh⟩ := hT2.there (r := (k : Int) + 1) (by omega) (by omega)
            have hhb : h ≤ 31 := by have := hT2.1.2.1.2.2.2.2 _ _ hh; omega
            have HHH := Lib.hid hh
            have hg5 := World.grownBy_alloc wb (Obj.cells #[Value.int .u64 ((k : Int) + 1), Value.int .u64 pk, Value.int .i64 sk] 45) none
            have HT3 := Lib.hid (hT2.kept hg5)
            have HX3 := Lib.hid (BoxAt.made wb ((k : Int) + 1) pk sk)
            clear hT2 hpk hsk hh hg5
            go_wp2_with fail
            refine (HT3.out.height HHH.out).mono ?_
            rintro e w5 ⟨rfl, hg⟩
            have HT4 := Lib.hid (HT3.out.kept hg)
            have HX4 := Lib.hid (HX3.out.kept hg)
            clear hg
            go_wp2_with fail
            refine (HT4.out.high HHH.out).mono ?_
            rintro e w6 ⟨rfl, hg⟩
            have HT5 := Lib.hid (HT4.out.kept hg)
            have HX5 := Lib.hid (HX4.out.kept hg)
            clear hg
            obtain ⟨xb, hxb⟩ : ∃ xb, xb = wb.heap.size := ⟨_, rfl⟩
            rw [← hxb] at HX5 ⊢
            clear hxb HX3 HX4 HT3 HT4 m0 m1 m2
            go_wp2
            go_loopw [13, 14] (fun v13 v14 wr => ∃ (t i : Nat), v14 = .int .i64 ((t : Int) - 1) ∧ t ≤ h + 1 ∧ v13 = .int .i64 (i : Int) ∧ i < L ∧ (1 ≤ t → (i : Int) + 1 = anc par ((k : Int) + 1) (h - (t - 1))) ∧ TAt w wr p b g 1 q L hgt par P S ∧ BoxAt wr xb ((k : Int) + 1)) (fun _ v14 _ => (intOf v14 + 1).toNat)
            case atStart => exact ⟨h + 1, k, by congr 1; omega, Nat.le_refl _, rfl, hkl, fun _ => by simp [anc], HT5.out, HX5.out⟩
            case round =>
              obtain ⟨t, i, rfl, ht, rfl, hiL, hanc, hT6, hX6⟩ := hrel
              obtain ⟨wc, rfl⟩ : ∃ wc : World, wc = wr := ⟨_, rfl⟩
              by_cases ht1 : 1 ≤ t
              · obtain ⟨s, rfl⟩ : ∃ s, t = s + 1 := ⟨t - 1, by omega⟩
                have hanc := hanc ht1
                rw [Nat.add_sub_cancel] at hanc
                have x0 := hX6.cell
                have HT6 := Lib.hid hT6
                have HX6 := Lib.hid hX6
                have HAN := Lib.hid hanc
                have hpb := pop_le (h - s) 5 (by simp; omega)
                clear hT6 hX6 hanc
                rw [show (((s + 1 : Nat) : Int) - 1) = (s : Int) by omega]
                go_wp2_with fail
                refine (HT6.out.at_ HHH.out (by omega)).mono ?_
                rintro e w7 ⟨rfl, hg⟩
                rw [← HAN.out]
                have hT7 := HT6.out.kept hg
                have HT7 := Lib.hid hT7
                have HX7 := Lib.hid (HX6.out.kept hg)
                have c7 := hT7.cell
                have n0 := (hT7.1.2.2.1 i hiL).1
                have n1 := (hT7.1.2.2.1 i hiL).2.1
                have g1 : ((i : Int) + 1 == (i : Int) + 1) = true := beq_self_eq_true _
                have g2 : ((i : Int) + 1 != (i : Int) + 1) = false := by simp
                clear hg hT7
                have hsub : (h : Int) - (s : Int) = ((h - s : Nat) : Int) := by omega
                have HSUB := Lib.hid hsub
                clear hsub
                go_wp2_with fail
                rw [HSUB.out]
                refine (ones_calls (h - s) _ (by omega)).mono ?_
                rintro e w8 ⟨rfl, rfl⟩
                go_wp2
                obtain ⟨y, hy⟩ : ∃ y, y = P ((i : Int) + 1) := ⟨_, rfl⟩
                rw [← hy] at n1
                have HY := Lib.hid hy
                clear hy
                go_still_tail 6, (by kernel_rfl)
                change wpList _ _ _ _ _ w7.drew
                have hgd : w7.grownBy w7.drew none := gdrew (World.grownBy.refl w7 none)
                have HT8 := Lib.hid (HT7.out.kept hgd)
                have HX8 := Lib.hid (HX7.out.kept hgd)
                clear hgd
                generalize w7.drew = wd at *
                go_wp2_with fail
                refine (HT8.out.find y).mono ?_
                rintro e w9 ⟨rfl, hg⟩
                have HT9 := Lib.hid (HT8.out.kept hg)
                have HX9 := Lib.hid (HX8.out.kept hg)
                clear hg
                go_wp2
                have hi1 : (i : Int) + 1 ≤ L := by omega
                have hPy := HT9.out.1.2.2.2.2.2.1 ((i : Int) + 1)
                obtain ⟨ok, _, _, T, _⟩ := HT9.out.1.1
                by_cases hs0 : 1 ≤ s
                · have hst := step_down HT9.out.1.2.1 T HHH.out (d := h - s) (by omega)
                  rw [← HAN.out, ← HY.out] at hst
                  have hr := anc_range HT9.out.1.2.1 T HHH.out (d := h - s + 1) (by omega)
                  refine ⟨⟨s, (anc par ((k : Int) + 1) (h - s + 1) - 1).toNat, by congr 1, by omega, by rw [hst.2]; congr 1; first | done | omega, by omega, fun _ => ?_, HT9.out, HX9.out⟩, by simp [intOf] <;> omega⟩
                  rw [show h - (s - 1) = h - s + 1 by omega]
                  omega
                · have hs00 : s = 0 := by omega
                  subst hs00
                  have hya : anc par ((k : Int) + 1) (h - 0) = 1 := by
                    have := hgt_anc T HHH.out (h - 0) (by omega)
                    rw [show h - (h - 0) = 0 by omega] at this
                    exact HT9.out.1.2.1.2.2.1 _ this
                  have hi0 : (i : Int) + 1 = 1 := HAN.out.trans hya
                  have hy1 : y = 1 := by rw [HY.out, hi0]; exact HT9.out.1.2.2.2.2.2.2.1
                  have hf : findI L y = 0 := by
                    unfold findI
                    rw [hy1, if_pos (by omega)]
                    rfl
                  exact ⟨⟨0, 0, by congr 1, by omega, by rw [hf]; rfl, by omega, fun h => by omega, HT9.out, HX9.out⟩, by simp [intOf]⟩
              · have ht0 : t = 0 := by omega
                subst ht0
                have x0 := hX6.cell
                have HT6 := Lib.hid hT6
                have HX6 := Lib.hid hX6
                clear hT6 hX6 hanc
                rw [show ((0 : Nat) : Int) - 1 = -1 by rfl]
                go_wp2_with fail
                refine (HT6.out.above HHH.out).mono ?_
                rintro e w7 ⟨rfl, hg⟩
                have hT7 := HT6.out.kept hg
                have HT7 := Lib.hid hT7
                have HX7 := Lib.hid (HX6.out.kept hg)
                have c7 := hT7.cell
                clear hg hT7
                go_wp2
                go_loopw [140] (fun v140 wr => ∃ j : Nat, v140 = .int .i64 (j : Int) ∧ j ≤ L ∧ TAt w wr p b g 1 q L hgt par P S ∧ BoxAt wr xb ((k : Int) + 1)) (fun v140 _ => 40 - (intOf v140).toNat)
                case atStart => exact ⟨0, rfl, by omega, HT7.out, HX7.out⟩
                case round =>
                  obtain ⟨j, rfl, hj, hT8, hX8⟩ := hrel
                  obtain ⟨we, rfl⟩ : ∃ we : World, we = wr := ⟨_, rfl⟩
                  by_cases hjl : j < L
                  · obtain ⟨m0, m1, m2⟩ := hT8.1.2.2.1 j hjl
                    obtain ⟨pj, hpj⟩ : ∃ pj, pj = P ((j : Int) + 1) := ⟨_, rfl⟩
                    obtain ⟨sj, hsj⟩ : ∃ sj, sj = S ((j : Int) + 1) := ⟨_, rfl⟩
                    rw [← hpj] at m1
                    rw [← hsj] at m2
                    have hg5 := World.grownBy_alloc we (Obj.cells #[Value.int .u64 ((j : Int) + 1), Value.int .u64 pj, Value.int .i64 sj] 45) none
                    have HT9 := Lib.hid (hT8.kept hg5)
                    have HX9 := Lib.hid (hX8.kept hg5)
                    have HY9 := Lib.hid (BoxAt.made we ((j : Int) + 1) pj sj)
                    clear hT8 hX8 hpj hsj hg5
                    go_wp2
                    obtain ⟨yb, hyb⟩ : ∃ yb, yb = we.heap.size := ⟨_, rfl⟩
                    rw [← hyb] at HY9 ⊢
                    clear hyb m0 m1 m2
                    generalize we.alloc (Obj.cells #[Value.int .u64 ((j : Int) + 1), Value.int .u64 pj, Value.int .i64 sj] 45) = wf at *
                    have hkr : 1 ≤ (k : Int) + 1 ∧ (k : Int) + 1 ≤ (L : Int) := by omega
                    have hjr : 1 ≤ (j : Int) + 1 ∧ (j : Int) + 1 ≤ (L : Int) := by omega
                    obtain ⟨hkr1, hkr2⟩ := hkr
                    obtain ⟨hjr1, hjr2⟩ := hjr
                    have x9 := HX9.out.cell
                    have y9 := HY9.out.cell
                    have c9 := HT9.out.cell
                    have hgd : wf.grownBy wf.drew none := gdrew (World.grownBy.refl wf none)
                    have HTD := Lib.hid (HT9.out.kept hgd)
                    have HXD := Lib.hid (HX9.out.kept hgd)
                    have HYD := Lib.hid (HY9.out.kept hgd)
                    clear hgd
                    go_region_held3 (fun w' => w'.cell? ⟨xb, 0, none⟩ = some (.int .u64 ((k : Int) + 1)) ∧ w'.cell? ⟨yb, 0, none⟩ = some (.int .u64 ((j : Int) + 1)) ∧ w'.cell? ⟨q, 0, none⟩ = some (.slice (some ⟨g, 0, none⟩) L 1))
                      (go_keep)
                      (first
                        | (go_at_call 16; refine (TAt.below (by first | exact HTE.out | exact HTD.out) ⟨hkr1, hkr2⟩ ⟨hjr1, hjr2⟩).mono ?_; rintro e wg ⟨rfl, hgg⟩; have HTE := Lib.hid ((by first | exact HTE.out | exact HTD.out : TAt w _ p b g 1 q L hgt par P S).kept hgg); have HXE := Lib.hid ((by first | exact HXE.out | exact HXD.out : BoxAt _ xb ((k : Int) + 1)).kept hgg); have HYE := Lib.hid ((by first | exact HYE.out | exact HYD.out : BoxAt _ yb ((j : Int) + 1)).kept hgg); have xE := HXE.out.cell; have yE := HYE.out.cell; have cE := HTE.out.cell; clear hgg)
                        | (go_at_call 20; refine (TAt.mbelow (by first | exact HTE.out | exact HTD.out) ⟨hkr1, hkr2⟩ ⟨hjr1, hjr2⟩).mono ?_; rintro e wg ⟨rfl, hgg⟩; have HTE := Lib.hid ((by first | exact HTE.out | exact HTD.out : TAt w _ p b g 1 q L hgt par P S).kept hgg); have HXE := Lib.hid ((by first | exact HXE.out | exact HXD.out : BoxAt _ xb ((k : Int) + 1)).kept hgg); have HYE := Lib.hid ((by first | exact HYE.out | exact HYD.out : BoxAt _ yb ((j : Int) + 1)).kept hgg); have xE := HXE.out.cell; have yE := HYE.out.cell; have cE := HTE.out.cell; clear hgg))
                    go_wp2
                    exact ⟨⟨j + 1, by simp, by omega, HTE.out, HXE.out⟩, by simp [intOf] <;> omega⟩
                  · have HT9 := Lib.hid hT8
                    clear hT8 hX8
                    go_wp2
                    exact ⟨⟨k + 1, by simp, by omega, HT9.out⟩, by simp [intOf] <;> omega⟩
          · have c9 := hT2.cell
            have hgd : wb.grownBy wb.drew none := gdrew (World.grownBy.refl wb none)
            have HTD := Lib.hid (hT2.kept hgd)
            clear hgd hT2 HT c5
            have g1 : ((L : Int) == (L : Int)) = true := beq_self_eq_true _
            go_wp2
            go_region_held3 (fun w' => w'.cell? ⟨q, 0, none⟩ = some (.slice (some ⟨g, 0, none⟩) L 1))
              (go_keep)
              (first
                | (go_at_call 15; refine (TAt.len (by first | exact HTD.out)).mono ?_; rintro e wg ⟨rfl, rfl⟩)
                | (go_at_call 16; (with_reducible refine (TAt.below99 (by first | exact HTE.out | exact HTD.out)).mono ?_); rintro e wg ⟨rfl, hgg⟩; have HTE := Lib.hid ((by first | exact HTE.out | exact HTD.out : TAt w _ p b g 1 q L hgt par P S).kept hgg); have cE := HTE.out.cell; clear hgg)
                | (go_at_call 16; (with_reducible refine (TAt.below1 (by first | exact HTE.out | exact HTD.out)).mono ?_); rintro e wg ⟨rfl, hgg⟩; have HTE := Lib.hid ((by first | exact HTE.out | exact HTD.out : TAt w _ p b g 1 q L hgt par P S).kept hgg); have cE := HTE.out.cell; clear hgg)
                | (go_at_call 11; (with_reducible refine (TAt.addNot (by first | exact HTE.out | exact HTD.out)).mono ?_); rintro e wg ⟨rfl, hgg⟩; have HTE := Lib.hid ((by first | exact HTE.out | exact HTD.out : TAt w _ p b g 1 q L hgt par P S).kept hgg); have cE := HTE.out.cell; clear hgg))
            go_wp2
            go_ret
            exact ⟨by simp, HTE.out.grown⟩
  · go_loopw [34] (fun v34 wr => ∃ i : Nat, v34 = .int .i64 (i : Int) ∧ i + 1 ≤ L ∧ TAdd w wr p b g c w2.heap.size L (i + 1) P S) (fun v34 _ => 40 - (intOf v34).toNat)
    case atStart => exact ⟨0, rfl, hL1, HTA.out⟩
    case round =>
      obtain ⟨i, rfl, hi, hl⟩ := hrel
      by_cases hlt : i < L - 1
      · have hm := hl.1
        obtain ⟨_, _, hm⟩ := hm
        have hm := hm.2.2.1 (i + 1) (by omega)
        have m0 : wr.cell? ⟨g, 3 + i * 3, none⟩ = some (.int .u64 (((i + 1 : Nat) : Int) + 1)) := by rw [show 3 + i * 3 = (i + 1) * 3 by omega]; exact hm.1
        have m1 : wr.cell? ⟨g, 3 + i * 3 + 1, none⟩ = some (.int .u64 (P (((i + 1 : Nat) : Int) + 1))) := by rw [show 3 + i * 3 + 1 = (i + 1) * 3 + 1 by omega]; exact hm.2.1
        have m2 : wr.cell? ⟨g, 3 + i * 3 + 2, none⟩ = some (.int .i64 (S (((i + 1 : Nat) : Int) + 1))) := by rw [show 3 + i * 3 + 2 = (i + 1) * 3 + 2 by omega]; exact hm.2.2
        have HL2 := Lib.hid (hl.kept (World.grownBy_alloc wr (Obj.cells #[Value.int .u64 (↑i + 1 + 1), Value.int .u64 (P (↑i + 1 + 1)), Value.int .i64 (S (↑i + 1 + 1))] 45) none))
        have hbx : (wr.alloc (Obj.cells #[Value.int .u64 (↑i + 1 + 1), Value.int .u64 (P (↑i + 1 + 1)), Value.int .i64 (S (↑i + 1 + 1))] 45)).heap[wr.heap.size]? = some (.cells #[Value.int .u64 (↑i + 1 + 1), Value.int .u64 (P (↑i + 1 + 1)), Value.int .i64 (S (↑i + 1 + 1))] 45 (0, 0)) := (MapKept.heap_alloc wr _).1
        have hbw : b < wr.heap.size := by
          obtain ⟨_, _, h⟩ := hl.1
          obtain ⟨ok, h1, h2, _⟩ := h.1
          exact (h2 b h1.2.1).2
        have HBX := Lib.hid hbx
        clear hl hm hbx
        go_wp2_with fail
        refine (HL2.out.add (by omega) (by omega)).mono ?_
        rintro e w3 ⟨rfl, hl3, hg3⟩
        have HL3 := Lib.hid hl3
        have hbx3 := (hg3.block wr.heap.size (by simp) (by intro e; have := Option.some.inj e; omega)).trans HBX.out
        have d0 : w3.cell? ⟨wr.heap.size, 0, none⟩ = some (.int .u64 (↑i + 1 + 1)) := cel hbx3 0
        have d1 : w3.cell? ⟨wr.heap.size, 1, none⟩ = some (.int .u64 (P (↑i + 1 + 1))) := cel hbx3 1
        clear hl3 hg3 hbx3
        go_wp2_with fail
        refine (HL3.out.twice (by omega) (by omega)).mono ?_
        rintro e w4 ⟨rfl, hl4, hg4⟩
        have HL4 := Lib.hid hl4
        clear hl4 hg4
        go_wp2
        exact ⟨⟨i + 1, by simp, by omega, HL4.out⟩, by simp [intOf]; omega⟩
      · have hiL : i + 1 = L := by omega
        rw [hiL] at hl
        obtain ⟨hgt, par, hT⟩ := hl.done
        have c5 := hT.cell
        have HT := Lib.hid hT
        clear hl hT hiL
        obtain ⟨q, hqe⟩ : ∃ q, q = w2.heap.size := ⟨_, rfl⟩
        rw [← hqe] at HT c5 ⊢
        clear HTA cq0 hbq
        clear hqe
        obtain ⟨wa, rfl⟩ : ∃ wa : World, wa = wr := ⟨_, rfl⟩
        go_wp2
        go_loopw [57] (fun v57 wr => ∃ k : Nat, v57 = .int .i64 (k : Int) ∧ k ≤ L ∧ TAt w wr p b g c q L hgt par P S) (fun v57 _ => 40 - (intOf v57).toNat)
        case atStart => exact ⟨0, rfl, by omega, HT.out⟩
        case round =>
          obtain ⟨k, rfl, hk, hT2⟩ := hrel
          obtain ⟨wb, rfl⟩ : ∃ wb : World, wb = wr := ⟨_, rfl⟩
          by_cases hkl : k < L
          · obtain ⟨m0, m1, m2⟩ := hT2.1.2.2.1 k hkl
            obtain ⟨pk, hpk⟩ : ∃ pk, pk = P ((k : Int) + 1) := ⟨_, rfl⟩
            obtain ⟨sk, hsk⟩ : ∃ sk, sk = S ((k : Int) + 1) := ⟨_, rfl⟩
            rw [← hpk] at m1
            rw [← hsk] at m2
            obtain ⟨h, hh⟩ := hT2.there (r := (k : Int) + 1) (by omega) (by omega)
            have hhb : h ≤ 31 := by have := hT2.1.2.1.2.2.2.2 _ _ hh; omega
            have HHH := Lib.hid hh
            have hg5 := World.grownBy_alloc wb (Obj.cells #[Value.int .u64 ((k : Int) + 1), Value.int .u64 pk, Value.int .i64 sk] 45) none
            have HT3 := Lib.hid (hT2.kept hg5)
            have HX3 := Lib.hid (BoxAt.made wb ((k : Int) + 1) pk sk)
            clear hT2 hpk hsk hh hg5
            go_wp2_with fail
            refine (HT3.out.height HHH.out).mono ?_
            rintro e w5 ⟨rfl, hg⟩
            have HT4 := Lib.hid (HT3.out.kept hg)
            have HX4 := Lib.hid (HX3.out.kept hg)
            clear hg
            go_wp2_with fail
            refine (HT4.out.high HHH.out).mono ?_
            rintro e w6 ⟨rfl, hg⟩
            have HT5 := Lib.hid (HT4.out.kept hg)
            have HX5 := Lib.hid (HX4.out.kept hg)
            clear hg
            obtain ⟨xb, hxb⟩ : ∃ xb, xb = wb.heap.size := ⟨_, rfl⟩
            rw [← hxb] at HX5 ⊢
            clear hxb HX3 HX4 HT3 HT4 m0 m1 m2
            go_wp2
            go_loopw [13, 14] (fun v13 v14 wr => ∃ (t i : Nat), v14 = .int .i64 ((t : Int) - 1) ∧ t ≤ h + 1 ∧ v13 = .int .i64 (i : Int) ∧ i < L ∧ (1 ≤ t → (i : Int) + 1 = anc par ((k : Int) + 1) (h - (t - 1))) ∧ TAt w wr p b g c q L hgt par P S ∧ BoxAt wr xb ((k : Int) + 1)) (fun _ v14 _ => (intOf v14 + 1).toNat)
            case atStart => exact ⟨h + 1, k, by congr 1; omega, Nat.le_refl _, rfl, hkl, fun _ => by simp [anc], HT5.out, HX5.out⟩
            case round =>
              obtain ⟨t, i, rfl, ht, rfl, hiL, hanc, hT6, hX6⟩ := hrel
              obtain ⟨wc, rfl⟩ : ∃ wc : World, wc = wr := ⟨_, rfl⟩
              by_cases ht1 : 1 ≤ t
              · obtain ⟨s, rfl⟩ : ∃ s, t = s + 1 := ⟨t - 1, by omega⟩
                have hanc := hanc ht1
                rw [Nat.add_sub_cancel] at hanc
                have x0 := hX6.cell
                have HT6 := Lib.hid hT6
                have HX6 := Lib.hid hX6
                have HAN := Lib.hid hanc
                have hpb := pop_le (h - s) 5 (by simp; omega)
                clear hT6 hX6 hanc
                rw [show (((s + 1 : Nat) : Int) - 1) = (s : Int) by omega]
                go_wp2_with fail
                refine (HT6.out.at_ HHH.out (by omega)).mono ?_
                rintro e w7 ⟨rfl, hg⟩
                rw [← HAN.out]
                have hT7 := HT6.out.kept hg
                have HT7 := Lib.hid hT7
                have HX7 := Lib.hid (HX6.out.kept hg)
                have c7 := hT7.cell
                have n0 := (hT7.1.2.2.1 i hiL).1
                have n1 := (hT7.1.2.2.1 i hiL).2.1
                have g1 : ((i : Int) + 1 == (i : Int) + 1) = true := beq_self_eq_true _
                have g2 : ((i : Int) + 1 != (i : Int) + 1) = false := by simp
                clear hg hT7
                have hsub : (h : Int) - (s : Int) = ((h - s : Nat) : Int) := by omega
                have HSUB := Lib.hid hsub
                clear hsub
                go_wp2_with fail
                rw [HSUB.out]
                refine (ones_calls (h - s) _ (by omega)).mono ?_
                rintro e w8 ⟨rfl, rfl⟩
                go_wp2
                obtain ⟨y, hy⟩ : ∃ y, y = P ((i : Int) + 1) := ⟨_, rfl⟩
                rw [← hy] at n1
                have HY := Lib.hid hy
                clear hy
                go_still_tail 6, (by kernel_rfl)
                change wpList _ _ _ _ _ w7.drew
                have hgd : w7.grownBy w7.drew none := gdrew (World.grownBy.refl w7 none)
                have HT8 := Lib.hid (HT7.out.kept hgd)
                have HX8 := Lib.hid (HX7.out.kept hgd)
                clear hgd
                generalize w7.drew = wd at *
                go_wp2_with fail
                refine (HT8.out.find y).mono ?_
                rintro e w9 ⟨rfl, hg⟩
                have HT9 := Lib.hid (HT8.out.kept hg)
                have HX9 := Lib.hid (HX8.out.kept hg)
                clear hg
                go_wp2
                have hi1 : (i : Int) + 1 ≤ L := by omega
                have hPy := HT9.out.1.2.2.2.2.2.1 ((i : Int) + 1)
                obtain ⟨ok, _, _, T, _⟩ := HT9.out.1.1
                by_cases hs0 : 1 ≤ s
                · have hst := step_down HT9.out.1.2.1 T HHH.out (d := h - s) (by omega)
                  rw [← HAN.out, ← HY.out] at hst
                  have hr := anc_range HT9.out.1.2.1 T HHH.out (d := h - s + 1) (by omega)
                  refine ⟨⟨s, (anc par ((k : Int) + 1) (h - s + 1) - 1).toNat, by congr 1, by omega, by rw [hst.2]; congr 1; first | done | omega, by omega, fun _ => ?_, HT9.out, HX9.out⟩, by simp [intOf] <;> omega⟩
                  rw [show h - (s - 1) = h - s + 1 by omega]
                  omega
                · have hs00 : s = 0 := by omega
                  subst hs00
                  have hya : anc par ((k : Int) + 1) (h - 0) = 1 := by
                    have := hgt_anc T HHH.out (h - 0) (by omega)
                    rw [show h - (h - 0) = 0 by omega] at this
                    exact HT9.out.1.2.1.2.2.1 _ this
                  have hi0 : (i : Int) + 1 = 1 := HAN.out.trans hya
                  have hy1 : y = 1 := by rw [HY.out, hi0]; exact HT9.out.1.2.2.2.2.2.2.1
                  have hf : findI L y = 0 := by
                    unfold findI
                    rw [hy1, if_pos (by omega)]
                    rfl
                  exact ⟨⟨0, 0, by congr 1, by omega, by rw [hf]; rfl, by omega, fun h => by omega, HT9.out, HX9.out⟩, by simp [intOf]⟩
              · have ht0 : t = 0 := by omega
                subst ht0
                have x0 := hX6.cell
                have HT6 := Lib.hid hT6
                have HX6 := Lib.hid hX6
                clear hT6 hX6 hanc
                rw [show ((0 : Nat) : Int) - 1 = -1 by rfl]
                go_wp2_with fail
                refine (HT6.out.above HHH.out).mono ?_
                rintro e w7 ⟨rfl, hg⟩
                have hT7 := HT6.out.kept hg
                have HT7 := Lib.hid hT7
                have HX7 := Lib.hid (HX6.out.kept hg)
                have c7 := hT7.cell
                clear hg hT7
                go_wp2
                go_loopw [140] (fun v140 wr => ∃ j : Nat, v140 = .int .i64 (j : Int) ∧ j ≤ L ∧ TAt w wr p b g c q L hgt par P S ∧ BoxAt wr xb ((k : Int) + 1)) (fun v140 _ => 40 - (intOf v140).toNat)
                case atStart => exact ⟨0, rfl, by omega, HT7.out, HX7.out⟩
                case round =>
                  obtain ⟨j, rfl, hj, hT8, hX8⟩ := hrel
                  obtain ⟨we, rfl⟩ : ∃ we : World, we = wr := ⟨_, rfl⟩
                  by_cases hjl : j < L
                  · obtain ⟨m0, m1, m2⟩ := hT8.1.2.2.1 j hjl
                    obtain ⟨pj, hpj⟩ : ∃ pj, pj = P ((j : Int) + 1) := ⟨_, rfl⟩
                    obtain ⟨sj, hsj⟩ : ∃ sj, sj = S ((j : Int) + 1) := ⟨_, rfl⟩
                    rw [← hpj] at m1
                    rw [← hsj] at m2
                    have hg5 := World.grownBy_alloc we (Obj.cells #[Value.int .u64 ((j : Int) + 1), Value.int .u64 pj, Value.int .i64 sj] 45) none
                    have HT9 := Lib.hid (hT8.kept hg5)
                    have HX9 := Lib.hid (hX8.kept hg5)
                    have HY9 := Lib.hid (BoxAt.made we ((j : Int) + 1) pj sj)
                    clear hT8 hX8 hpj hsj hg5
                    go_wp2
                    obtain ⟨yb, hyb⟩ : ∃ yb, yb = we.heap.size := ⟨_, rfl⟩
                    rw [← hyb] at HY9 ⊢
                    clear hyb m0 m1 m2
                    generalize we.alloc (Obj.cells #[Value.int .u64 ((j : Int) + 1), Value.int .u64 pj, Value.int .i64 sj] 45) = wf at *
                    have hkr : 1 ≤ (k : Int) + 1 ∧ (k : Int) + 1 ≤ (L : Int) := by omega
                    have hjr : 1 ≤ (j : Int) + 1 ∧ (j : Int) + 1 ≤ (L : Int) := by omega
                    obtain ⟨hkr1, hkr2⟩ := hkr
                    obtain ⟨hjr1, hjr2⟩ := hjr
                    have x9 := HX9.out.cell
                    have y9 := HY9.out.cell
                    have c9 := HT9.out.cell
                    have hgd : wf.grownBy wf.drew none := gdrew (World.grownBy.refl wf none)
                    have HTD := Lib.hid (HT9.out.kept hgd)
                    have HXD := Lib.hid (HX9.out.kept hgd)
                    have HYD := Lib.hid (HY9.out.kept hgd)
                    clear hgd
                    go_region_held3 (fun w' => w'.cell? ⟨xb, 0, none⟩ = some (.int .u64 ((k : Int) + 1)) ∧ w'.cell? ⟨yb, 0, none⟩ = some (.int .u64 ((j : Int) + 1)) ∧ w'.cell? ⟨q, 0, none⟩ = some (.slice (some ⟨g, 0, none⟩) L c))
                      (go_keep)
                      (first
                        | (go_at_call 16; refine (TAt.below (by first | exact HTE.out | exact HTD.out) ⟨hkr1, hkr2⟩ ⟨hjr1, hjr2⟩).mono ?_; rintro e wg ⟨rfl, hgg⟩; have HTE := Lib.hid ((by first | exact HTE.out | exact HTD.out : TAt w _ p b g c q L hgt par P S).kept hgg); have HXE := Lib.hid ((by first | exact HXE.out | exact HXD.out : BoxAt _ xb ((k : Int) + 1)).kept hgg); have HYE := Lib.hid ((by first | exact HYE.out | exact HYD.out : BoxAt _ yb ((j : Int) + 1)).kept hgg); have xE := HXE.out.cell; have yE := HYE.out.cell; have cE := HTE.out.cell; clear hgg)
                        | (go_at_call 20; refine (TAt.mbelow (by first | exact HTE.out | exact HTD.out) ⟨hkr1, hkr2⟩ ⟨hjr1, hjr2⟩).mono ?_; rintro e wg ⟨rfl, hgg⟩; have HTE := Lib.hid ((by first | exact HTE.out | exact HTD.out : TAt w _ p b g c q L hgt par P S).kept hgg); have HXE := Lib.hid ((by first | exact HXE.out | exact HXD.out : BoxAt _ xb ((k : Int) + 1)).kept hgg); have HYE := Lib.hid ((by first | exact HYE.out | exact HYD.out : BoxAt _ yb ((j : Int) + 1)).kept hgg); have xE := HXE.out.cell; have yE := HYE.out.cell; have cE := HTE.out.cell; clear hgg))
                    go_wp2
                    exact ⟨⟨j + 1, by simp, by omega, HTE.out, HXE.out⟩, by simp [intOf] <;> omega⟩
                  · have HT9 := Lib.hid hT8
                    clear hT8 hX8
                    go_wp2
                    exact ⟨⟨k + 1, by simp, by omega, HT9.out⟩, by simp [intOf] <;> omega⟩
          · have c9 := hT2.cell
            have hgd : wb.grownBy wb.drew none := gdrew (World.grownBy.refl wb none)
            have HTD := Lib.hid (hT2.kept hgd)
            clear hgd hT2 HT c5
            have g1 : ((L : Int) == (L : Int)) = true := beq_self_eq_true _
            go_wp2
            go_region_held3 (fun w' => w'.cell? ⟨q, 0, none⟩ = some (.slice (some ⟨g, 0, none⟩) L c))
              (go_keep)
              (first
                | (go_at_call 15; refine (TAt.len (by first | exact HTD.out)).mono ?_; rintro e wg ⟨rfl, rfl⟩)
                | (go_at_call 16; (with_reducible refine (TAt.below99 (by first | exact HTE.out | exact HTD.out)).mono ?_); rintro e wg ⟨rfl, hgg⟩; have HTE := Lib.hid ((by first | exact HTE.out | exact HTD.out : TAt w _ p b g c q L hgt par P S).kept hgg); have cE := HTE.out.cell; clear hgg)
                | (go_at_call 16; (with_reducible refine (TAt.below1 (by first | exact HTE.out | exact HTD.out)).mono ?_); rintro e wg ⟨rfl, hgg⟩; have HTE := Lib.hid ((by first | exact HTE.out | exact HTD.out : TAt w _ p b g c q L hgt par P S).kept hgg); have cE := HTE.out.cell; clear hgg)
                | (go_at_call 11; (with_reducible refine (TAt.addNot (by first | exact HTE.out | exact HTD.out)).mono ?_); rintro e wg ⟨rfl, hgg⟩; have HTE := Lib.hid ((by first | exact HTE.out | exact HTD.out : TAt w _ p b g c q L hgt par P S).kept hgg); have cE := HTE.out.cell; clear hgg))
            go_wp2
            go_ret
            exact ⟨by simp, HTE.out.grown⟩

theorem tree_row (ar : Option Addr) (len cap : Nat) (zs : List Int) (w : World) (h : (ar = none ∧ len = 0 ∧ cap = 0 ∧ zs = []) ∨ ∃ x, ar = some x ∧ len ≤ cap ∧ cap ≤ maxLen ∧ zs.length = cap ∧ (∀ i, i < zs.length → w.cell? (x.add i) = some (.int .u8 (zs.getD i 0))) ∧ ∀ n ∈ zs, (Lit.int .u8 n).wf = true) (hl : len * 1 ≤ 140737488351232) :
    Calls Try.prog 8 #[.slice ar len cap] w fun e w' => e = .returned (.bool true) ∧ Below w.heap.size w w' :=
  (tree_walk w ar len cap (arg_of_row h) (by omega)).mono fun _ _ ⟨h1, h2⟩ => ⟨h1, grown_lt h2⟩
end Go.Proofs.Ytjoglfoioiedbaa
