/- Contract of (*tree.Tree).Kids, at trees of as many blocks as slices.Sort is known for. -/
import Derived.Test.YtndfpmboanohcaaGreatDoorIter
namespace Go.Proofs.YtndfpmboanohcaaGreatDoor
set_option maxRecDepth 100000
open Go.RowKit Go.Maps SkipPure

/-- The blocks of a list that stand on one at once. -/
def kidsT (F : Int → Option (Int × Int × Int)) (f root : Int) (ks : List Int) : List Int := ks.filter fun r => !(r == f) && (((F r).getD (0, 0, 0)).1 == root)
theorem kidsT_take (F : Int → Option (Int × Int × Int)) (f root : Int) (ks : List Int) (i : Nat) (h : i < ks.length) :
    kidsT F f root (ks.take (i + 1)) = kidsT F f root (ks.take i) ++ (if (!(ks.getD i 0 == f) && (((F (ks.getD i 0)).getD (0, 0, 0)).1 == root)) = true then [ks.getD i 0] else []) := by
  unfold kidsT
  rw [List.take_add_one, List.filter_append]
  congr 1
  rw [List.getElem?_eq_getElem h, List.getD_eq_getElem?_getD, List.getElem?_eq_getElem h]
  simp only [Option.toList_some, Option.getD_some, List.filter_cons, List.filter_nil]
theorem kidsT_length (F : Int → Option (Int × Int × Int)) (f root : Int) (ks : List Int) : (kidsT F f root ks).length ≤ ks.length := List.length_filter_le _ _

theorem rowCell {w : World} {base n g c : Nat} {xs : List Int} (h : w.ownsRow base 27 1 (.slice (some ⟨g, 0, none⟩) n c) n (xs.map encU)) (i : Nat) (hi : i < n) : w.cell? ⟨g, i, none⟩ = some (.int .u64 (xs.getD i 0)) := by
  have hl : xs.length = n := by have := h.1; simpa using this
  rw [h.cellAt i (by omega)]
  simp [List.getD_eq_getElem?_getD, show i < xs.length by omega]

theorem fieldN (x y z : Int) (w : World) : (Instr.field 168 (.agg #[.int .u64 x, .int .i64 y, .int .i64 z]) 0).run Tryz.prog w = .ok (.int .u64 x) w := by kernel_rfl

set_option maxHeartbeats 1000000 in
theorem kids_calls {w : World} {p b n : Nat} {f : Int} {F : Int → Option (Int × Int × Int)} (h : TreeAt w p b n f F) (W : WellT f F) (hn : n ≤ 1000000) (hS : SortUpTo n) (root : Int) :
    Calls Tryz.prog 150 #[.pointer (some ⟨p, 0, none⟩), .int .u64 root] w fun e W' => ∃ (v : Value) (ks : List Int), e = .returned v ∧ Rising F ks ∧ ks.length ≤ n ∧ W'.ownsRow w.heap.size 27 1 v (kidsT F f root ks).length ((kidsT F f root ks).map encU) ∧ w.grownBy W' none := by
  have HH := Lib.hid h
  clear h
  obtain ⟨i0, hi, hz0, hz1, hz2⟩ := info_parts info_u64
  have HI0 := Lib.hid hi
  have HZ0 := Lib.hid hz0
  have HZ1 := Lib.hid hz1
  have HZ2 := Lib.hid hz2
  clear hi hz0 hz1 hz2
  go_enter Tryz.func150, Tryz.ntmps150
  go_wp2_with fail
  refine (roots_calls HH.out W hn hS).mono ?_
  rintro e w1 ⟨v, ks, rfl, hR, hl, hrow, hg⟩
  have hpos : 0 < ks.length := by
    obtain ⟨x, hx⟩ := Option.isSome_iff_exists.1 W.first
    exact List.length_pos_of_mem ((hR.2.2 f (W.key _ _ hx)).2 (by rw [hx]; rfl))
  obtain ⟨g, cap, rfl, hgb⟩ := hrow.form hpos
  have HR := Lib.hid hR
  have HROW := Lib.hid hrow
  have HG := Lib.hid hg
  clear hR hrow hg hpos
  go_wp2
  go_loopw [11, 5] (fun v11 v5 wr => ∃ j : Nat, v11 = .int .i64 (j : Int) ∧ j ≤ ks.length ∧ wr.ownsRow w1.heap.size 27 1 v5 (kidsT F f root (ks.take j)).length ((kidsT F f root (ks.take j)).map encU) ∧ w1.grownBy wr none) (fun v11 _ _ => ks.length - (intOf v11).toNat)
  case atStart => exact ⟨0, rfl, by omega, by simpa [kidsT] using World.ownsRow_nil w1 _ _ _, World.grownBy.refl w1 none⟩
  case round =>
    obtain ⟨j, rfl, hj, ho, hg1⟩ := hrel
    have HO := Lib.hid ho
    have HG1 := Lib.hid hg1
    by_cases hlt : j < ks.length
    · have hc := rowCell (HROW.out.kept hg1 (by simp [Value.ownBlock])) j hlt
      have ht := kidsT_take F f root ks j hlt
      have hin := HR.out.2.1 (ks.getD j 0) (by rw [List.getD_eq_getElem?_getD, List.getElem?_eq_getElem hlt]; simp)
      obtain ⟨r, hr⟩ : ∃ r, r = ks.getD j 0 := ⟨_, rfl⟩
      rw [← hr] at hc ht hin
      have hT := HH.out.kept (g2 HG.out hg1) (by simp)
      have c0 := hT.c0
      have c1 := hT.c1
      have hlk := hT.2.2.look Tryz.underlying27 Tryz.underlying169 (zero62 wr) hin
      have hlk2 : (tfun F r).getD (Value.agg #[.int .u64 0, .int .i64 0, .int .i64 0]) = tnode ((F r).getD (0, 0, 0)) := by
        unfold tfun
        cases F r <;> rfl
      rw [hlk2] at hlk
      obtain ⟨y, hy⟩ : ∃ y, y = (F r).getD (0, 0, 0) := ⟨_, rfl⟩
      rw [← hy] at hlk ht
      obtain ⟨y0, y1, y2⟩ := y
      simp only [tnode] at hlk ht
      have hfl := fieldN y0 y1 y2
      have HT := Lib.hid ht
      clear ho hg1 ht hr hT hlk2 hy
      have hkl : (kidsT F f root (ks.take j)).length ≤ 1000000 := Nat.le_trans (kidsT_length _ _ _ _) (by simp; omega)
      by_cases hrf : r = f
      · have hcond : ¬ (!(r == f) && (y0 == root)) = true := by simp [hrf]
        have g0 : (r == f) = true := beq_iff_eq.2 hrf
        have HC := Lib.hid hcond
        clear hcond
        subst hrf
        go_wp2
        exact ⟨⟨j + 1, by simp, by omega, by rw [HT.out, if_neg HC.out, List.append_nil]; exact HO.out, HG1.out⟩, by simp [intOf]; omega⟩
      · have g0 : (r == f) = false := beq_eq_false_iff_ne.2 hrf
        by_cases hy0 : y0 = root
        · have hcond : (!(r == f) && (y0 == root)) = true := by simp [hrf, hy0]
          have g1 : (y0 == root) = true := beq_iff_eq.2 hy0
          subst hy0
          rcases HO.out.two with hv5 | ⟨g5, c5, hv5⟩
          · subst hv5
            go_wp2_with (at_builtin; refine wpList_append_lies _ rfl _ _ 34 rfl w1.heap.size 27 i0 (.int .u64 0) 1 8 Tryz.underlying34 HI0.out HZ0.out HZ1.out HZ2.out rfl (by decide) _ (kidsT F f y0 (ks.take j)).length ((kidsT F f y0 (ks.take j)).map encU) rfl (HO.out.alloc _) ⟨wr.heap.size, 0, none⟩ 1 1 [.int .u64 r] rfl rfl (World.news_of_block (MapKept.heap_alloc _ _).1) (by simp [Value.oneCell']) (by decide) (by unfold maxLen; omega) (by omega) (by have := HG1.out.size; simp; omega) _ rfl ?_; intro g6 c6 w6 h6 hg6 hat6 hlt6; have H6 := Lib.hid h6; have HG6 := Lib.hid hg6; clear h6 hg6 hat6)
            refine ⟨⟨j + 1, by simp, by omega, ?_, (g2 HG1.out (World.grownBy_alloc wr _ none)).andThen HG6.out (fun k e => Or.inl (HO.out.lt k e).1)⟩, by simp [intOf]; omega⟩
            rw [HT.out, if_pos hcond]
            have := H6.out
            simpa using this
          · subst hv5
            go_wp2_with (at_builtin; refine wpList_append_lies _ rfl _ _ 34 rfl w1.heap.size 27 i0 (.int .u64 0) 1 8 Tryz.underlying34 HI0.out HZ0.out HZ1.out HZ2.out rfl (by decide) _ (kidsT F f y0 (ks.take j)).length ((kidsT F f y0 (ks.take j)).map encU) rfl (HO.out.alloc _) ⟨wr.heap.size, 0, none⟩ 1 1 [.int .u64 r] rfl rfl (World.news_of_block (MapKept.heap_alloc _ _).1) (by simp [Value.oneCell']) (by decide) (by unfold maxLen; omega) (by omega) (by have := HG1.out.size; simp; omega) _ rfl ?_; intro g6 c6 w6 h6 hg6 hat6 hlt6; have H6 := Lib.hid h6; have HG6 := Lib.hid hg6; clear h6 hg6 hat6)
            refine ⟨⟨j + 1, by simp, by omega, ?_, (g2 HG1.out (World.grownBy_alloc wr _ none)).andThen HG6.out (fun k e => Or.inl (HO.out.lt k e).1)⟩, by simp [intOf]; omega⟩
            rw [HT.out, if_pos hcond]
            have := H6.out
            simpa using this
        · have hcond : ¬ (!(r == f) && (y0 == root)) = true := by simp [hy0]
          have g1 : (y0 == root) = false := beq_eq_false_iff_ne.2 hy0
          have HC := Lib.hid hcond
          clear hcond
          go_wp2
          exact ⟨⟨j + 1, by simp, by omega, by rw [HT.out, if_neg HC.out, List.append_nil]; exact HO.out, HG1.out⟩, by simp [intOf]; omega⟩
    · have hje : j = ks.length := by omega
      subst hje
      rw [List.take_length] at HO
      clear ho hg1
      go_wp2
      go_ret
      exact ⟨_, ks, rfl, HR.out, hl, rowMono HO.out HG.out.size, g2 HG.out HG1.out⟩
end Go.Proofs.YtndfpmboanohcaaGreatDoor
