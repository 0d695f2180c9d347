/- Contract of psephostop.awake. -/
import Derived.Test.YtndfpmboanohcaaGreatDoorSam
namespace Go.Proofs.YtndfpmboanohcaaGreatDoor
set_option maxRecDepth 100000
open Go.RowKit Go.Maps SkipPure
theorem LnAt.of {w : World} {B : Nat} {v s1 s2 : Value} {l1 l2 : List UInt8} {L1 L2 : List Value} (h : w.ownsRow B 48 2 v 2 [.int .i64 0, s1, .int .i64 0, s2]) (h1 : w.ownsRow B 5 1 s1 L1.length L1) (h2 : w.ownsRow B 5 1 s2 L2.length L2) (e1 : L1 = u8s l1) (e2 : L2 = u8s l2) (n1 : 0 < L1.length) (n2 : 0 < L2.length) :
    LnAt w v l1 l2 := by
  obtain ⟨g, c, rfl, _, _⟩ := h.form (by omega)
  refine ⟨g, c, s1, s2, rfl, h.cells (g := g) rfl 0 _ rfl, h.cells (g := g) rfl 1 _ rfl, h.cells (g := g) rfl 2 _ rfl, h.cells (g := g) rfl 3 _ rfl, ?_, ?_⟩
  · rw [e1] at h1; exact ByAt.of h1 (by rw [← e1]; exact n1)
  · rw [e2] at h2; exact ByAt.of h2 (by rw [← e2]; exact n2)
theorem canon_long (σ : St) (ks : List Int) (hd : Int) : 64 ≤ (canonF σ ks hd).length := by
  unfold canonF; simp [putF_len, headN]
theorem canon_seven (σ : St) (ks : List Int) : (canonF σ ks 2)[7]? = some (.int .u8 2) := rfl
set_option maxHeartbeats 8000000 in
theorem awake_calls (w : World) : Calls Tryz.prog 6 #[] w fun e w' => e = .returned (.bool true) ∧ w.grownBy w' none := by
  go_enter Tryz.func6, Tryz.ntmps6
  go_upto_region 3 with (fail)
  refine nmC3 ?_
  intro W b0 b1 b2 hz hg
  obtain ⟨q, hq⟩ : ∃ q, q = w.heap.size := ⟨_, rfl⟩
  rw [← hq] at b0 b1 b2 hz ⊢
  change Blk W (q + 1 + 1) evs2 68 at b2
  have hb5 : Ints .u64 W (some ⟨q, 0, none⟩) [5] := Ints.one b0
  have HB5 := Lib.hid hb5
  have HQ := Lib.hid b1
  have HEV := Lib.hid b2
  have HG := Lib.hid hg
  clear hb5 b1 b2 hg
  clear b0 hz hq
  obtain ⟨c0, c1, c2⟩ := HQ.out.c3
  go_wp2_with fail
  refine (run_array HB5.out HEV.out).mono ?_
  rintro e w1 ⟨va, s1, s2, rfl, hv, hs1, hs2, hg⟩
  replace HB5 := Lib.hid (Ints.kept HB5.out hg)
  replace HQ := Lib.hid (HQ.out.g hg)
  replace HEV := Lib.hid (HEV.out.g hg)
  replace HG := Lib.hid (g2 HG.out hg)
  have HV := Lib.hid hv
  have HS1 := Lib.hid hs1
  have HS2 := Lib.hid hs2
  clear hv hs1 hs2
  clear hg c0 c1 c2
  obtain ⟨c0, c1, c2⟩ := HQ.out.c3
  go_wp2_with fail
  refine (run_bucket HB5.out HEV.out).mono ?_
  rintro e w2 ⟨vb, t1, t2, rfl, hv, ht1, ht2, hg⟩
  replace HV := Lib.hid (HV.out.kept hg (Classical.em _))
  replace HS1 := Lib.hid (HS1.out.kept hg (Classical.em _))
  replace HS2 := Lib.hid (HS2.out.kept hg (Classical.em _))
  replace HG := Lib.hid (g2 HG.out hg)
  have HU := Lib.hid hv
  have HT1 := Lib.hid ht1
  have HT2 := Lib.hid ht2
  clear hv ht1 ht2
  clear hg c0 c1 c2 HEV HB5 HQ
  obtain ⟨l1, e1⟩ := canon_u8 sgA [1] 1
  obtain ⟨l2, e2⟩ := canon_u8 sgB [1, 2] 2
  have n1 := canon_long sgA [1] 1
  have n2 := canon_long sgB [1, 2] 2
  have hla := LnAt.of HV.out HS1.out HS2.out e1 e2 (by omega) (by omega)
  have hlb := LnAt.of HU.out HT1.out HT2.out e1 e2 (by omega) (by omega)
  obtain ⟨g, c, rfl, _, _⟩ := HV.out.form (by omega)
  obtain ⟨gs, cs, rfl, _, _⟩ := HS2.out.form (by omega)
  have r2 : w2.cell? ⟨g, 2, none⟩ = some (.int .i64 0) := HV.out.cells (g := g) rfl 2 _ rfl
  have r3 : w2.cell? ⟨g, 3, none⟩ = some (.slice (some ⟨gs, 0, none⟩) (canonF sgB [1, 2] 2).length cs) := HV.out.cells (g := g) rfl 3 _ rfl
  have r7 : w2.cell? ⟨gs, 7, none⟩ = some (.int .u8 2) := HS2.out.cells (g := gs) rfl 7 _ (canon_seven sgB [1, 2])
  obtain ⟨m, hm⟩ : ∃ m, m = (canonF sgB [1, 2] 2).length := ⟨_, rfl⟩
  rw [← hm] at r3 n2
  have hd8 : decide ((m : Int) > 8) = true := decide_eq_true (by omega)
  have hd7 : (7 : Int) < m := by omega
  have hd9 : 7 < m := by omega
  have HLA := Lib.hid hla
  have HLB := Lib.hid hlb
  clear hla hlb
  clear HV HU HS1 HS2 HT1 HT2 e1 e2 n1 hm
  go_wp2_with (go_at_call 17; refine (same2_calls HLA.out HLB.out).mono ?_; rintro e w3 ⟨rfl, hg⟩; have HG3 := Lib.hid (g2 HG.out hg); have r2 := cell_g r2 hg; have r3 := cell_g r3 hg; have r7 := cell_g r7 hg; clear hg)
  go_ret
  exact ⟨rfl, HG3.out⟩
end Go.Proofs.YtndfpmboanohcaaGreatDoor
