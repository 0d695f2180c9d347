/- Contracts of replay.Of at the two kinds of engine that awake asks. -/
import Derived.Test.YtndfpmboanohcaaGreatDoorBwt
import Derived.Test.YtndfpmboanohcaaGreatDoorAof
import Derived.Test.YtndfpmboanohcaaGreatDoorCan
namespace Go.Proofs.YtndfpmboanohcaaGreatDoor
set_option maxRecDepth 100000
open Go.RowKit Go.Maps SkipPure
section
variable {w : World} {bs : List Int} {S B : Int} {ad : Option Addr} {c : Nat}
set_option maxHeartbeats 2000000 in
theorem rof_array (hb : Ints .u64 w ad bs) (hm : MayBe bs S B) :
    Calls Tryz.prog 15 #[.int .i64 1, cfgV ad bs.length c S B] w fun e w' => ∃ I J, e = .returned (.tuple #[.iface 105 (.pointer (some ⟨J.q, 0, none⟩)), .pointer (some ⟨I.p, 0, none⟩), .nilIface]) ∧ StoreAt w' I (st0 bs S B) ∧ ArrAt w' J I.p arr0 ∧ I.ex = AOwn J ∧ w.grownBy w' none ∧
      (∀ i, Mut I i → w.heap.size ≤ i) ∧ (∀ i, AOwn J i → w.heap.size ≤ i) := by
  have HB := Lib.hid hb
  have HM := Lib.hid hm
  clear hb hm
  unfold cfgV
  go_enter Tryz.func15, Tryz.ntmps15
  go_upto_region 1 with (fail)
  refine nmC1 ?_
  intro W b0 hz hg
  obtain ⟨q, hq_q⟩ : ∃ q, q = w.heap.size := ⟨_, rfl⟩
  rw [← hq_q] at b0 hz ⊢
  have HQ_q := Lib.hid hq_q
  clear hq_q
  have HQ := Lib.hid b0
  have HG := Lib.hid hg
  clear b0 hg
  replace HB := Lib.hid (Ints.kept HB.out HG.out)
  obtain ⟨c0, c1, c2⟩ := HQ.out.c3
  go_wp2_with fail
  refine (aof_calls HB.out HM.out).mono ?_
  rintro e w1 ⟨I, J, rfl, hst, ha, hex, hg, hm1, hm2⟩
  have hwW := HG.out.size
  replace HG := Lib.hid (g2 HG.out hg)
  have h1 : ∀ i, Mut I i → w.heap.size ≤ i := fun i hi => Nat.le_trans hwW (hm1 i hi)
  have h2 : ∀ i, AOwn J i → w.heap.size ≤ i := fun i hi => Nat.le_trans hwW (hm2 i hi)
  clear hg c0 c1 c2 HB HQ hwW hm1 hm2
  have HH := Lib.hid hst
  have HA := Lib.hid ha
  have HEX := Lib.hid hex
  have HM1 := Lib.hid h1
  have HM2 := Lib.hid h2
  clear hst ha hex h1 h2
  go_wp2_with fail
  have a0 : w1.cell? ⟨J.q, 0, none⟩ = some (.pointer (some ⟨I.p, 0, none⟩)) := HA.out.blk.at 0
  go_quiet (fail)
  have hgd : w1.grownBy (w1.drewN nq) none := drewN_grown w1 nq
  replace HH := Lib.hid (HH.out.g hgd)
  replace HA := Lib.hid (HA.out.kept0 hgd)
  replace HG := Lib.hid (g2 HG.out hgd)
  clear hgd a0
  generalize w1.drewN nq = w2 at HH HA HG ⊢
  go_wp2
  go_ret3
  exact ⟨I, J, rfl, HH.out, HA.out, HEX.out, HG.out, HM1.out, HM2.out⟩
set_option maxHeartbeats 2000000 in
theorem rof_bucket (hb : Ints .u64 w ad bs) (hm : MayBe bs S B) :
    Calls Tryz.prog 15 #[.int .i64 3, cfgV ad bs.length c S B] w fun e w' => ∃ I J, e = .returned (.tuple #[.iface 117 (.pointer (some ⟨J.q, 0, none⟩)), .pointer (some ⟨I.p, 0, none⟩), .nilIface]) ∧ StoreAt w' I (st0 bs S B) ∧ BktAt w' J I.p bkt0 ∧ I.ex = BOwn J ∧ w.grownBy w' none ∧
      (∀ i, Mut I i → w.heap.size ≤ i) ∧ (∀ i, BOwn J i → w.heap.size ≤ i) := by
  have HB := Lib.hid hb
  have HM := Lib.hid hm
  clear hb hm
  unfold cfgV
  go_enter Tryz.func15, Tryz.ntmps15
  go_upto_region 1 with (fail)
  refine nmC1 ?_
  intro W b0 hz hg
  obtain ⟨q, hq_q⟩ : ∃ q, q = w.heap.size := ⟨_, rfl⟩
  rw [← hq_q] at b0 hz ⊢
  have HQ_q := Lib.hid hq_q
  clear hq_q
  have HQ := Lib.hid b0
  have HG := Lib.hid hg
  clear b0 hg
  replace HB := Lib.hid (Ints.kept HB.out HG.out)
  obtain ⟨c0, c1, c2⟩ := HQ.out.c3
  go_wp2_with fail
  refine (bof_calls HB.out HM.out).mono ?_
  rintro e w1 ⟨I, J, rfl, hst, ha, hex, hg, hm1, hm2⟩
  have hwW := HG.out.size
  replace HG := Lib.hid (g2 HG.out hg)
  have h1 : ∀ i, Mut I i → w.heap.size ≤ i := fun i hi => Nat.le_trans hwW (hm1 i hi)
  have h2 : ∀ i, BOwn J i → w.heap.size ≤ i := fun i hi => Nat.le_trans hwW (hm2 i hi)
  clear hg c0 c1 c2 HB HQ hwW hm1 hm2
  have HH := Lib.hid hst
  have HA := Lib.hid ha
  have HEX := Lib.hid hex
  have HM1 := Lib.hid h1
  have HM2 := Lib.hid h2
  clear hst ha hex h1 h2
  go_wp2_with fail
  have a0 : w1.cell? ⟨J.q, 0, none⟩ = some (.pointer (some ⟨I.p, 0, none⟩)) := HA.out.blk.at 0
  go_quiet (fail)
  have hgd : w1.grownBy (w1.drewN nq) none := drewN_grown w1 nq
  replace HH := Lib.hid (HH.out.g hgd)
  replace HA := Lib.hid (HA.out.kept0 hgd)
  replace HG := Lib.hid (g2 HG.out hgd)
  clear hgd a0
  generalize w1.drewN nq = w2 at HH HA HG ⊢
  go_wp2
  go_ret3
  exact ⟨I, J, rfl, HH.out, HA.out, HEX.out, HG.out, HM1.out, HM2.out⟩
end
end Go.Proofs.YtndfpmboanohcaaGreatDoor
