/- Contract of array.Of at a configuration that may be. -/
import Derived.Test.YtndfpmboanohcaaGreatDoorSof
namespace Go.Proofs.YtndfpmboanohcaaGreatDoor
set_option maxRecDepth 100000
open Go.RowKit Go.Maps SkipPure

/-- The row at the beginning. -/
def arr0 : Arr := { n := 1, X := fun _ => ⟨1, -1, 0, 0, 0⟩, b := 0 }
section
variable {w : World} {bs : List Int} {S B : Int} {ad : Option Addr} {c : Nat}
theorem aof_calls (hb : Ints .u64 w ad bs) (hm : MayBe bs S B) :
    Calls Tryz.prog 23 #[cfgV ad bs.length c S B] w fun e w' => ∃ I J, e = .returned (.tuple #[.pointer (some ⟨J.q, 0, none⟩), .nilIface]) ∧ StoreAt w' I (st0 bs S B) ∧ ArrAt w' J I.p arr0 ∧ I.ex = AOwn J ∧ w.grownBy w' none ∧
      (∀ i, Mut I i → w.heap.size ≤ i) ∧ (∀ i, AOwn J i → w.heap.size ≤ i) := by
  have HB := Lib.hid hb
  have HM := Lib.hid hm
  clear hb hm
  unfold cfgV
  go_enter Tryz.func23, Tryz.ntmps23
  go_upto_region 1 with (fail)
  refine nmC1 ?_
  intro W b0 hz hg
  obtain ⟨q, hq_q⟩ : ∃ q, q = w.heap.size := ⟨_, rfl⟩
  rw [← hq_q] at b0 hz ⊢
  have HQ_q := Lib.hid hq_q
  clear hq_q
  have HQ := Lib.hid b0
  have HG := Lib.hid hg
  clear b0 hg
  replace HB := Lib.hid (Ints.kept HB.out HG.out)
  obtain ⟨c0, c1, c2⟩ := HQ.out.c3
  go_wp2_with fail
  refine (sof_calls HB.out HM.out).mono ?_
  rintro e w1 ⟨I, rfl, hst, hch, hex, hmu, hg⟩
  have hwW := HG.out.size
  replace HG := Lib.hid (g2 HG.out hg)
  clear hg c0 c1 c2 HB HQ hch
  have hmu2 : ∀ i, Mut I i → w.heap.size ≤ i := fun i hi => Nat.le_trans hwW (hmu i hi)
  have HH := Lib.hid hst
  have HEX := Lib.hid hex
  have HMU := Lib.hid hmu2
  clear hst hex hmu2
  clear hmu hwW
  go_wp2
  go_ret2
  obtain ⟨⟨k1, k2⟩, hz2, hg2⟩ := alloc2 w1 #[.int .u64 1, .int .i64 (-1), .int .u64 0, .int .u64 0, .int .u64 0] #[.pointer (some ⟨I.p, 0, none⟩), .slice (some ⟨w1.heap.size, 0, none⟩) 1 1, .int .u64 0] 150 110
  have hws := HG.out.size
  have hl1 : 0 < bs.length := by have := HM.out.l1; omega
  have hst := HH.out.reex (I := I) hl1 (Chg.of hg2) (AOwn ⟨w1.heap.size + 1, w1.heap.size, 1⟩) (fun i hi => by
    rcases hi with e | e <;> rw [e] <;> right
    · show w1.heap.size ≤ w1.heap.size + 1; omega
    · exact Nat.le_refl _) (fun i hi => by
    rcases hi with e | e <;> rw [e, hz2]
    · show w1.heap.size + 1 < _; omega
    · show w1.heap.size < _; omega)
  refine ⟨{ I with ex := AOwn ⟨w1.heap.size + 1, w1.heap.size, 1⟩ }, ⟨w1.heap.size + 1, w1.heap.size, 1⟩, rfl, hst, ⟨k2, ⟨Nat.le_refl _, by show 1 ≤ maxLen; unfold maxLen; omega, _, k1, rfl, ?_⟩, by show w1.heap.size + 1 ≠ w1.heap.size; omega, by show 1 ≤ 100000; omega⟩, rfl, g2 HG.out hg2, HMU.out, fun i hi => ?_⟩
  · intro i hi t ht
    have e : i = 0 := by have : i < 1 := hi; omega
    subst e
    exact five (P := fun t => (#[Value.int .u64 1, .int .i64 (-1), .int .u64 0, .int .u64 0, .int .u64 0] : Array Value)[0 * 5 + t]? = some (fld (arr0.X 0) t)) rfl rfl rfl rfl rfl t ht
  · rcases hi with e | e <;> rw [e]
    · show _ ≤ w1.heap.size + 1; omega
    · exact hws
end
end Go.Proofs.YtndfpmboanohcaaGreatDoor
