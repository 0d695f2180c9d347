/- Contract of (*store.Store).raise where nothing is later. -/
import Derived.Test.YtndfpmboanohcaaGreatDoorSto2
import Derived.BigQuiet
import Derived.Deep.QuietTactic
namespace Go.Proofs.YtndfpmboanohcaaGreatDoor
set_option maxRecDepth 100000
open Go.RowKit Go.Maps SkipPure

section
variable {w : World} {I : Ids} {σ : St}
theorem raise_still (h : StoreAt w I σ) {je jr fe fr : Int} (hj : je ≤ σ.je) (hf : fe ≤ σ.fe) :
    Calls Tryz.prog 54 #[.pointer (some ⟨I.p, 0, none⟩), .agg #[.int .i64 je, .int .u64 jr], .agg #[.int .i64 fe, .int .u64 fr]] w fun e w' => e = .returned (.tuple #[]) ∧ w.grownBy w' none := by
  have HH := Lib.hid h
  have HH0 := Lib.hid h
  have hpl := h.blk.lt
  clear h
  go_enter Tryz.func54, Tryz.ntmps54
  go_upto_region 1 with (fail)
  refine nmC2 ?_
  intro W b0 b1 hz hg
  obtain ⟨q, hq_q⟩ : ∃ q, q = w.heap.size := ⟨_, rfl⟩
  rw [← hq_q] at b0 b1 hz hpl ⊢
  have HQ_q := Lib.hid hq_q
  clear hq_q
  have HB0 := Lib.hid b0
  have HB1 := Lib.hid b1
  have HG := Lib.hid hg
  clear b0 b1 hg
  replace HH := Lib.hid (HH.out.g HG.out)
  obtain ⟨c0, c1⟩ := HB0.out.c2
  obtain ⟨e0, e1⟩ := HB1.out.c2
  obtain ⟨_, _, _, _, _, _, _, d7, _, d9, _, _, _, _⟩ := HH.out.blk.c14
  have g1 : ¬ σ.je < je := by omega
  have g3 : fe ≤ σ.fe := hf
  clear hf hj
  go_quiet (fail)
  go_upto_region 3 with (fail)
  go_quiet (fail)
  go_wp2
  (try simp only [Exit.inBlock, Exit.then]); refine bodyPost_ret (results_none rfl _ _ _) rfl ?_
  exact ⟨rfl, g2 HG.out (drewN_grown W _)⟩
end
end Go.Proofs.YtndfpmboanohcaaGreatDoor
