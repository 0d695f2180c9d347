/- Contract of viable.leaf. -/
import Derived.Test.YtndfpmboanohcaaGreatDoorKids
namespace Go.Proofs.YtndfpmboanohcaaGreatDoor
set_option maxRecDepth 100000
open Go.RowKit Go.Maps SkipPure

/-- A view's value. -/
def viewV (je jr fe fr ep : Int) (m : Nat) : Value := .agg #[.int .i64 je, .int .u64 jr, .int .i64 fe, .int .u64 fr, .int .i64 ep, .map (some m)]
/-- Sources as they lie in the map. -/
def srcs (G : Int → Option Int) : Int → Option Value := fun r => (G r).map fun x => .int .i64 x
def leafF (F : Int → Option (Int × Int × Int)) (f : Int) (G : Int → Option Int) (je fr ep root : Int) : Bool :=
  (je == 0 || (G root).getD 0 == je || decide (ep ≤ (G root).getD 0 + 2)) && belowT F f root fr

theorem zeroI (w : World) : (zeroValue 3).run Tryz.prog w = .ok (.int .i64 0) w := by kernel_rfl

theorem leaf_calls {w : World} {p b n : Nat} {f : Int} {F : Int → Option (Int × Int × Int)} (h : TreeAt w p b n f F) (W : WellT f F) {m mn : Nat} {G : Int → Option Int} (hG : RawMap Tryz.prog 27 w m mn (srcs G))
    {je jr fe fr ep root : Int} (hr : inU root) (hf : inU fr) (hs : 0 ≤ (G root).getD 0 ∧ (G root).getD 0 ≤ 1099511627776) :
    Calls Tryz.prog 154 #[.pointer (some ⟨p, 0, none⟩), viewV je jr fe fr ep m, .int .u64 root] w fun e w' => e = .returned (.bool (leafF F f G je fr ep root)) ∧ w.grownBy w' none := by
  have HH := Lib.hid h
  have HM := Lib.hid hG
  clear h hG
  unfold viewV leafF
  have hg := World.grownBy_alloc w (Obj.cells #[.int .i64 je, .int .u64 jr, .int .i64 fe, .int .u64 fr, .int .i64 ep, .map (some m)] 278) none
  have hlk := (HM.out.kept hg (by simp)).look (mt := 276) Tryz.underlying27 Tryz.underlying276 (zeroI _) hr
  obtain ⟨s, hse⟩ : ∃ s, s = (G root).getD 0 := ⟨_, rfl⟩
  have e1 : (srcs G root).getD (.int .i64 0) = .int .i64 s := by rw [hse]; unfold srcs; cases G root <;> rfl
  rw [e1] at hlk
  rw [← hse] at hs ⊢
  have HG := Lib.hid hg
  obtain ⟨hs0, hs1⟩ := hs
  clear e1 hse hg
  obtain ⟨B, hB⟩ : ∃ B, B = belowT F f root fr := ⟨_, rfl⟩
  rw [← hB]
  have hbel := tbelow_calls (HH.out.kept HG.out (by simp)) W hr hf
  rw [← hB] at hbel
  have HBEL := Lib.hid hbel
  clear hbel hB
  cases g0 : je == 0 <;> cases g1 : s == je <;> cases g3 : decide (ep ≤ s + 2)
  all_goals
    go_enter Tryz.func154, Tryz.ntmps154
    go_wp2_with (go_at_call 70; refine HBEL.out.mono ?_; rintro e w2 ⟨rfl, hg2⟩; have HG2 := Lib.hid (g2 HG.out hg2); clear hg2)
    go_ret
    first
      | exact ⟨by simp, HG2.out⟩
      | exact ⟨by simp, HG.out⟩
end Go.Proofs.YtndfpmboanohcaaGreatDoor
