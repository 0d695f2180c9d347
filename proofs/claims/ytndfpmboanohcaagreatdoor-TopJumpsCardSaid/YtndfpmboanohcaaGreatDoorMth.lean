/- Which function an engine's method is. -/
import Derived.Test.YtndfpmboanohcaaGreatDoorAwk
namespace Go.Proofs.YtndfpmboanohcaaGreatDoor
set_option maxRecDepth 100000
open Go.RowKit Go.Maps SkipPure
theorem me_feedA (q : Nat) (w : World) : (method 402 105 (.pointer (some ⟨q, 0, none⟩)) "Feed").run Tryz.prog w = .ok (157, .pointer (some ⟨q, 0, none⟩)) w := by kernel_rfl
theorem me_headA (q : Nat) (w : World) : (method 402 105 (.pointer (some ⟨q, 0, none⟩)) "Head").run Tryz.prog w = .ok (158, .pointer (some ⟨q, 0, none⟩)) w := by kernel_rfl
theorem me_feedB (q : Nat) (w : World) : (method 402 117 (.pointer (some ⟨q, 0, none⟩)) "Feed").run Tryz.prog w = .ok (174, .pointer (some ⟨q, 0, none⟩)) w := by kernel_rfl
theorem me_headB (q : Nat) (w : World) : (method 402 117 (.pointer (some ⟨q, 0, none⟩)) "Head").run Tryz.prog w = .ok (175, .pointer (some ⟨q, 0, none⟩)) w := by kernel_rfl
end Go.Proofs.YtndfpmboanohcaaGreatDoor
