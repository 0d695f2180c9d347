/-
  No cell of these rows narrows 'for every input' (looked for: loops, veiled, ifaces, maps, wideKeys, modest, calm, conditions, laid).
  DERIVED. THE GIVEN ROWS OF THIS SEAT. 7 by the template 'for every input the law returns true; each argument reads behind the call as it read before'; 0 by the template 'total and deterministic' (their statements: YtopkmjicahgmaaaTotals.lean).
  GIVEN WITH THE SEED: the statements are not yours to turn. If you find one false, say at which input.
  Laid BY PROGRAM, IN A SANDBOX (cutbox-rows.mjs): the forced cells as the released guide's own fill.sh prints them over the translation 242bd9639ee70e6c… (all of the seat's roots in one cut). By AI agents, Wed Nov 11 2026. No macro, syntax, notation, axiom, sorry.
-/
import Derived.Test.YtopkmjicahgmaaaChecked
import GoSem.Claim
import GoSem.ClaimJoined
import GoSem.ClaimMapViews
import Derived.JoinedTies
import Derived.KernelRfl
namespace Go.Proofs.Ytopkmjicahgmaaa
/- THE CELL 'sum', in the pinned program and in every row, IS THE sha256 OF THE DUMP (.gsa) THAT YtopkmjicahgmaaaProg.lean LOADS. Nothing in Lean hashes anything: it is a label: what it is worth is what the hold of that sum in a sandbox is worth. -/
noncomputable def Try.pinned : Pinned := { name := "ytopkmjicahgmaaa", sum := "242bd9639ee70e6c919b444612238e98f7b8c4284c487e8cb0602fcb648512bc", checked := Try.checked }
namespace Rows
def none {H : Type} : Left H := { results := [], args := [] }

/-- 'psephoslaw07.QuorumEnough': WHATEVER THE INPUT: true; the input reads as it did. -/
def quorumEnoughSpec : ChangeSpec := { name := "quorumEnough", fn := fun _ => fun
  | [d1, d2] => { results := [.lit (.bool true)], args := [d1, d2] }
  | _ => none }
def quorumEnoughRow : OpenClaim := { program := "ytopkmjicahgmaaa", sum := "242bd9639ee70e6c919b444612238e98f7b8c4284c487e8cb0602fcb648512bc", func := "psephos/psephoslaw07.QuorumEnough", spec := "quorumEnough", apart := false }
def QuorumEnoughSaid : Prop := quorumEnoughRow.holds Try.pinned (OpenSpec.ofChange quorumEnoughSpec)

/-- ITS FALSE NEIGHBOUR: 'it returns false'. Refute it at one input. -/
def quorumEnoughWrong : ChangeSpec := { name := "quorumEnough", fn := fun _ => fun
  | [d1, d2] => { results := [.lit (.bool false)], args := [d1, d2] }
  | _ => none }
def QuorumEnoughWrongFalsely : Prop := quorumEnoughRow.holds Try.pinned (OpenSpec.ofChange quorumEnoughWrong)

/-- 'psephoslaw07.QuorumMeet': WHATEVER THE INPUT: true; the input reads as it did. -/
def quorumMeetSpec : ChangeSpec := { name := "quorumMeet", fn := fun _ => fun
  | [d1, d2, d3] => { results := [.lit (.bool true)], args := [d1, d2, d3] }
  | _ => none }
def quorumMeetRow : OpenClaim := { program := "ytopkmjicahgmaaa", sum := "242bd9639ee70e6c919b444612238e98f7b8c4284c487e8cb0602fcb648512bc", func := "psephos/psephoslaw07.QuorumMeet", spec := "quorumMeet", apart := false }
def QuorumMeetSaid : Prop := quorumMeetRow.holds Try.pinned (OpenSpec.ofChange quorumMeetSpec)

/-- ITS FALSE NEIGHBOUR: 'it returns false'. Refute it at one input. -/
def quorumMeetWrong : ChangeSpec := { name := "quorumMeet", fn := fun _ => fun
  | [d1, d2, d3] => { results := [.lit (.bool false)], args := [d1, d2, d3] }
  | _ => none }
def QuorumMeetWrongFalsely : Prop := quorumMeetRow.holds Try.pinned (OpenSpec.ofChange quorumMeetWrong)

/-- 'psephoslaw07.QuorumThird': WHATEVER THE INPUT: true; the input reads as it did. -/
def quorumThirdSpec : ChangeSpec := { name := "quorumThird", fn := fun _ => fun
  | [d1, d2, d3] => { results := [.lit (.bool true)], args := [d1, d2, d3] }
  | _ => none }
def quorumThirdRow : OpenClaim := { program := "ytopkmjicahgmaaa", sum := "242bd9639ee70e6c919b444612238e98f7b8c4284c487e8cb0602fcb648512bc", func := "psephos/psephoslaw07.QuorumThird", spec := "quorumThird", apart := false }
def QuorumThirdSaid : Prop := quorumThirdRow.holds Try.pinned (OpenSpec.ofChange quorumThirdSpec)

/-- ITS FALSE NEIGHBOUR: 'it returns false'. Refute it at one input. -/
def quorumThirdWrong : ChangeSpec := { name := "quorumThird", fn := fun _ => fun
  | [d1, d2, d3] => { results := [.lit (.bool false)], args := [d1, d2, d3] }
  | _ => none }
def QuorumThirdWrongFalsely : Prop := quorumThirdRow.holds Try.pinned (OpenSpec.ofChange quorumThirdWrong)

/-- 'psephoslaw07.QuorumMore': WHATEVER THE INPUT: true; the input reads as it did. -/
def quorumMoreSpec : ChangeSpec := { name := "quorumMore", fn := fun _ => fun
  | [d1, d2, d3] => { results := [.lit (.bool true)], args := [d1, d2, d3] }
  | _ => none }
def quorumMoreRow : OpenClaim := { program := "ytopkmjicahgmaaa", sum := "242bd9639ee70e6c919b444612238e98f7b8c4284c487e8cb0602fcb648512bc", func := "psephos/psephoslaw07.QuorumMore", spec := "quorumMore", apart := false }
def QuorumMoreSaid : Prop := quorumMoreRow.holds Try.pinned (OpenSpec.ofChange quorumMoreSpec)

/-- ITS FALSE NEIGHBOUR: 'it returns false'. Refute it at one input. -/
def quorumMoreWrong : ChangeSpec := { name := "quorumMore", fn := fun _ => fun
  | [d1, d2, d3] => { results := [.lit (.bool false)], args := [d1, d2, d3] }
  | _ => none }
def QuorumMoreWrongFalsely : Prop := quorumMoreRow.holds Try.pinned (OpenSpec.ofChange quorumMoreWrong)

/-- 'psephoslaw07.QuorumExact': WHATEVER THE INPUT: true; the input reads as it did. -/
def quorumExactSpec : ChangeSpec := { name := "quorumExact", fn := fun _ => fun
  | [d1, d2] => { results := [.lit (.bool true)], args := [d1, d2] }
  | _ => none }
def quorumExactRow : OpenClaim := { program := "ytopkmjicahgmaaa", sum := "242bd9639ee70e6c919b444612238e98f7b8c4284c487e8cb0602fcb648512bc", func := "psephos/psephoslaw07.QuorumExact", spec := "quorumExact", apart := false }
def QuorumExactSaid : Prop := quorumExactRow.holds Try.pinned (OpenSpec.ofChange quorumExactSpec)

/-- ITS FALSE NEIGHBOUR: 'it returns false'. Refute it at one input. -/
def quorumExactWrong : ChangeSpec := { name := "quorumExact", fn := fun _ => fun
  | [d1, d2] => { results := [.lit (.bool false)], args := [d1, d2] }
  | _ => none }
def QuorumExactWrongFalsely : Prop := quorumExactRow.holds Try.pinned (OpenSpec.ofChange quorumExactWrong)

/-- 'psephoslaw07.QuorumLeft': WHATEVER THE INPUT: true; the input reads as it did. -/
def quorumLeftSpec : ChangeSpec := { name := "quorumLeft", fn := fun _ => fun
  | [d1, d2] => { results := [.lit (.bool true)], args := [d1, d2] }
  | _ => none }
def quorumLeftRow : OpenClaim := { program := "ytopkmjicahgmaaa", sum := "242bd9639ee70e6c919b444612238e98f7b8c4284c487e8cb0602fcb648512bc", func := "psephos/psephoslaw07.QuorumLeft", spec := "quorumLeft", apart := false }
def QuorumLeftSaid : Prop := quorumLeftRow.holds Try.pinned (OpenSpec.ofChange quorumLeftSpec)

/-- ITS FALSE NEIGHBOUR: 'it returns false'. Refute it at one input. -/
def quorumLeftWrong : ChangeSpec := { name := "quorumLeft", fn := fun _ => fun
  | [d1, d2] => { results := [.lit (.bool false)], args := [d1, d2] }
  | _ => none }
def QuorumLeftWrongFalsely : Prop := quorumLeftRow.holds Try.pinned (OpenSpec.ofChange quorumLeftWrong)

/-- 'psephoslaw07.QuorumNone': WHATEVER THE INPUT: true; the input reads as it did. -/
def quorumNoneSpec : ChangeSpec := { name := "quorumNone", fn := fun _ => fun
  | [d] => { results := [.lit (.bool true)], args := [d] }
  | _ => none }
def quorumNoneRow : OpenClaim := { program := "ytopkmjicahgmaaa", sum := "242bd9639ee70e6c919b444612238e98f7b8c4284c487e8cb0602fcb648512bc", func := "psephos/psephoslaw07.QuorumNone", spec := "quorumNone", apart := false }
def QuorumNoneSaid : Prop := quorumNoneRow.holds Try.pinned (OpenSpec.ofChange quorumNoneSpec)

/-- ITS FALSE NEIGHBOUR: 'it returns false'. Refute it at one input. -/
def quorumNoneWrong : ChangeSpec := { name := "quorumNone", fn := fun _ => fun
  | [d] => { results := [.lit (.bool false)], args := [d] }
  | _ => none }
def QuorumNoneWrongFalsely : Prop := quorumNoneRow.holds Try.pinned (OpenSpec.ofChange quorumNoneWrong)

/- THE SECOND FORM. 'bulk': how many values and letters a reading holds, each counted each time it is reached (what is shared counts as often as it is met; a slice's spare places count too). A statement '..UptoSaid' is the law's where the arguments, and the package variables that the reading takes, are together of bulk at most 1048576: NARROWER than '..Said'. Prove '..Said' where nothing that the law and all that it calls make is longer than what came in: it says more and counts as full. Else prove '..UptoSaid'. A law counts once. -/
mutual
def uptoBulk {H : Type} : DataW H → Nat
  | .lit (.string bytes) => bytes.length + 1
  | .lit _ => 1
  | .nil => 1
  | .ptr d => uptoBulk d + 1
  | .slice elems spare => uptoBulkAll elems + uptoBulkAll spare + 1
  | .agg parts => uptoBulkAll parts + 1
  | .iface _ d => uptoBulk d + 1
  | .map entries => uptoBulkEntries entries + 1
  | .held _ => 1
def uptoBulkAll {H : Type} : List (DataW H) → Nat
  | [] => 0
  | d :: r => uptoBulk d + uptoBulkAll r
def uptoBulkEntries {H : Type} : List (Lit × DataW H) → Nat
  | [] => 0
  | x :: r => uptoBulkEntry x + uptoBulkEntries r
def uptoBulkEntry {H : Type} : Lit × DataW H → Nat
  | (.string bytes, d) => bytes.length + uptoBulk d + 1
  | (_, d) => uptoBulk d + 1
 end
def uptoSmall : (H : Type) → List (DataW H) → Bool := fun _ ds => decide (uptoBulkAll ds ≤ 1048576)
def OpenSpec.upto (s : _root_.Go.ChangeSpec) : _root_.Go.OpenSpec := { _root_.Go.OpenSpec.ofChange s with cond := some uptoSmall }

/-- 'psephoslaw07.QuorumEnough', WHERE WHAT IT READS IS OF BULK AT MOST 1048576: true; the input reads as it did. -/
def quorumEnoughUptoRow : OpenClaim := { program := "ytopkmjicahgmaaa", sum := "242bd9639ee70e6c919b444612238e98f7b8c4284c487e8cb0602fcb648512bc", func := "psephos/psephoslaw07.QuorumEnough", spec := "quorumEnough", apart := false, narrowed := true }
def QuorumEnoughUptoSaid : Prop := quorumEnoughUptoRow.holds Try.pinned (OpenSpec.upto quorumEnoughSpec)

/-- 'psephoslaw07.QuorumMeet', WHERE WHAT IT READS IS OF BULK AT MOST 1048576: true; the input reads as it did. -/
def quorumMeetUptoRow : OpenClaim := { program := "ytopkmjicahgmaaa", sum := "242bd9639ee70e6c919b444612238e98f7b8c4284c487e8cb0602fcb648512bc", func := "psephos/psephoslaw07.QuorumMeet", spec := "quorumMeet", apart := false, narrowed := true }
def QuorumMeetUptoSaid : Prop := quorumMeetUptoRow.holds Try.pinned (OpenSpec.upto quorumMeetSpec)

/-- 'psephoslaw07.QuorumThird', WHERE WHAT IT READS IS OF BULK AT MOST 1048576: true; the input reads as it did. -/
def quorumThirdUptoRow : OpenClaim := { program := "ytopkmjicahgmaaa", sum := "242bd9639ee70e6c919b444612238e98f7b8c4284c487e8cb0602fcb648512bc", func := "psephos/psephoslaw07.QuorumThird", spec := "quorumThird", apart := false, narrowed := true }
def QuorumThirdUptoSaid : Prop := quorumThirdUptoRow.holds Try.pinned (OpenSpec.upto quorumThirdSpec)

/-- 'psephoslaw07.QuorumMore', WHERE WHAT IT READS IS OF BULK AT MOST 1048576: true; the input reads as it did. -/
def quorumMoreUptoRow : OpenClaim := { program := "ytopkmjicahgmaaa", sum := "242bd9639ee70e6c919b444612238e98f7b8c4284c487e8cb0602fcb648512bc", func := "psephos/psephoslaw07.QuorumMore", spec := "quorumMore", apart := false, narrowed := true }
def QuorumMoreUptoSaid : Prop := quorumMoreUptoRow.holds Try.pinned (OpenSpec.upto quorumMoreSpec)

/-- 'psephoslaw07.QuorumExact', WHERE WHAT IT READS IS OF BULK AT MOST 1048576: true; the input reads as it did. -/
def quorumExactUptoRow : OpenClaim := { program := "ytopkmjicahgmaaa", sum := "242bd9639ee70e6c919b444612238e98f7b8c4284c487e8cb0602fcb648512bc", func := "psephos/psephoslaw07.QuorumExact", spec := "quorumExact", apart := false, narrowed := true }
def QuorumExactUptoSaid : Prop := quorumExactUptoRow.holds Try.pinned (OpenSpec.upto quorumExactSpec)

/-- 'psephoslaw07.QuorumLeft', WHERE WHAT IT READS IS OF BULK AT MOST 1048576: true; the input reads as it did. -/
def quorumLeftUptoRow : OpenClaim := { program := "ytopkmjicahgmaaa", sum := "242bd9639ee70e6c919b444612238e98f7b8c4284c487e8cb0602fcb648512bc", func := "psephos/psephoslaw07.QuorumLeft", spec := "quorumLeft", apart := false, narrowed := true }
def QuorumLeftUptoSaid : Prop := quorumLeftUptoRow.holds Try.pinned (OpenSpec.upto quorumLeftSpec)

/-- 'psephoslaw07.QuorumNone', WHERE WHAT IT READS IS OF BULK AT MOST 1048576: true; the input reads as it did. -/
def quorumNoneUptoRow : OpenClaim := { program := "ytopkmjicahgmaaa", sum := "242bd9639ee70e6c919b444612238e98f7b8c4284c487e8cb0602fcb648512bc", func := "psephos/psephoslaw07.QuorumNone", spec := "quorumNone", apart := false, narrowed := true }
def QuorumNoneUptoSaid : Prop := quorumNoneUptoRow.holds Try.pinned (OpenSpec.upto quorumNoneSpec)

end Rows
end Go.Proofs.Ytopkmjicahgmaaa
