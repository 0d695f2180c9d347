/-
  NARROWER THAN 'FOR EVERY INPUT', by the rows' own cells (each row's printed sentence says how): TopJumps: laid · TopMade: laid · TopTicks: laid.
  DERIVED. THE GIVEN ROWS OF THIS SEAT. 3 by the template 'for every input the law returns true; each argument reads behind the call as it read before'; 0 by the template 'total and deterministic' (their statements: YtndfpmboanohcaaGreatDoorTotals.lean).
  GIVEN WITH THE SEED: the statements are not yours to turn. If you find one false, say at which input.
  Laid BY PROGRAM, IN A SANDBOX (cutbox-rows.mjs): the forced cells as the released guide's own fill.sh prints them over the translation f738454b9ff6c817… (all of the seat's roots in one cut). By AI agents, Wed Nov 11 2026. No macro, syntax, notation, axiom, sorry.
-/
import Derived.Test.YtndfpmboanohcaaGreatDoorChecked
import GoSem.Claim
import GoSem.ClaimJoined
import GoSem.ClaimMapViews
import Derived.JoinedTies
import Derived.KernelRfl
namespace Go.Proofs.YtndfpmboanohcaaGreatDoor
/- THE CELL 'sum', in the pinned program and in every row, IS THE sha256 OF THE DUMP (.gsa) THAT YtndfpmboanohcaaGreatDoorProg.lean LOADS. Nothing in Lean hashes anything: it is a label: what it is worth is what the hold of that sum in a sandbox is worth. -/
noncomputable def Tryz.pinned : Pinned := { name := "ytndfpmboanohcaagreatdoor", sum := "f738454b9ff6c8177cace92018c47cebef825ce06d686faa1fee3bf0c1a9cfa7", checked := Tryz.checked }
namespace Rows
def none {H : Type} : Left H := { results := [], args := [] }

/- WHAT THE LISTED PACKAGE-LEVEL VARIABLES READ AS WHEN THE CALL BEGINS. Each datum BY PROGRAM (the guide's laid-datum.mjs) off the statement by which the dump's own 'gosem.cut.vars' lays the variable. In a bare row this is a premise. The card (YtndfpmboanohcaaGreatDoorCards.lean) ties it to the program's text. -/
def laid_errors_errorType {H : Type} : DataW H := .iface "internal/reflectlite.rtype" (.agg [.ptr (.lit (.string [101, 114, 114, 111, 114]))])

/-- 'psephostop.TopJumps': WHATEVER THE INPUT: true; the input reads as it did. -/
def topJumpsSpec : ChangeSpec := { name := "topJumps", fn := fun _ => fun
  | [d1, d2, d3] => { results := [.lit (.bool true)], args := [d1, d2, d3] }
  | _ => none }
def topJumpsRow : OpenClaim := { program := "ytndfpmboanohcaagreatdoor", sum := "f738454b9ff6c8177cace92018c47cebef825ce06d686faa1fee3bf0c1a9cfa7", func := "psephos/psephostop.TopJumps", spec := "topJumps", inPlace := ["internal/reflectlite.ValueOf", "(internal/reflectlite.Value).Type", "(internal/reflectlite.Value).IsNil", "internal/reflectlite.TypeOf", "(internal/reflectlite.Value).Elem", "(internal/reflectlite.Value).Set"], unfollowed := true, recurses := true, named := ["errors.errorType"], apart := false, laid := [("errors.errorType", laid_errors_errorType)] }
def TopJumpsSaid : Prop := topJumpsRow.holds Tryz.pinned (OpenSpec.ofChange topJumpsSpec)

/-- ITS FALSE NEIGHBOUR: 'it returns false'. Refute it at one input. -/
def topJumpsWrong : ChangeSpec := { name := "topJumps", fn := fun _ => fun
  | [d1, d2, d3] => { results := [.lit (.bool false)], args := [d1, d2, d3] }
  | _ => none }
def TopJumpsWrongFalsely : Prop := topJumpsRow.holds Tryz.pinned (OpenSpec.ofChange topJumpsWrong)

/-- 'psephostop.TopMade': WHATEVER THE INPUT: true; the input reads as it did. -/
def topMadeSpec : ChangeSpec := { name := "topMade", fn := fun _ => fun
  | [d1, d2, d3] => { results := [.lit (.bool true)], args := [d1, d2, d3] }
  | _ => none }
def topMadeRow : OpenClaim := { program := "ytndfpmboanohcaagreatdoor", sum := "f738454b9ff6c8177cace92018c47cebef825ce06d686faa1fee3bf0c1a9cfa7", func := "psephos/psephostop.TopMade", spec := "topMade", inPlace := ["internal/reflectlite.ValueOf", "(internal/reflectlite.Value).Type", "(internal/reflectlite.Value).IsNil", "internal/reflectlite.TypeOf", "(internal/reflectlite.Value).Elem", "(internal/reflectlite.Value).Set"], unfollowed := true, recurses := true, named := ["errors.errorType"], apart := false, laid := [("errors.errorType", laid_errors_errorType)] }
def TopMadeSaid : Prop := topMadeRow.holds Tryz.pinned (OpenSpec.ofChange topMadeSpec)

/-- ITS FALSE NEIGHBOUR: 'it returns false'. Refute it at one input. -/
def topMadeWrong : ChangeSpec := { name := "topMade", fn := fun _ => fun
  | [d1, d2, d3] => { results := [.lit (.bool false)], args := [d1, d2, d3] }
  | _ => none }
def TopMadeWrongFalsely : Prop := topMadeRow.holds Tryz.pinned (OpenSpec.ofChange topMadeWrong)

/-- 'psephostop.TopTicks': WHATEVER THE INPUT: true; the input reads as it did. -/
def topTicksSpec : ChangeSpec := { name := "topTicks", fn := fun _ => fun
  | [d1, d2, d3, d4] => { results := [.lit (.bool true)], args := [d1, d2, d3, d4] }
  | _ => none }
def topTicksRow : OpenClaim := { program := "ytndfpmboanohcaagreatdoor", sum := "f738454b9ff6c8177cace92018c47cebef825ce06d686faa1fee3bf0c1a9cfa7", func := "psephos/psephostop.TopTicks", spec := "topTicks", inPlace := ["internal/reflectlite.ValueOf", "(internal/reflectlite.Value).Type", "(internal/reflectlite.Value).IsNil", "internal/reflectlite.TypeOf", "(internal/reflectlite.Value).Elem", "(internal/reflectlite.Value).Set"], unfollowed := true, recurses := true, named := ["errors.errorType"], apart := false, laid := [("errors.errorType", laid_errors_errorType)] }
def TopTicksSaid : Prop := topTicksRow.holds Tryz.pinned (OpenSpec.ofChange topTicksSpec)

/-- ITS FALSE NEIGHBOUR: 'it returns false'. Refute it at one input. -/
def topTicksWrong : ChangeSpec := { name := "topTicks", fn := fun _ => fun
  | [d1, d2, d3, d4] => { results := [.lit (.bool false)], args := [d1, d2, d3, d4] }
  | _ => none }
def TopTicksWrongFalsely : Prop := topTicksRow.holds Tryz.pinned (OpenSpec.ofChange topTicksWrong)

/- THE SECOND FORM. 'bulk': how many values and letters a reading holds, each counted each time it is reached (what is shared counts as often as it is met; a slice's spare places count too). A statement '..UptoSaid' is the law's where the arguments, and the package variables that the reading takes, are together of bulk at most 1048576: NARROWER than '..Said'. Prove '..Said' where nothing that the law and all that it calls make is longer than what came in: it says more and counts as full. Else prove '..UptoSaid'. A law counts once. -/
mutual
def uptoBulk {H : Type} : DataW H → Nat
  | .lit (.string bytes) => bytes.length + 1
  | .lit _ => 1
  | .nil => 1
  | .ptr d => uptoBulk d + 1
  | .slice elems spare => uptoBulkAll elems + uptoBulkAll spare + 1
  | .agg parts => uptoBulkAll parts + 1
  | .iface _ d => uptoBulk d + 1
  | .map entries => uptoBulkEntries entries + 1
  | .held _ => 1
def uptoBulkAll {H : Type} : List (DataW H) → Nat
  | [] => 0
  | d :: r => uptoBulk d + uptoBulkAll r
def uptoBulkEntries {H : Type} : List (Lit × DataW H) → Nat
  | [] => 0
  | x :: r => uptoBulkEntry x + uptoBulkEntries r
def uptoBulkEntry {H : Type} : Lit × DataW H → Nat
  | (.string bytes, d) => bytes.length + uptoBulk d + 1
  | (_, d) => uptoBulk d + 1
 end
def uptoSmall : (H : Type) → List (DataW H) → Bool := fun _ ds => decide (uptoBulkAll ds ≤ 1048576)
def OpenSpec.upto (s : _root_.Go.ChangeSpec) : _root_.Go.OpenSpec := { _root_.Go.OpenSpec.ofChange s with cond := some uptoSmall }

/-- 'psephostop.TopJumps', WHERE WHAT IT READS IS OF BULK AT MOST 1048576: true; the input reads as it did. -/
def topJumpsUptoRow : OpenClaim := { program := "ytndfpmboanohcaagreatdoor", sum := "f738454b9ff6c8177cace92018c47cebef825ce06d686faa1fee3bf0c1a9cfa7", func := "psephos/psephostop.TopJumps", spec := "topJumps", inPlace := ["internal/reflectlite.ValueOf", "(internal/reflectlite.Value).Type", "(internal/reflectlite.Value).IsNil", "internal/reflectlite.TypeOf", "(internal/reflectlite.Value).Elem", "(internal/reflectlite.Value).Set"], unfollowed := true, recurses := true, named := ["errors.errorType"], apart := false, laid := [("errors.errorType", laid_errors_errorType)], narrowed := true }
def TopJumpsUptoSaid : Prop := topJumpsUptoRow.holds Tryz.pinned (OpenSpec.upto topJumpsSpec)

/-- 'psephostop.TopMade', WHERE WHAT IT READS IS OF BULK AT MOST 1048576: true; the input reads as it did. -/
def topMadeUptoRow : OpenClaim := { program := "ytndfpmboanohcaagreatdoor", sum := "f738454b9ff6c8177cace92018c47cebef825ce06d686faa1fee3bf0c1a9cfa7", func := "psephos/psephostop.TopMade", spec := "topMade", inPlace := ["internal/reflectlite.ValueOf", "(internal/reflectlite.Value).Type", "(internal/reflectlite.Value).IsNil", "internal/reflectlite.TypeOf", "(internal/reflectlite.Value).Elem", "(internal/reflectlite.Value).Set"], unfollowed := true, recurses := true, named := ["errors.errorType"], apart := false, laid := [("errors.errorType", laid_errors_errorType)], narrowed := true }
def TopMadeUptoSaid : Prop := topMadeUptoRow.holds Tryz.pinned (OpenSpec.upto topMadeSpec)

/-- 'psephostop.TopTicks', WHERE WHAT IT READS IS OF BULK AT MOST 1048576: true; the input reads as it did. -/
def topTicksUptoRow : OpenClaim := { program := "ytndfpmboanohcaagreatdoor", sum := "f738454b9ff6c8177cace92018c47cebef825ce06d686faa1fee3bf0c1a9cfa7", func := "psephos/psephostop.TopTicks", spec := "topTicks", inPlace := ["internal/reflectlite.ValueOf", "(internal/reflectlite.Value).Type", "(internal/reflectlite.Value).IsNil", "internal/reflectlite.TypeOf", "(internal/reflectlite.Value).Elem", "(internal/reflectlite.Value).Set"], unfollowed := true, recurses := true, named := ["errors.errorType"], apart := false, laid := [("errors.errorType", laid_errors_errorType)], narrowed := true }
def TopTicksUptoSaid : Prop := topTicksUptoRow.holds Tryz.pinned (OpenSpec.upto topTicksSpec)

end Rows
end Go.Proofs.YtndfpmboanohcaaGreatDoor
