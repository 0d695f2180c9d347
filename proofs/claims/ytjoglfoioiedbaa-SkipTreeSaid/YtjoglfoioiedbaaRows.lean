/-
  No cell of these rows narrows 'for every input' (looked for: loops, veiled, ifaces, maps, wideKeys, modest, calm, conditions, laid).
  DERIVED. THE GIVEN ROWS OF THIS SEAT. 6 by the template 'for every input the law returns true; each argument reads behind the call as it read before'; 0 by the template 'total and deterministic' (their statements: YtjoglfoioiedbaaTotals.lean).
  GIVEN WITH THE SEED: the statements are not yours to turn. If you find one false, say at which input.
  Laid BY PROGRAM, IN A SANDBOX (cutbox-rows.mjs): the forced cells as the released guide's own fill.sh prints them over the translation 3826288ba46dc9c7… (all of the seat's roots in one cut). By AI agents, Wed Nov 11 2026. No macro, syntax, notation, axiom, sorry.
-/
import Derived.Test.YtjoglfoioiedbaaChecked
import GoSem.Claim
import GoSem.ClaimJoined
import GoSem.ClaimMapViews
import Derived.JoinedTies
import Derived.KernelRfl
namespace Go.Proofs.Ytjoglfoioiedbaa
/- THE CELL 'sum', in the pinned program and in every row, IS THE sha256 OF THE DUMP (.gsa) THAT YtjoglfoioiedbaaProg.lean LOADS. Nothing in Lean hashes anything: it is a label: what it is worth is what the hold of that sum in a sandbox is worth. -/
noncomputable def Try.pinned : Pinned := { name := "ytjoglfoioiedbaa", sum := "3826288ba46dc9c7ad7576dbfcc93f5471f63ae3eea195679b199feb234ed520", checked := Try.checked }
namespace Rows
def none {H : Type} : Left H := { results := [], args := [] }

/-- 'psephoslaw18.SkipLine': WHATEVER THE INPUT: true; the input reads as it did. -/
def skipLineSpec : ChangeSpec := { name := "skipLine", fn := fun _ => fun
  | [d1, d2] => { results := [.lit (.bool true)], args := [d1, d2] }
  | _ => none }
def skipLineRow : OpenClaim := { program := "ytjoglfoioiedbaa", sum := "3826288ba46dc9c7ad7576dbfcc93f5471f63ae3eea195679b199feb234ed520", func := "psephos/psephoslaw18.SkipLine", spec := "skipLine", apart := false }
def SkipLineSaid : Prop := skipLineRow.holds Try.pinned (OpenSpec.ofChange skipLineSpec)

/-- ITS FALSE NEIGHBOUR: 'it returns false'. Refute it at one input. -/
def skipLineWrong : ChangeSpec := { name := "skipLine", fn := fun _ => fun
  | [d1, d2] => { results := [.lit (.bool false)], args := [d1, d2] }
  | _ => none }
def SkipLineWrongFalsely : Prop := skipLineRow.holds Try.pinned (OpenSpec.ofChange skipLineWrong)

/-- 'psephoslaw18.SkipNone': WHATEVER THE INPUT: true; the input reads as it did. -/
def skipNoneSpec : ChangeSpec := { name := "skipNone", fn := fun _ => fun
  | [d1, d2] => { results := [.lit (.bool true)], args := [d1, d2] }
  | _ => none }
def skipNoneRow : OpenClaim := { program := "ytjoglfoioiedbaa", sum := "3826288ba46dc9c7ad7576dbfcc93f5471f63ae3eea195679b199feb234ed520", func := "psephos/psephoslaw18.SkipNone", spec := "skipNone", apart := false }
def SkipNoneSaid : Prop := skipNoneRow.holds Try.pinned (OpenSpec.ofChange skipNoneSpec)

/-- ITS FALSE NEIGHBOUR: 'it returns false'. Refute it at one input. -/
def skipNoneWrong : ChangeSpec := { name := "skipNone", fn := fun _ => fun
  | [d1, d2] => { results := [.lit (.bool false)], args := [d1, d2] }
  | _ => none }
def SkipNoneWrongFalsely : Prop := skipNoneRow.holds Try.pinned (OpenSpec.ofChange skipNoneWrong)

/-- 'psephoslaw18.SkipStar': WHATEVER THE INPUT: true; the input reads as it did. -/
def skipStarSpec : ChangeSpec := { name := "skipStar", fn := fun _ => fun
  | [d1, d2] => { results := [.lit (.bool true)], args := [d1, d2] }
  | _ => none }
def skipStarRow : OpenClaim := { program := "ytjoglfoioiedbaa", sum := "3826288ba46dc9c7ad7576dbfcc93f5471f63ae3eea195679b199feb234ed520", func := "psephos/psephoslaw18.SkipStar", spec := "skipStar", apart := false }
def SkipStarSaid : Prop := skipStarRow.holds Try.pinned (OpenSpec.ofChange skipStarSpec)

/-- ITS FALSE NEIGHBOUR: 'it returns false'. Refute it at one input. -/
def skipStarWrong : ChangeSpec := { name := "skipStar", fn := fun _ => fun
  | [d1, d2] => { results := [.lit (.bool false)], args := [d1, d2] }
  | _ => none }
def SkipStarWrongFalsely : Prop := skipStarRow.holds Try.pinned (OpenSpec.ofChange skipStarWrong)

/-- 'psephoslaw18.SkipTwice': WHATEVER THE INPUT: true; the input reads as it did. -/
def skipTwiceSpec : ChangeSpec := { name := "skipTwice", fn := fun _ => fun
  | [d1, d2] => { results := [.lit (.bool true)], args := [d1, d2] }
  | _ => none }
def skipTwiceRow : OpenClaim := { program := "ytjoglfoioiedbaa", sum := "3826288ba46dc9c7ad7576dbfcc93f5471f63ae3eea195679b199feb234ed520", func := "psephos/psephoslaw18.SkipTwice", spec := "skipTwice", apart := false }
def SkipTwiceSaid : Prop := skipTwiceRow.holds Try.pinned (OpenSpec.ofChange skipTwiceSpec)

/-- ITS FALSE NEIGHBOUR: 'it returns false'. Refute it at one input. -/
def skipTwiceWrong : ChangeSpec := { name := "skipTwice", fn := fun _ => fun
  | [d1, d2] => { results := [.lit (.bool false)], args := [d1, d2] }
  | _ => none }
def SkipTwiceWrongFalsely : Prop := skipTwiceRow.holds Try.pinned (OpenSpec.ofChange skipTwiceWrong)

/-- 'psephoslaw18.SkipForks': WHATEVER THE INPUT: true; the input reads as it did. -/
def skipForksSpec : ChangeSpec := { name := "skipForks", fn := fun _ => fun
  | [d1, d2, d3] => { results := [.lit (.bool true)], args := [d1, d2, d3] }
  | _ => none }
def skipForksRow : OpenClaim := { program := "ytjoglfoioiedbaa", sum := "3826288ba46dc9c7ad7576dbfcc93f5471f63ae3eea195679b199feb234ed520", func := "psephos/psephoslaw18.SkipForks", spec := "skipForks", apart := false }
def SkipForksSaid : Prop := skipForksRow.holds Try.pinned (OpenSpec.ofChange skipForksSpec)

/-- ITS FALSE NEIGHBOUR: 'it returns false'. Refute it at one input. -/
def skipForksWrong : ChangeSpec := { name := "skipForks", fn := fun _ => fun
  | [d1, d2, d3] => { results := [.lit (.bool false)], args := [d1, d2, d3] }
  | _ => none }
def SkipForksWrongFalsely : Prop := skipForksRow.holds Try.pinned (OpenSpec.ofChange skipForksWrong)

/-- 'psephoslaw18.SkipTree': WHATEVER THE INPUT: true; the input reads as it did. -/
def skipTreeSpec : ChangeSpec := { name := "skipTree", fn := fun _ => fun
  | [d] => { results := [.lit (.bool true)], args := [d] }
  | _ => none }
def skipTreeRow : OpenClaim := { program := "ytjoglfoioiedbaa", sum := "3826288ba46dc9c7ad7576dbfcc93f5471f63ae3eea195679b199feb234ed520", func := "psephos/psephoslaw18.SkipTree", spec := "skipTree", unfollowed := true, recurses := true, apart := false }
def SkipTreeSaid : Prop := skipTreeRow.holds Try.pinned (OpenSpec.ofChange skipTreeSpec)

/-- ITS FALSE NEIGHBOUR: 'it returns false'. Refute it at one input. -/
def skipTreeWrong : ChangeSpec := { name := "skipTree", fn := fun _ => fun
  | [d] => { results := [.lit (.bool false)], args := [d] }
  | _ => none }
def SkipTreeWrongFalsely : Prop := skipTreeRow.holds Try.pinned (OpenSpec.ofChange skipTreeWrong)

/- THE SECOND FORM. 'bulk': how many values and letters a reading holds, each counted each time it is reached (what is shared counts as often as it is met; a slice's spare places count too). A statement '..UptoSaid' is the law's where the arguments, and the package variables that the reading takes, are together of bulk at most 1048576: NARROWER than '..Said'. Prove '..Said' where nothing that the law and all that it calls make is longer than what came in: it says more and counts as full. Else prove '..UptoSaid'. A law counts once. -/
mutual
def uptoBulk {H : Type} : DataW H → Nat
  | .lit (.string bytes) => bytes.length + 1
  | .lit _ => 1
  | .nil => 1
  | .ptr d => uptoBulk d + 1
  | .slice elems spare => uptoBulkAll elems + uptoBulkAll spare + 1
  | .agg parts => uptoBulkAll parts + 1
  | .iface _ d => uptoBulk d + 1
  | .map entries => uptoBulkEntries entries + 1
  | .held _ => 1
def uptoBulkAll {H : Type} : List (DataW H) → Nat
  | [] => 0
  | d :: r => uptoBulk d + uptoBulkAll r
def uptoBulkEntries {H : Type} : List (Lit × DataW H) → Nat
  | [] => 0
  | x :: r => uptoBulkEntry x + uptoBulkEntries r
def uptoBulkEntry {H : Type} : Lit × DataW H → Nat
  | (.string bytes, d) => bytes.length + uptoBulk d + 1
  | (_, d) => uptoBulk d + 1
 end
def uptoSmall : (H : Type) → List (DataW H) → Bool := fun _ ds => decide (uptoBulkAll ds ≤ 1048576)
def OpenSpec.upto (s : _root_.Go.ChangeSpec) : _root_.Go.OpenSpec := { _root_.Go.OpenSpec.ofChange s with cond := some uptoSmall }

/-- 'psephoslaw18.SkipLine', WHERE WHAT IT READS IS OF BULK AT MOST 1048576: true; the input reads as it did. -/
def skipLineUptoRow : OpenClaim := { program := "ytjoglfoioiedbaa", sum := "3826288ba46dc9c7ad7576dbfcc93f5471f63ae3eea195679b199feb234ed520", func := "psephos/psephoslaw18.SkipLine", spec := "skipLine", apart := false, narrowed := true }
def SkipLineUptoSaid : Prop := skipLineUptoRow.holds Try.pinned (OpenSpec.upto skipLineSpec)

/-- 'psephoslaw18.SkipNone', WHERE WHAT IT READS IS OF BULK AT MOST 1048576: true; the input reads as it did. -/
def skipNoneUptoRow : OpenClaim := { program := "ytjoglfoioiedbaa", sum := "3826288ba46dc9c7ad7576dbfcc93f5471f63ae3eea195679b199feb234ed520", func := "psephos/psephoslaw18.SkipNone", spec := "skipNone", apart := false, narrowed := true }
def SkipNoneUptoSaid : Prop := skipNoneUptoRow.holds Try.pinned (OpenSpec.upto skipNoneSpec)

/-- 'psephoslaw18.SkipStar', WHERE WHAT IT READS IS OF BULK AT MOST 1048576: true; the input reads as it did. -/
def skipStarUptoRow : OpenClaim := { program := "ytjoglfoioiedbaa", sum := "3826288ba46dc9c7ad7576dbfcc93f5471f63ae3eea195679b199feb234ed520", func := "psephos/psephoslaw18.SkipStar", spec := "skipStar", apart := false, narrowed := true }
def SkipStarUptoSaid : Prop := skipStarUptoRow.holds Try.pinned (OpenSpec.upto skipStarSpec)

/-- 'psephoslaw18.SkipTwice', WHERE WHAT IT READS IS OF BULK AT MOST 1048576: true; the input reads as it did. -/
def skipTwiceUptoRow : OpenClaim := { program := "ytjoglfoioiedbaa", sum := "3826288ba46dc9c7ad7576dbfcc93f5471f63ae3eea195679b199feb234ed520", func := "psephos/psephoslaw18.SkipTwice", spec := "skipTwice", apart := false, narrowed := true }
def SkipTwiceUptoSaid : Prop := skipTwiceUptoRow.holds Try.pinned (OpenSpec.upto skipTwiceSpec)

/-- 'psephoslaw18.SkipForks', WHERE WHAT IT READS IS OF BULK AT MOST 1048576: true; the input reads as it did. -/
def skipForksUptoRow : OpenClaim := { program := "ytjoglfoioiedbaa", sum := "3826288ba46dc9c7ad7576dbfcc93f5471f63ae3eea195679b199feb234ed520", func := "psephos/psephoslaw18.SkipForks", spec := "skipForks", apart := false, narrowed := true }
def SkipForksUptoSaid : Prop := skipForksUptoRow.holds Try.pinned (OpenSpec.upto skipForksSpec)

/-- 'psephoslaw18.SkipTree', WHERE WHAT IT READS IS OF BULK AT MOST 1048576: true; the input reads as it did. -/
def skipTreeUptoRow : OpenClaim := { program := "ytjoglfoioiedbaa", sum := "3826288ba46dc9c7ad7576dbfcc93f5471f63ae3eea195679b199feb234ed520", func := "psephos/psephoslaw18.SkipTree", spec := "skipTree", unfollowed := true, recurses := true, apart := false, narrowed := true }
def SkipTreeUptoSaid : Prop := skipTreeUptoRow.holds Try.pinned (OpenSpec.upto skipTreeSpec)

end Rows
end Go.Proofs.Ytjoglfoioiedbaa
