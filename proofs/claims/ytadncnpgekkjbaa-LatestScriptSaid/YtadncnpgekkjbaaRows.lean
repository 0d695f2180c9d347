/-
  No cell of these rows narrows 'for every input' (looked for: loops, veiled, ifaces, maps, wideKeys, modest, calm, conditions, laid).
  DERIVED. THE GIVEN ROWS OF THIS SEAT. 6 by the template 'for every input the law returns true; each argument reads behind the call as it read before'; 0 by the template 'total and deterministic' (their statements: YtadncnpgekkjbaaTotals.lean).
  GIVEN WITH THE SEED: the statements are not yours to turn. If you find one false, say at which input.
  Laid BY PROGRAM, IN A SANDBOX (cutbox-rows.mjs): the forced cells as the released guide's own fill.sh prints them over the translation d29f73a8cd36775c… (all of the seat's roots in one cut). By AI agents, Wed Nov 11 2026. No macro, syntax, notation, axiom, sorry.
-/
import Derived.Test.YtadncnpgekkjbaaChecked
import GoSem.Claim
import GoSem.ClaimJoined
import GoSem.ClaimMapViews
import Derived.JoinedTies
import Derived.KernelRfl
namespace Go.Proofs.Ytadncnpgekkjbaa
/- THE CELL 'sum', in the pinned program and in every row, IS THE sha256 OF THE DUMP (.gsa) THAT YtadncnpgekkjbaaProg.lean LOADS. Nothing in Lean hashes anything: it is a label: what it is worth is what the hold of that sum in a sandbox is worth. -/
noncomputable def Try.pinned : Pinned := { name := "ytadncnpgekkjbaa", sum := "d29f73a8cd36775c2dc37a9c211f30b4bc86d99036eaf965a4ff41f0004cb392", checked := Try.checked }
namespace Rows
def none {H : Type} : Left H := { results := [], args := [] }

/-- 'psephoslaw11.LatestScript': WHATEVER THE INPUT: true; the input reads as it did. -/
def latestScriptSpec : ChangeSpec := { name := "latestScript", fn := fun _ => fun
  | [d1, d2] => { results := [.lit (.bool true)], args := [d1, d2] }
  | _ => none }
def latestScriptRow : OpenClaim := { program := "ytadncnpgekkjbaa", sum := "d29f73a8cd36775c2dc37a9c211f30b4bc86d99036eaf965a4ff41f0004cb392", func := "psephos/psephoslaw11.LatestScript", spec := "latestScript", apart := false }
def LatestScriptSaid : Prop := latestScriptRow.holds Try.pinned (OpenSpec.ofChange latestScriptSpec)

/-- ITS FALSE NEIGHBOUR: 'it returns false'. Refute it at one input. -/
def latestScriptWrong : ChangeSpec := { name := "latestScript", fn := fun _ => fun
  | [d1, d2] => { results := [.lit (.bool false)], args := [d1, d2] }
  | _ => none }
def LatestScriptWrongFalsely : Prop := latestScriptRow.holds Try.pinned (OpenSpec.ofChange latestScriptWrong)

/-- 'psephoslaw11.LatestOrder': WHATEVER THE INPUT: true; the input reads as it did. -/
def latestOrderSpec : ChangeSpec := { name := "latestOrder", fn := fun _ => fun
  | [d1, d2] => { results := [.lit (.bool true)], args := [d1, d2] }
  | _ => none }
def latestOrderRow : OpenClaim := { program := "ytadncnpgekkjbaa", sum := "d29f73a8cd36775c2dc37a9c211f30b4bc86d99036eaf965a4ff41f0004cb392", func := "psephos/psephoslaw11.LatestOrder", spec := "latestOrder", apart := false }
def LatestOrderSaid : Prop := latestOrderRow.holds Try.pinned (OpenSpec.ofChange latestOrderSpec)

/-- ITS FALSE NEIGHBOUR: 'it returns false'. Refute it at one input. -/
def latestOrderWrong : ChangeSpec := { name := "latestOrder", fn := fun _ => fun
  | [d1, d2] => { results := [.lit (.bool false)], args := [d1, d2] }
  | _ => none }
def LatestOrderWrongFalsely : Prop := latestOrderRow.holds Try.pinned (OpenSpec.ofChange latestOrderWrong)

/-- 'psephoslaw11.LatestNone': WHATEVER THE INPUT: true; the input reads as it did. -/
def latestNoneSpec : ChangeSpec := { name := "latestNone", fn := fun _ => fun
  | [d1, d2] => { results := [.lit (.bool true)], args := [d1, d2] }
  | _ => none }
def latestNoneRow : OpenClaim := { program := "ytadncnpgekkjbaa", sum := "d29f73a8cd36775c2dc37a9c211f30b4bc86d99036eaf965a4ff41f0004cb392", func := "psephos/psephoslaw11.LatestNone", spec := "latestNone", apart := false }
def LatestNoneSaid : Prop := latestNoneRow.holds Try.pinned (OpenSpec.ofChange latestNoneSpec)

/-- ITS FALSE NEIGHBOUR: 'it returns false'. Refute it at one input. -/
def latestNoneWrong : ChangeSpec := { name := "latestNone", fn := fun _ => fun
  | [d1, d2] => { results := [.lit (.bool false)], args := [d1, d2] }
  | _ => none }
def LatestNoneWrongFalsely : Prop := latestNoneRow.holds Try.pinned (OpenSpec.ofChange latestNoneWrong)

/-- 'psephoslaw11.LatestBan': WHATEVER THE INPUT: true; the input reads as it did. -/
def latestBanSpec : ChangeSpec := { name := "latestBan", fn := fun _ => fun
  | [d1, d2, d3, d4] => { results := [.lit (.bool true)], args := [d1, d2, d3, d4] }
  | _ => none }
def latestBanRow : OpenClaim := { program := "ytadncnpgekkjbaa", sum := "d29f73a8cd36775c2dc37a9c211f30b4bc86d99036eaf965a4ff41f0004cb392", func := "psephos/psephoslaw11.LatestBan", spec := "latestBan", apart := false }
def LatestBanSaid : Prop := latestBanRow.holds Try.pinned (OpenSpec.ofChange latestBanSpec)

/-- ITS FALSE NEIGHBOUR: 'it returns false'. Refute it at one input. -/
def latestBanWrong : ChangeSpec := { name := "latestBan", fn := fun _ => fun
  | [d1, d2, d3, d4] => { results := [.lit (.bool false)], args := [d1, d2, d3, d4] }
  | _ => none }
def LatestBanWrongFalsely : Prop := latestBanRow.holds Try.pinned (OpenSpec.ofChange latestBanWrong)

/-- 'psephoslaw11.LatestSame': WHATEVER THE INPUT: true; the input reads as it did. -/
def latestSameSpec : ChangeSpec := { name := "latestSame", fn := fun _ => fun
  | [d1, d2] => { results := [.lit (.bool true)], args := [d1, d2] }
  | _ => none }
def latestSameRow : OpenClaim := { program := "ytadncnpgekkjbaa", sum := "d29f73a8cd36775c2dc37a9c211f30b4bc86d99036eaf965a4ff41f0004cb392", func := "psephos/psephoslaw11.LatestSame", spec := "latestSame", apart := false }
def LatestSameSaid : Prop := latestSameRow.holds Try.pinned (OpenSpec.ofChange latestSameSpec)

/-- ITS FALSE NEIGHBOUR: 'it returns false'. Refute it at one input. -/
def latestSameWrong : ChangeSpec := { name := "latestSame", fn := fun _ => fun
  | [d1, d2] => { results := [.lit (.bool false)], args := [d1, d2] }
  | _ => none }
def LatestSameWrongFalsely : Prop := latestSameRow.holds Try.pinned (OpenSpec.ofChange latestSameWrong)

/-- 'psephoslaw11.LatestApart': WHATEVER THE INPUT: true; the input reads as it did. -/
def latestApartSpec : ChangeSpec := { name := "latestApart", fn := fun _ => fun
  | [d1, d2, d3, d4, d5] => { results := [.lit (.bool true)], args := [d1, d2, d3, d4, d5] }
  | _ => none }
def latestApartRow : OpenClaim := { program := "ytadncnpgekkjbaa", sum := "d29f73a8cd36775c2dc37a9c211f30b4bc86d99036eaf965a4ff41f0004cb392", func := "psephos/psephoslaw11.LatestApart", spec := "latestApart", apart := false }
def LatestApartSaid : Prop := latestApartRow.holds Try.pinned (OpenSpec.ofChange latestApartSpec)

/-- ITS FALSE NEIGHBOUR: 'it returns false'. Refute it at one input. -/
def latestApartWrong : ChangeSpec := { name := "latestApart", fn := fun _ => fun
  | [d1, d2, d3, d4, d5] => { results := [.lit (.bool false)], args := [d1, d2, d3, d4, d5] }
  | _ => none }
def LatestApartWrongFalsely : Prop := latestApartRow.holds Try.pinned (OpenSpec.ofChange latestApartWrong)

/- THE SECOND FORM. 'bulk': how many values and letters a reading holds, each counted each time it is reached (what is shared counts as often as it is met; a slice's spare places count too). A statement '..UptoSaid' is the law's where the arguments, and the package variables that the reading takes, are together of bulk at most 1048576: NARROWER than '..Said'. Prove '..Said' where nothing that the law and all that it calls make is longer than what came in: it says more and counts as full. Else prove '..UptoSaid'. A law counts once. -/
mutual
def uptoBulk {H : Type} : DataW H → Nat
  | .lit (.string bytes) => bytes.length + 1
  | .lit _ => 1
  | .nil => 1
  | .ptr d => uptoBulk d + 1
  | .slice elems spare => uptoBulkAll elems + uptoBulkAll spare + 1
  | .agg parts => uptoBulkAll parts + 1
  | .iface _ d => uptoBulk d + 1
  | .map entries => uptoBulkEntries entries + 1
  | .held _ => 1
def uptoBulkAll {H : Type} : List (DataW H) → Nat
  | [] => 0
  | d :: r => uptoBulk d + uptoBulkAll r
def uptoBulkEntries {H : Type} : List (Lit × DataW H) → Nat
  | [] => 0
  | x :: r => uptoBulkEntry x + uptoBulkEntries r
def uptoBulkEntry {H : Type} : Lit × DataW H → Nat
  | (.string bytes, d) => bytes.length + uptoBulk d + 1
  | (_, d) => uptoBulk d + 1
 end
def uptoSmall : (H : Type) → List (DataW H) → Bool := fun _ ds => decide (uptoBulkAll ds ≤ 1048576)
def OpenSpec.upto (s : _root_.Go.ChangeSpec) : _root_.Go.OpenSpec := { _root_.Go.OpenSpec.ofChange s with cond := some uptoSmall }

/-- 'psephoslaw11.LatestScript', WHERE WHAT IT READS IS OF BULK AT MOST 1048576: true; the input reads as it did. -/
def latestScriptUptoRow : OpenClaim := { program := "ytadncnpgekkjbaa", sum := "d29f73a8cd36775c2dc37a9c211f30b4bc86d99036eaf965a4ff41f0004cb392", func := "psephos/psephoslaw11.LatestScript", spec := "latestScript", apart := false, narrowed := true }
def LatestScriptUptoSaid : Prop := latestScriptUptoRow.holds Try.pinned (OpenSpec.upto latestScriptSpec)

/-- 'psephoslaw11.LatestOrder', WHERE WHAT IT READS IS OF BULK AT MOST 1048576: true; the input reads as it did. -/
def latestOrderUptoRow : OpenClaim := { program := "ytadncnpgekkjbaa", sum := "d29f73a8cd36775c2dc37a9c211f30b4bc86d99036eaf965a4ff41f0004cb392", func := "psephos/psephoslaw11.LatestOrder", spec := "latestOrder", apart := false, narrowed := true }
def LatestOrderUptoSaid : Prop := latestOrderUptoRow.holds Try.pinned (OpenSpec.upto latestOrderSpec)

/-- 'psephoslaw11.LatestNone', WHERE WHAT IT READS IS OF BULK AT MOST 1048576: true; the input reads as it did. -/
def latestNoneUptoRow : OpenClaim := { program := "ytadncnpgekkjbaa", sum := "d29f73a8cd36775c2dc37a9c211f30b4bc86d99036eaf965a4ff41f0004cb392", func := "psephos/psephoslaw11.LatestNone", spec := "latestNone", apart := false, narrowed := true }
def LatestNoneUptoSaid : Prop := latestNoneUptoRow.holds Try.pinned (OpenSpec.upto latestNoneSpec)

/-- 'psephoslaw11.LatestBan', WHERE WHAT IT READS IS OF BULK AT MOST 1048576: true; the input reads as it did. -/
def latestBanUptoRow : OpenClaim := { program := "ytadncnpgekkjbaa", sum := "d29f73a8cd36775c2dc37a9c211f30b4bc86d99036eaf965a4ff41f0004cb392", func := "psephos/psephoslaw11.LatestBan", spec := "latestBan", apart := false, narrowed := true }
def LatestBanUptoSaid : Prop := latestBanUptoRow.holds Try.pinned (OpenSpec.upto latestBanSpec)

/-- 'psephoslaw11.LatestSame', WHERE WHAT IT READS IS OF BULK AT MOST 1048576: true; the input reads as it did. -/
def latestSameUptoRow : OpenClaim := { program := "ytadncnpgekkjbaa", sum := "d29f73a8cd36775c2dc37a9c211f30b4bc86d99036eaf965a4ff41f0004cb392", func := "psephos/psephoslaw11.LatestSame", spec := "latestSame", apart := false, narrowed := true }
def LatestSameUptoSaid : Prop := latestSameUptoRow.holds Try.pinned (OpenSpec.upto latestSameSpec)

/-- 'psephoslaw11.LatestApart', WHERE WHAT IT READS IS OF BULK AT MOST 1048576: true; the input reads as it did. -/
def latestApartUptoRow : OpenClaim := { program := "ytadncnpgekkjbaa", sum := "d29f73a8cd36775c2dc37a9c211f30b4bc86d99036eaf965a4ff41f0004cb392", func := "psephos/psephoslaw11.LatestApart", spec := "latestApart", apart := false, narrowed := true }
def LatestApartUptoSaid : Prop := latestApartUptoRow.holds Try.pinned (OpenSpec.upto latestApartSpec)

end Rows
end Go.Proofs.Ytadncnpgekkjbaa
