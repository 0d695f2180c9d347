/-
  DERIVED. GIVEN WITH THE SEED: THE CARDS: each row of YtndfpmboanohcaaGreatDoorRows.lean that lists a variable, with what it lists TIED to the program's text (the seventh form; the later family's looks); each row that meets fmt, with fmt's text TOLD by the authors' own Lean function (tested against real Go, not proved from fmt's source: count such statements apart). THE CARD IS WHAT COUNTS. Prove the row's statement (the work); the ties are given (YtndfpmboanohcaaGreatDoorTie.lean); close each card by the builder's one call (the guide's Derived/Test/ToyasCard.lean, 'card_holds'). Laid BY PROGRAM, IN A SANDBOX (cutbox-door.mjs). By AI agents, Wed Nov 11 2026. No macro, syntax, notation, axiom, sorry.
-/
import Derived.Test.YtndfpmboanohcaaGreatDoorRows
import GoSem.ClaimSeven
namespace Go.Proofs.YtndfpmboanohcaaGreatDoor
namespace Rows

/-- THE TIED CARD OF 'psephostop.TopJumps'. -/
def topJumpsCard : Claim7 := { stood := { row := topJumpsRow, standIns := [], harness := (true, "e6c06849b765f842a52dd29483a1cda240efe8cba8f75583089c2bc426042892"), looks := true }, kinds := [], alts := [], laidByText := true, laidKinds := [.handle], laidTests := true, laidLooks := .later }
def TopJumpsCardSaid : Prop := Claim7.holds Tryz.pinned (.plain (OpenSpec.ofChange topJumpsSpec)) topJumpsCard

/-- THE TIED CARD OF 'psephostop.TopMade'. -/
def topMadeCard : Claim7 := { stood := { row := topMadeRow, standIns := [], harness := (true, "e6c06849b765f842a52dd29483a1cda240efe8cba8f75583089c2bc426042892"), looks := true }, kinds := [], alts := [], laidByText := true, laidKinds := [.handle], laidTests := true, laidLooks := .later }
def TopMadeCardSaid : Prop := Claim7.holds Tryz.pinned (.plain (OpenSpec.ofChange topMadeSpec)) topMadeCard

/-- THE TIED CARD OF 'psephostop.TopTicks'. -/
def topTicksCard : Claim7 := { stood := { row := topTicksRow, standIns := [], harness := (true, "e6c06849b765f842a52dd29483a1cda240efe8cba8f75583089c2bc426042892"), looks := true }, kinds := [], alts := [], laidByText := true, laidKinds := [.handle], laidTests := true, laidLooks := .later }
def TopTicksCardSaid : Prop := Claim7.holds Tryz.pinned (.plain (OpenSpec.ofChange topTicksSpec)) topTicksCard

/-- THE SECOND FORM's CARD OF 'psephostop.TopJumps'. -/
def topJumpsUptoCard : Claim7 := { stood := { row := topJumpsUptoRow, standIns := [], harness := (true, "e6c06849b765f842a52dd29483a1cda240efe8cba8f75583089c2bc426042892"), looks := true }, kinds := [], alts := [], laidByText := true, laidKinds := [.handle], laidTests := true, laidLooks := .later }
def TopJumpsUptoCardSaid : Prop := Claim7.holds Tryz.pinned (.plain (OpenSpec.upto topJumpsSpec)) topJumpsUptoCard

/-- THE SECOND FORM's CARD OF 'psephostop.TopMade'. -/
def topMadeUptoCard : Claim7 := { stood := { row := topMadeUptoRow, standIns := [], harness := (true, "e6c06849b765f842a52dd29483a1cda240efe8cba8f75583089c2bc426042892"), looks := true }, kinds := [], alts := [], laidByText := true, laidKinds := [.handle], laidTests := true, laidLooks := .later }
def TopMadeUptoCardSaid : Prop := Claim7.holds Tryz.pinned (.plain (OpenSpec.upto topMadeSpec)) topMadeUptoCard

/-- THE SECOND FORM's CARD OF 'psephostop.TopTicks'. -/
def topTicksUptoCard : Claim7 := { stood := { row := topTicksUptoRow, standIns := [], harness := (true, "e6c06849b765f842a52dd29483a1cda240efe8cba8f75583089c2bc426042892"), looks := true }, kinds := [], alts := [], laidByText := true, laidKinds := [.handle], laidTests := true, laidLooks := .later }
def TopTicksUptoCardSaid : Prop := Claim7.holds Tryz.pinned (.plain (OpenSpec.upto topTicksSpec)) topTicksUptoCard
end Rows
end Go.Proofs.YtndfpmboanohcaaGreatDoor
