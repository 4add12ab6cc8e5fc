/-
  DERIVED. GIVEN WITH THE SEED: THE CARDS: each row of YtookdheldelepaaGreatDoorRows.lean that lists a variable, with what it lists TIED to the program's text (the seventh form; the later family's looks); each row that meets fmt, with fmt's text TOLD by the authors' own Lean function (tested against real Go, not proved from fmt's source: count such statements apart). THE CARD IS WHAT COUNTS. Prove the row's statement (the work); the ties are given (YtookdheldelepaaGreatDoorTie.lean); close each card by the builder's one call (the guide's Derived/Test/ToyasCard.lean, 'card_holds'). Laid BY PROGRAM, IN A SANDBOX (cutbox-door.mjs). By AI agents, Wed Nov 11 2026. No macro, syntax, notation, axiom, sorry.
-/
import Derived.Test.YtookdheldelepaaGreatDoorRows
import GoSem.ClaimSeven
namespace Go.Proofs.YtookdheldelepaaGreatDoor
namespace Rows

/-- THE TIED CARD OF 'speculumlaw04.GrindStrokes'. -/
def grindStrokesCard : Claim7 := { stood := { row := grindStrokesRow, standIns := [], harness := (true, "57bc3c2cb058e8990ed873d52ea630ad3c3a502e998fc3052f2d4d946198f6f6"), looks := true }, kinds := [], alts := [], laidByText := true, laidKinds := [.data, .data, .data, .data, .sentinel, .sentinel, .pinned], laidTests := true, laidLooks := .later }
def GrindStrokesCardSaid : Prop := Claim7.holds Tryz.pinned (.plain (OpenSpec.ofChange grindStrokesSpec)) grindStrokesCard

/-- THE TIED CARD OF 'speculumlaw04.GrindTexts'. -/
def grindTextsCard : Claim7 := { stood := { row := grindTextsRow, standIns := [], harness := (true, "57bc3c2cb058e8990ed873d52ea630ad3c3a502e998fc3052f2d4d946198f6f6"), looks := true }, kinds := [], alts := [], laidByText := true, laidKinds := [.data, .data, .data, .data, .sentinel, .sentinel, .pinned], laidTests := true, laidLooks := .later }
def GrindTextsCardSaid : Prop := Claim7.holds Tryz.pinned (.plain (OpenSpec.ofChange grindTextsSpec)) grindTextsCard

/-- THE SECOND FORM's CARD OF 'speculumlaw04.GrindStrokes'. -/
def grindStrokesUptoCard : Claim7 := { stood := { row := grindStrokesUptoRow, standIns := [], harness := (true, "57bc3c2cb058e8990ed873d52ea630ad3c3a502e998fc3052f2d4d946198f6f6"), looks := true }, kinds := [], alts := [], laidByText := true, laidKinds := [.data, .data, .data, .data, .sentinel, .sentinel, .pinned], laidTests := true, laidLooks := .later }
def GrindStrokesUptoCardSaid : Prop := Claim7.holds Tryz.pinned (.plain (OpenSpec.upto grindStrokesSpec)) grindStrokesUptoCard

/-- THE SECOND FORM's CARD OF 'speculumlaw04.GrindTexts'. -/
def grindTextsUptoCard : Claim7 := { stood := { row := grindTextsUptoRow, standIns := [], harness := (true, "57bc3c2cb058e8990ed873d52ea630ad3c3a502e998fc3052f2d4d946198f6f6"), looks := true }, kinds := [], alts := [], laidByText := true, laidKinds := [.data, .data, .data, .data, .sentinel, .sentinel, .pinned], laidTests := true, laidLooks := .later }
def GrindTextsUptoCardSaid : Prop := Claim7.holds Tryz.pinned (.plain (OpenSpec.upto grindTextsSpec)) grindTextsUptoCard
end Rows
end Go.Proofs.YtookdheldelepaaGreatDoor
