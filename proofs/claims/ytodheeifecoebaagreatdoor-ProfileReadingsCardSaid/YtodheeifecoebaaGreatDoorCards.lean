/-
  DERIVED. GIVEN WITH THE SEED: THE CARDS: each row of YtodheeifecoebaaGreatDoorRows.lean that lists a variable, with what it lists TIED to the program's text (the seventh form; the later family's looks); each row that meets fmt, with fmt's text TOLD by the authors' own Lean function (tested against real Go, not proved from fmt's source: count such statements apart). THE CARD IS WHAT COUNTS. Prove the row's statement (the work); the ties are given (YtodheeifecoebaaGreatDoorTie.lean); close each card by the builder's one call (the guide's Derived/Test/ToyasCard.lean, 'card_holds'). Laid BY PROGRAM, IN A SANDBOX (cutbox-door.mjs). By AI agents, Wed Nov 11 2026. No macro, syntax, notation, axiom, sorry.
-/
import Derived.Test.YtodheeifecoebaaGreatDoorRows
import GoSem.ClaimSeven
namespace Go.Proofs.YtodheeifecoebaaGreatDoor
namespace Rows

/-- THE TIED CARD OF 'speculumlaw05.ProfileReadings'. -/
def profileReadingsCard : Claim7 := { stood := { row := profileReadingsRow, standIns := [], harness := (true, "7c67e6c4b23caebb151912e4fee707962b3128e237395e45e7c4ae78eef2b11f"), looks := true }, kinds := [], alts := [], laidByText := true, laidKinds := [.data, .data, .data, .data, .sentinel, .sentinel, .pinned], laidTests := true, laidLooks := .later }
def ProfileReadingsCardSaid : Prop := Claim7.holds Tryz.pinned (.plain (OpenSpec.ofChange profileReadingsSpec)) profileReadingsCard

/-- THE SECOND FORM's CARD OF 'speculumlaw05.ProfileReadings'. -/
def profileReadingsUptoCard : Claim7 := { stood := { row := profileReadingsUptoRow, standIns := [], harness := (true, "7c67e6c4b23caebb151912e4fee707962b3128e237395e45e7c4ae78eef2b11f"), looks := true }, kinds := [], alts := [], laidByText := true, laidKinds := [.data, .data, .data, .data, .sentinel, .sentinel, .pinned], laidTests := true, laidLooks := .later }
def ProfileReadingsUptoCardSaid : Prop := Claim7.holds Tryz.pinned (.plain (OpenSpec.upto profileReadingsSpec)) profileReadingsUptoCard
end Rows
end Go.Proofs.YtodheeifecoebaaGreatDoor
