/-
  No cell of these rows narrows 'for every input' (looked for: loops, veiled, ifaces, maps, wideKeys, modest, calm, conditions, laid).
  DERIVED. THE GIVEN ROWS OF THIS SEAT. 10 by the template 'for every input the law returns true; each argument reads behind the call as it read before'; 0 by the template 'total and deterministic' (their statements: YtpfmamngjefohaaTotals.lean).
  GIVEN WITH THE SEED: the statements are not yours to turn. If you find one false, say at which input.
  Laid BY PROGRAM, IN A SANDBOX (cutbox-rows.mjs): the forced cells as the released guide's own fill.sh prints them over the translation 4b44467ea907b89d… (all of the seat's roots in one cut). By AI agents, Wed Nov 11 2026. No macro, syntax, notation, axiom, sorry.
-/
import Derived.Test.YtpfmamngjefohaaChecked
import GoSem.Claim
import GoSem.ClaimJoined
import GoSem.ClaimMapViews
import Derived.JoinedTies
import Derived.KernelRfl
namespace Go.Proofs.Ytpfmamngjefohaa
/- THE CELL 'sum', in the pinned program and in every row, IS THE sha256 OF THE DUMP (.gsa) THAT YtpfmamngjefohaaProg.lean LOADS. Nothing in Lean hashes anything: it is a label: what it is worth is what the hold of that sum in a sandbox is worth. -/
noncomputable def Try.pinned : Pinned := { name := "ytpfmamngjefohaa", sum := "4b44467ea907b89d8a5da4a782fff8f469f3a5a75426278ac1a82b61055cf47b", checked := Try.checked }
namespace Rows
def none {H : Type} : Left H := { results := [], args := [] }

/-- 'speculumlaw04.GrindDeeper': WHATEVER THE INPUT: true; the input reads as it did. -/
def grindDeeperSpec : ChangeSpec := { name := "grindDeeper", fn := fun _ => fun
  | [d1, d2, d3] => { results := [.lit (.bool true)], args := [d1, d2, d3] }
  | _ => none }
def grindDeeperRow : OpenClaim := { program := "ytpfmamngjefohaa", sum := "4b44467ea907b89d8a5da4a782fff8f469f3a5a75426278ac1a82b61055cf47b", func := "speculum/speculumlaw04.GrindDeeper", spec := "grindDeeper", unfollowed := true, recurses := true, apart := false }
def GrindDeeperSaid : Prop := grindDeeperRow.holds Try.pinned (OpenSpec.ofChange grindDeeperSpec)

/-- ITS FALSE NEIGHBOUR: 'it returns false'. Refute it at one input. -/
def grindDeeperWrong : ChangeSpec := { name := "grindDeeper", fn := fun _ => fun
  | [d1, d2, d3] => { results := [.lit (.bool false)], args := [d1, d2, d3] }
  | _ => none }
def GrindDeeperWrongFalsely : Prop := grindDeeperRow.holds Try.pinned (OpenSpec.ofChange grindDeeperWrong)

/-- 'speculumlaw04.GrindCompares': WHATEVER THE INPUT: true; the input reads as it did. -/
def grindComparesSpec : ChangeSpec := { name := "grindCompares", fn := fun _ => fun
  | [d1, d2, d3] => { results := [.lit (.bool true)], args := [d1, d2, d3] }
  | _ => none }
def grindComparesRow : OpenClaim := { program := "ytpfmamngjefohaa", sum := "4b44467ea907b89d8a5da4a782fff8f469f3a5a75426278ac1a82b61055cf47b", func := "speculum/speculumlaw04.GrindCompares", spec := "grindCompares", unfollowed := true, recurses := true, apart := false }
def GrindComparesSaid : Prop := grindComparesRow.holds Try.pinned (OpenSpec.ofChange grindComparesSpec)

/-- ITS FALSE NEIGHBOUR: 'it returns false'. Refute it at one input. -/
def grindComparesWrong : ChangeSpec := { name := "grindCompares", fn := fun _ => fun
  | [d1, d2, d3] => { results := [.lit (.bool false)], args := [d1, d2, d3] }
  | _ => none }
def GrindComparesWrongFalsely : Prop := grindComparesRow.holds Try.pinned (OpenSpec.ofChange grindComparesWrong)

/-- 'speculumlaw04.GrindSessions': WHATEVER THE INPUT: true; the input reads as it did. -/
def grindSessionsSpec : ChangeSpec := { name := "grindSessions", fn := fun _ => fun
  | [d1, d2, d3] => { results := [.lit (.bool true)], args := [d1, d2, d3] }
  | _ => none }
def grindSessionsRow : OpenClaim := { program := "ytpfmamngjefohaa", sum := "4b44467ea907b89d8a5da4a782fff8f469f3a5a75426278ac1a82b61055cf47b", func := "speculum/speculumlaw04.GrindSessions", spec := "grindSessions", unfollowed := true, recurses := true, apart := false }
def GrindSessionsSaid : Prop := grindSessionsRow.holds Try.pinned (OpenSpec.ofChange grindSessionsSpec)

/-- ITS FALSE NEIGHBOUR: 'it returns false'. Refute it at one input. -/
def grindSessionsWrong : ChangeSpec := { name := "grindSessions", fn := fun _ => fun
  | [d1, d2, d3] => { results := [.lit (.bool false)], args := [d1, d2, d3] }
  | _ => none }
def GrindSessionsWrongFalsely : Prop := grindSessionsRow.holds Try.pinned (OpenSpec.ofChange grindSessionsWrong)

/-- 'speculumlaw04.GrindPlanChecks': WHATEVER THE INPUT: true; the input reads as it did. -/
def grindPlanChecksSpec : ChangeSpec := { name := "grindPlanChecks", fn := fun _ => fun
  | [d1, d2, d3] => { results := [.lit (.bool true)], args := [d1, d2, d3] }
  | _ => none }
def grindPlanChecksRow : OpenClaim := { program := "ytpfmamngjefohaa", sum := "4b44467ea907b89d8a5da4a782fff8f469f3a5a75426278ac1a82b61055cf47b", func := "speculum/speculumlaw04.GrindPlanChecks", spec := "grindPlanChecks", unfollowed := true, recurses := true, apart := false }
def GrindPlanChecksSaid : Prop := grindPlanChecksRow.holds Try.pinned (OpenSpec.ofChange grindPlanChecksSpec)

/-- ITS FALSE NEIGHBOUR: 'it returns false'. Refute it at one input. -/
def grindPlanChecksWrong : ChangeSpec := { name := "grindPlanChecks", fn := fun _ => fun
  | [d1, d2, d3] => { results := [.lit (.bool false)], args := [d1, d2, d3] }
  | _ => none }
def GrindPlanChecksWrongFalsely : Prop := grindPlanChecksRow.holds Try.pinned (OpenSpec.ofChange grindPlanChecksWrong)

/-- 'speculumlaw04.GrindGrits': WHATEVER THE INPUT: true; the input reads as it did. -/
def grindGritsSpec : ChangeSpec := { name := "grindGrits", fn := fun _ => fun
  | [d1, d2, d3] => { results := [.lit (.bool true)], args := [d1, d2, d3] }
  | _ => none }
def grindGritsRow : OpenClaim := { program := "ytpfmamngjefohaa", sum := "4b44467ea907b89d8a5da4a782fff8f469f3a5a75426278ac1a82b61055cf47b", func := "speculum/speculumlaw04.GrindGrits", spec := "grindGrits", unfollowed := true, recurses := true, apart := false }
def GrindGritsSaid : Prop := grindGritsRow.holds Try.pinned (OpenSpec.ofChange grindGritsSpec)

/-- ITS FALSE NEIGHBOUR: 'it returns false'. Refute it at one input. -/
def grindGritsWrong : ChangeSpec := { name := "grindGrits", fn := fun _ => fun
  | [d1, d2, d3] => { results := [.lit (.bool false)], args := [d1, d2, d3] }
  | _ => none }
def GrindGritsWrongFalsely : Prop := grindGritsRow.holds Try.pinned (OpenSpec.ofChange grindGritsWrong)

/-- 'speculumlaw04.GrindProofChecks': WHATEVER THE INPUT: true; the input reads as it did. -/
def grindProofChecksSpec : ChangeSpec := { name := "grindProofChecks", fn := fun _ => fun
  | [d1, d2, d3] => { results := [.lit (.bool true)], args := [d1, d2, d3] }
  | _ => none }
def grindProofChecksRow : OpenClaim := { program := "ytpfmamngjefohaa", sum := "4b44467ea907b89d8a5da4a782fff8f469f3a5a75426278ac1a82b61055cf47b", func := "speculum/speculumlaw04.GrindProofChecks", spec := "grindProofChecks", unfollowed := true, recurses := true, apart := false }
def GrindProofChecksSaid : Prop := grindProofChecksRow.holds Try.pinned (OpenSpec.ofChange grindProofChecksSpec)

/-- ITS FALSE NEIGHBOUR: 'it returns false'. Refute it at one input. -/
def grindProofChecksWrong : ChangeSpec := { name := "grindProofChecks", fn := fun _ => fun
  | [d1, d2, d3] => { results := [.lit (.bool false)], args := [d1, d2, d3] }
  | _ => none }
def GrindProofChecksWrongFalsely : Prop := grindProofChecksRow.holds Try.pinned (OpenSpec.ofChange grindProofChecksWrong)

/-- 'speculumlaw04.GrindSequences': WHATEVER THE INPUT: true; the input reads as it did. -/
def grindSequencesSpec : ChangeSpec := { name := "grindSequences", fn := fun _ => fun
  | [d1, d2, d3] => { results := [.lit (.bool true)], args := [d1, d2, d3] }
  | _ => none }
def grindSequencesRow : OpenClaim := { program := "ytpfmamngjefohaa", sum := "4b44467ea907b89d8a5da4a782fff8f469f3a5a75426278ac1a82b61055cf47b", func := "speculum/speculumlaw04.GrindSequences", spec := "grindSequences", unfollowed := true, recurses := true, apart := false }
def GrindSequencesSaid : Prop := grindSequencesRow.holds Try.pinned (OpenSpec.ofChange grindSequencesSpec)

/-- ITS FALSE NEIGHBOUR: 'it returns false'. Refute it at one input. -/
def grindSequencesWrong : ChangeSpec := { name := "grindSequences", fn := fun _ => fun
  | [d1, d2, d3] => { results := [.lit (.bool false)], args := [d1, d2, d3] }
  | _ => none }
def GrindSequencesWrongFalsely : Prop := grindSequencesRow.holds Try.pinned (OpenSpec.ofChange grindSequencesWrong)

/-- 'speculumlaw04.GrindShortest': WHATEVER THE INPUT: true; the input reads as it did. -/
def grindShortestSpec : ChangeSpec := { name := "grindShortest", fn := fun _ => fun
  | [d1, d2] => { results := [.lit (.bool true)], args := [d1, d2] }
  | _ => none }
def grindShortestRow : OpenClaim := { program := "ytpfmamngjefohaa", sum := "4b44467ea907b89d8a5da4a782fff8f469f3a5a75426278ac1a82b61055cf47b", func := "speculum/speculumlaw04.GrindShortest", spec := "grindShortest", unfollowed := true, recurses := true, apart := false }
def GrindShortestSaid : Prop := grindShortestRow.holds Try.pinned (OpenSpec.ofChange grindShortestSpec)

/-- ITS FALSE NEIGHBOUR: 'it returns false'. Refute it at one input. -/
def grindShortestWrong : ChangeSpec := { name := "grindShortest", fn := fun _ => fun
  | [d1, d2] => { results := [.lit (.bool false)], args := [d1, d2] }
  | _ => none }
def GrindShortestWrongFalsely : Prop := grindShortestRow.holds Try.pinned (OpenSpec.ofChange grindShortestWrong)

/-- 'speculumlaw04.GrindAdds': WHATEVER THE INPUT: true; the input reads as it did. -/
def grindAddsSpec : ChangeSpec := { name := "grindAdds", fn := fun _ => fun
  | [d1, d2] => { results := [.lit (.bool true)], args := [d1, d2] }
  | _ => none }
def grindAddsRow : OpenClaim := { program := "ytpfmamngjefohaa", sum := "4b44467ea907b89d8a5da4a782fff8f469f3a5a75426278ac1a82b61055cf47b", func := "speculum/speculumlaw04.GrindAdds", spec := "grindAdds", unfollowed := true, recurses := true, apart := false }
def GrindAddsSaid : Prop := grindAddsRow.holds Try.pinned (OpenSpec.ofChange grindAddsSpec)

/-- ITS FALSE NEIGHBOUR: 'it returns false'. Refute it at one input. -/
def grindAddsWrong : ChangeSpec := { name := "grindAdds", fn := fun _ => fun
  | [d1, d2] => { results := [.lit (.bool false)], args := [d1, d2] }
  | _ => none }
def GrindAddsWrongFalsely : Prop := grindAddsRow.holds Try.pinned (OpenSpec.ofChange grindAddsWrong)

/-- 'speculumlaw04.GrindOrders': WHATEVER THE INPUT: true; the input reads as it did. -/
def grindOrdersSpec : ChangeSpec := { name := "grindOrders", fn := fun _ => fun
  | [d1, d2] => { results := [.lit (.bool true)], args := [d1, d2] }
  | _ => none }
def grindOrdersRow : OpenClaim := { program := "ytpfmamngjefohaa", sum := "4b44467ea907b89d8a5da4a782fff8f469f3a5a75426278ac1a82b61055cf47b", func := "speculum/speculumlaw04.GrindOrders", spec := "grindOrders", unfollowed := true, recurses := true, apart := false }
def GrindOrdersSaid : Prop := grindOrdersRow.holds Try.pinned (OpenSpec.ofChange grindOrdersSpec)

/-- ITS FALSE NEIGHBOUR: 'it returns false'. Refute it at one input. -/
def grindOrdersWrong : ChangeSpec := { name := "grindOrders", fn := fun _ => fun
  | [d1, d2] => { results := [.lit (.bool false)], args := [d1, d2] }
  | _ => none }
def GrindOrdersWrongFalsely : Prop := grindOrdersRow.holds Try.pinned (OpenSpec.ofChange grindOrdersWrong)

/- THE SECOND FORM. 'bulk': how many values and letters a reading holds, each counted each time it is reached (what is shared counts as often as it is met; a slice's spare places count too). A statement '..UptoSaid' is the law's where the arguments, and the package variables that the reading takes, are together of bulk at most 1048576: NARROWER than '..Said'. Prove '..Said' where nothing that the law and all that it calls make is longer than what came in: it says more and counts as full. Else prove '..UptoSaid'. A law counts once. -/
mutual
def uptoBulk {H : Type} : DataW H → Nat
  | .lit (.string bytes) => bytes.length + 1
  | .lit _ => 1
  | .nil => 1
  | .ptr d => uptoBulk d + 1
  | .slice elems spare => uptoBulkAll elems + uptoBulkAll spare + 1
  | .agg parts => uptoBulkAll parts + 1
  | .iface _ d => uptoBulk d + 1
  | .map entries => uptoBulkEntries entries + 1
  | .held _ => 1
def uptoBulkAll {H : Type} : List (DataW H) → Nat
  | [] => 0
  | d :: r => uptoBulk d + uptoBulkAll r
def uptoBulkEntries {H : Type} : List (Lit × DataW H) → Nat
  | [] => 0
  | x :: r => uptoBulkEntry x + uptoBulkEntries r
def uptoBulkEntry {H : Type} : Lit × DataW H → Nat
  | (.string bytes, d) => bytes.length + uptoBulk d + 1
  | (_, d) => uptoBulk d + 1
 end
def uptoSmall : (H : Type) → List (DataW H) → Bool := fun _ ds => decide (uptoBulkAll ds ≤ 1048576)
def OpenSpec.upto (s : _root_.Go.ChangeSpec) : _root_.Go.OpenSpec := { _root_.Go.OpenSpec.ofChange s with cond := some uptoSmall }

/-- 'speculumlaw04.GrindDeeper', WHERE WHAT IT READS IS OF BULK AT MOST 1048576: true; the input reads as it did. -/
def grindDeeperUptoRow : OpenClaim := { program := "ytpfmamngjefohaa", sum := "4b44467ea907b89d8a5da4a782fff8f469f3a5a75426278ac1a82b61055cf47b", func := "speculum/speculumlaw04.GrindDeeper", spec := "grindDeeper", unfollowed := true, recurses := true, apart := false, narrowed := true }
def GrindDeeperUptoSaid : Prop := grindDeeperUptoRow.holds Try.pinned (OpenSpec.upto grindDeeperSpec)

/-- 'speculumlaw04.GrindCompares', WHERE WHAT IT READS IS OF BULK AT MOST 1048576: true; the input reads as it did. -/
def grindComparesUptoRow : OpenClaim := { program := "ytpfmamngjefohaa", sum := "4b44467ea907b89d8a5da4a782fff8f469f3a5a75426278ac1a82b61055cf47b", func := "speculum/speculumlaw04.GrindCompares", spec := "grindCompares", unfollowed := true, recurses := true, apart := false, narrowed := true }
def GrindComparesUptoSaid : Prop := grindComparesUptoRow.holds Try.pinned (OpenSpec.upto grindComparesSpec)

/-- 'speculumlaw04.GrindSessions', WHERE WHAT IT READS IS OF BULK AT MOST 1048576: true; the input reads as it did. -/
def grindSessionsUptoRow : OpenClaim := { program := "ytpfmamngjefohaa", sum := "4b44467ea907b89d8a5da4a782fff8f469f3a5a75426278ac1a82b61055cf47b", func := "speculum/speculumlaw04.GrindSessions", spec := "grindSessions", unfollowed := true, recurses := true, apart := false, narrowed := true }
def GrindSessionsUptoSaid : Prop := grindSessionsUptoRow.holds Try.pinned (OpenSpec.upto grindSessionsSpec)

/-- 'speculumlaw04.GrindPlanChecks', WHERE WHAT IT READS IS OF BULK AT MOST 1048576: true; the input reads as it did. -/
def grindPlanChecksUptoRow : OpenClaim := { program := "ytpfmamngjefohaa", sum := "4b44467ea907b89d8a5da4a782fff8f469f3a5a75426278ac1a82b61055cf47b", func := "speculum/speculumlaw04.GrindPlanChecks", spec := "grindPlanChecks", unfollowed := true, recurses := true, apart := false, narrowed := true }
def GrindPlanChecksUptoSaid : Prop := grindPlanChecksUptoRow.holds Try.pinned (OpenSpec.upto grindPlanChecksSpec)

/-- 'speculumlaw04.GrindGrits', WHERE WHAT IT READS IS OF BULK AT MOST 1048576: true; the input reads as it did. -/
def grindGritsUptoRow : OpenClaim := { program := "ytpfmamngjefohaa", sum := "4b44467ea907b89d8a5da4a782fff8f469f3a5a75426278ac1a82b61055cf47b", func := "speculum/speculumlaw04.GrindGrits", spec := "grindGrits", unfollowed := true, recurses := true, apart := false, narrowed := true }
def GrindGritsUptoSaid : Prop := grindGritsUptoRow.holds Try.pinned (OpenSpec.upto grindGritsSpec)

/-- 'speculumlaw04.GrindProofChecks', WHERE WHAT IT READS IS OF BULK AT MOST 1048576: true; the input reads as it did. -/
def grindProofChecksUptoRow : OpenClaim := { program := "ytpfmamngjefohaa", sum := "4b44467ea907b89d8a5da4a782fff8f469f3a5a75426278ac1a82b61055cf47b", func := "speculum/speculumlaw04.GrindProofChecks", spec := "grindProofChecks", unfollowed := true, recurses := true, apart := false, narrowed := true }
def GrindProofChecksUptoSaid : Prop := grindProofChecksUptoRow.holds Try.pinned (OpenSpec.upto grindProofChecksSpec)

/-- 'speculumlaw04.GrindSequences', WHERE WHAT IT READS IS OF BULK AT MOST 1048576: true; the input reads as it did. -/
def grindSequencesUptoRow : OpenClaim := { program := "ytpfmamngjefohaa", sum := "4b44467ea907b89d8a5da4a782fff8f469f3a5a75426278ac1a82b61055cf47b", func := "speculum/speculumlaw04.GrindSequences", spec := "grindSequences", unfollowed := true, recurses := true, apart := false, narrowed := true }
def GrindSequencesUptoSaid : Prop := grindSequencesUptoRow.holds Try.pinned (OpenSpec.upto grindSequencesSpec)

/-- 'speculumlaw04.GrindShortest', WHERE WHAT IT READS IS OF BULK AT MOST 1048576: true; the input reads as it did. -/
def grindShortestUptoRow : OpenClaim := { program := "ytpfmamngjefohaa", sum := "4b44467ea907b89d8a5da4a782fff8f469f3a5a75426278ac1a82b61055cf47b", func := "speculum/speculumlaw04.GrindShortest", spec := "grindShortest", unfollowed := true, recurses := true, apart := false, narrowed := true }
def GrindShortestUptoSaid : Prop := grindShortestUptoRow.holds Try.pinned (OpenSpec.upto grindShortestSpec)

/-- 'speculumlaw04.GrindAdds', WHERE WHAT IT READS IS OF BULK AT MOST 1048576: true; the input reads as it did. -/
def grindAddsUptoRow : OpenClaim := { program := "ytpfmamngjefohaa", sum := "4b44467ea907b89d8a5da4a782fff8f469f3a5a75426278ac1a82b61055cf47b", func := "speculum/speculumlaw04.GrindAdds", spec := "grindAdds", unfollowed := true, recurses := true, apart := false, narrowed := true }
def GrindAddsUptoSaid : Prop := grindAddsUptoRow.holds Try.pinned (OpenSpec.upto grindAddsSpec)

/-- 'speculumlaw04.GrindOrders', WHERE WHAT IT READS IS OF BULK AT MOST 1048576: true; the input reads as it did. -/
def grindOrdersUptoRow : OpenClaim := { program := "ytpfmamngjefohaa", sum := "4b44467ea907b89d8a5da4a782fff8f469f3a5a75426278ac1a82b61055cf47b", func := "speculum/speculumlaw04.GrindOrders", spec := "grindOrders", unfollowed := true, recurses := true, apart := false, narrowed := true }
def GrindOrdersUptoSaid : Prop := grindOrdersUptoRow.holds Try.pinned (OpenSpec.upto grindOrdersSpec)

end Rows
end Go.Proofs.Ytpfmamngjefohaa
