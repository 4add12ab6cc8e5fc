/-
  No cell of these rows narrows 'for every input' (looked for: loops, veiled, ifaces, maps, wideKeys, modest, calm, conditions, laid).
  DERIVED. THE GIVEN ROWS OF THIS SEAT. 16 by the template 'for every input the law returns true; each argument reads behind the call as it read before'; 0 by the template 'total and deterministic' (their statements: YtodheeifecoebaaTotals.lean).
  GIVEN WITH THE SEED: the statements are not yours to turn. If you find one false, say at which input.
  Laid BY PROGRAM, IN A SANDBOX (cutbox-rows.mjs): the forced cells as the released guide's own fill.sh prints them over the translation 8051cc7bb6cac5f4… (all of the seat's roots in one cut). By AI agents, Wed Nov 11 2026. No macro, syntax, notation, axiom, sorry.
-/
import Derived.Test.YtodheeifecoebaaChecked
import GoSem.Claim
import GoSem.ClaimJoined
import GoSem.ClaimMapViews
import Derived.JoinedTies
import Derived.KernelRfl
namespace Go.Proofs.Ytodheeifecoebaa
/- THE CELL 'sum', in the pinned program and in every row, IS THE sha256 OF THE DUMP (.gsa) THAT YtodheeifecoebaaProg.lean LOADS. Nothing in Lean hashes anything: it is a label: what it is worth is what the hold of that sum in a sandbox is worth. -/
noncomputable def Try.pinned : Pinned := { name := "ytodheeifecoebaa", sum := "8051cc7bb6cac5f4159eee3b8280ae7a36e8b4ec86b1f8ff273d24fa1c80bd04", checked := Try.checked }
namespace Rows
def none {H : Type} : Left H := { results := [], args := [] }

/-- 'speculumlaw05.ProfileZero': WHATEVER THE INPUT: true; the input reads as it did. -/
def profileZeroSpec : ChangeSpec := { name := "profileZero", fn := fun _ => fun
  | [d1, d2] => { results := [.lit (.bool true)], args := [d1, d2] }
  | _ => none }
def profileZeroRow : OpenClaim := { program := "ytodheeifecoebaa", sum := "8051cc7bb6cac5f4159eee3b8280ae7a36e8b4ec86b1f8ff273d24fa1c80bd04", func := "speculum/speculumlaw05.ProfileZero", spec := "profileZero", unfollowed := true, recurses := true, apart := false }
def ProfileZeroSaid : Prop := profileZeroRow.holds Try.pinned (OpenSpec.ofChange profileZeroSpec)

/-- ITS FALSE NEIGHBOUR: 'it returns false'. Refute it at one input. -/
def profileZeroWrong : ChangeSpec := { name := "profileZero", fn := fun _ => fun
  | [d1, d2] => { results := [.lit (.bool false)], args := [d1, d2] }
  | _ => none }
def ProfileZeroWrongFalsely : Prop := profileZeroRow.holds Try.pinned (OpenSpec.ofChange profileZeroWrong)

/-- 'speculumlaw05.ProfileHeights': WHATEVER THE INPUT: true; the input reads as it did. -/
def profileHeightsSpec : ChangeSpec := { name := "profileHeights", fn := fun _ => fun
  | [d1, d2, d3] => { results := [.lit (.bool true)], args := [d1, d2, d3] }
  | _ => none }
def profileHeightsRow : OpenClaim := { program := "ytodheeifecoebaa", sum := "8051cc7bb6cac5f4159eee3b8280ae7a36e8b4ec86b1f8ff273d24fa1c80bd04", func := "speculum/speculumlaw05.ProfileHeights", spec := "profileHeights", unfollowed := true, recurses := true, apart := false }
def ProfileHeightsSaid : Prop := profileHeightsRow.holds Try.pinned (OpenSpec.ofChange profileHeightsSpec)

/-- ITS FALSE NEIGHBOUR: 'it returns false'. Refute it at one input. -/
def profileHeightsWrong : ChangeSpec := { name := "profileHeights", fn := fun _ => fun
  | [d1, d2, d3] => { results := [.lit (.bool false)], args := [d1, d2, d3] }
  | _ => none }
def ProfileHeightsWrongFalsely : Prop := profileHeightsRow.holds Try.pinned (OpenSpec.ofChange profileHeightsWrong)

/-- 'speculumlaw05.ProfileBoth': WHATEVER THE INPUT: true; the input reads as it did. -/
def profileBothSpec : ChangeSpec := { name := "profileBoth", fn := fun _ => fun
  | [d1, d2, d3] => { results := [.lit (.bool true)], args := [d1, d2, d3] }
  | _ => none }
def profileBothRow : OpenClaim := { program := "ytodheeifecoebaa", sum := "8051cc7bb6cac5f4159eee3b8280ae7a36e8b4ec86b1f8ff273d24fa1c80bd04", func := "speculum/speculumlaw05.ProfileBoth", spec := "profileBoth", unfollowed := true, recurses := true, apart := false }
def ProfileBothSaid : Prop := profileBothRow.holds Try.pinned (OpenSpec.ofChange profileBothSpec)

/-- ITS FALSE NEIGHBOUR: 'it returns false'. Refute it at one input. -/
def profileBothWrong : ChangeSpec := { name := "profileBoth", fn := fun _ => fun
  | [d1, d2, d3] => { results := [.lit (.bool false)], args := [d1, d2, d3] }
  | _ => none }
def ProfileBothWrongFalsely : Prop := profileBothRow.holds Try.pinned (OpenSpec.ofChange profileBothWrong)

/-- 'speculumlaw05.ProfileTurns': WHATEVER THE INPUT: true; the input reads as it did. -/
def profileTurnsSpec : ChangeSpec := { name := "profileTurns", fn := fun _ => fun
  | [d] => { results := [.lit (.bool true)], args := [d] }
  | _ => none }
def profileTurnsRow : OpenClaim := { program := "ytodheeifecoebaa", sum := "8051cc7bb6cac5f4159eee3b8280ae7a36e8b4ec86b1f8ff273d24fa1c80bd04", func := "speculum/speculumlaw05.ProfileTurns", spec := "profileTurns", unfollowed := true, recurses := true, apart := false }
def ProfileTurnsSaid : Prop := profileTurnsRow.holds Try.pinned (OpenSpec.ofChange profileTurnsSpec)

/-- ITS FALSE NEIGHBOUR: 'it returns false'. Refute it at one input. -/
def profileTurnsWrong : ChangeSpec := { name := "profileTurns", fn := fun _ => fun
  | [d] => { results := [.lit (.bool false)], args := [d] }
  | _ => none }
def ProfileTurnsWrongFalsely : Prop := profileTurnsRow.holds Try.pinned (OpenSpec.ofChange profileTurnsWrong)

/-- 'speculumlaw05.ProfileUnwraps': WHATEVER THE INPUT: true; the input reads as it did. -/
def profileUnwrapsSpec : ChangeSpec := { name := "profileUnwraps", fn := fun _ => fun
  | [d] => { results := [.lit (.bool true)], args := [d] }
  | _ => none }
def profileUnwrapsRow : OpenClaim := { program := "ytodheeifecoebaa", sum := "8051cc7bb6cac5f4159eee3b8280ae7a36e8b4ec86b1f8ff273d24fa1c80bd04", func := "speculum/speculumlaw05.ProfileUnwraps", spec := "profileUnwraps", unfollowed := true, recurses := true, apart := false }
def ProfileUnwrapsSaid : Prop := profileUnwrapsRow.holds Try.pinned (OpenSpec.ofChange profileUnwrapsSpec)

/-- ITS FALSE NEIGHBOUR: 'it returns false'. Refute it at one input. -/
def profileUnwrapsWrong : ChangeSpec := { name := "profileUnwraps", fn := fun _ => fun
  | [d] => { results := [.lit (.bool false)], args := [d] }
  | _ => none }
def ProfileUnwrapsWrongFalsely : Prop := profileUnwrapsRow.holds Try.pinned (OpenSpec.ofChange profileUnwrapsWrong)

/-- 'speculumlaw05.ProfileLoops': WHATEVER THE INPUT: true; the input reads as it did. -/
def profileLoopsSpec : ChangeSpec := { name := "profileLoops", fn := fun _ => fun
  | [d1, d2] => { results := [.lit (.bool true)], args := [d1, d2] }
  | _ => none }
def profileLoopsRow : OpenClaim := { program := "ytodheeifecoebaa", sum := "8051cc7bb6cac5f4159eee3b8280ae7a36e8b4ec86b1f8ff273d24fa1c80bd04", func := "speculum/speculumlaw05.ProfileLoops", spec := "profileLoops", unfollowed := true, recurses := true, apart := false }
def ProfileLoopsSaid : Prop := profileLoopsRow.holds Try.pinned (OpenSpec.ofChange profileLoopsSpec)

/-- ITS FALSE NEIGHBOUR: 'it returns false'. Refute it at one input. -/
def profileLoopsWrong : ChangeSpec := { name := "profileLoops", fn := fun _ => fun
  | [d1, d2] => { results := [.lit (.bool false)], args := [d1, d2] }
  | _ => none }
def ProfileLoopsWrongFalsely : Prop := profileLoopsRow.holds Try.pinned (OpenSpec.ofChange profileLoopsWrong)

/-- 'speculumlaw05.ProfileEnclosures': WHATEVER THE INPUT: true; the input reads as it did. -/
def profileEnclosuresSpec : ChangeSpec := { name := "profileEnclosures", fn := fun _ => fun
  | [d1, d2] => { results := [.lit (.bool true)], args := [d1, d2] }
  | _ => none }
def profileEnclosuresRow : OpenClaim := { program := "ytodheeifecoebaa", sum := "8051cc7bb6cac5f4159eee3b8280ae7a36e8b4ec86b1f8ff273d24fa1c80bd04", func := "speculum/speculumlaw05.ProfileEnclosures", spec := "profileEnclosures", unfollowed := true, recurses := true, apart := false }
def ProfileEnclosuresSaid : Prop := profileEnclosuresRow.holds Try.pinned (OpenSpec.ofChange profileEnclosuresSpec)

/-- ITS FALSE NEIGHBOUR: 'it returns false'. Refute it at one input. -/
def profileEnclosuresWrong : ChangeSpec := { name := "profileEnclosures", fn := fun _ => fun
  | [d1, d2] => { results := [.lit (.bool false)], args := [d1, d2] }
  | _ => none }
def ProfileEnclosuresWrongFalsely : Prop := profileEnclosuresRow.holds Try.pinned (OpenSpec.ofChange profileEnclosuresWrong)

/-- 'speculumlaw05.ProfileClashes': WHATEVER THE INPUT: true; the input reads as it did. -/
def profileClashesSpec : ChangeSpec := { name := "profileClashes", fn := fun _ => fun
  | [d1, d2, d3] => { results := [.lit (.bool true)], args := [d1, d2, d3] }
  | _ => none }
def profileClashesRow : OpenClaim := { program := "ytodheeifecoebaa", sum := "8051cc7bb6cac5f4159eee3b8280ae7a36e8b4ec86b1f8ff273d24fa1c80bd04", func := "speculum/speculumlaw05.ProfileClashes", spec := "profileClashes", unfollowed := true, recurses := true, apart := false }
def ProfileClashesSaid : Prop := profileClashesRow.holds Try.pinned (OpenSpec.ofChange profileClashesSpec)

/-- ITS FALSE NEIGHBOUR: 'it returns false'. Refute it at one input. -/
def profileClashesWrong : ChangeSpec := { name := "profileClashes", fn := fun _ => fun
  | [d1, d2, d3] => { results := [.lit (.bool false)], args := [d1, d2, d3] }
  | _ => none }
def ProfileClashesWrongFalsely : Prop := profileClashesRow.holds Try.pinned (OpenSpec.ofChange profileClashesWrong)

/-- 'speculumlaw05.ProfilePairs': WHATEVER THE INPUT: true; the input reads as it did. -/
def profilePairsSpec : ChangeSpec := { name := "profilePairs", fn := fun _ => fun
  | [d1, d2, d3] => { results := [.lit (.bool true)], args := [d1, d2, d3] }
  | _ => none }
def profilePairsRow : OpenClaim := { program := "ytodheeifecoebaa", sum := "8051cc7bb6cac5f4159eee3b8280ae7a36e8b4ec86b1f8ff273d24fa1c80bd04", func := "speculum/speculumlaw05.ProfilePairs", spec := "profilePairs", unfollowed := true, recurses := true, apart := false }
def ProfilePairsSaid : Prop := profilePairsRow.holds Try.pinned (OpenSpec.ofChange profilePairsSpec)

/-- ITS FALSE NEIGHBOUR: 'it returns false'. Refute it at one input. -/
def profilePairsWrong : ChangeSpec := { name := "profilePairs", fn := fun _ => fun
  | [d1, d2, d3] => { results := [.lit (.bool false)], args := [d1, d2, d3] }
  | _ => none }
def ProfilePairsWrongFalsely : Prop := profilePairsRow.holds Try.pinned (OpenSpec.ofChange profilePairsWrong)

/-- 'speculumtop.TopFringesBack': WHATEVER THE INPUT: true; the input reads as it did. -/
def topFringesBackSpec : ChangeSpec := { name := "topFringesBack", fn := fun _ => fun
  | [d] => { results := [.lit (.bool true)], args := [d] }
  | _ => none }
def topFringesBackRow : OpenClaim := { program := "ytodheeifecoebaa", sum := "8051cc7bb6cac5f4159eee3b8280ae7a36e8b4ec86b1f8ff273d24fa1c80bd04", func := "speculum/speculumtop.TopFringesBack", spec := "topFringesBack", unfollowed := true, recurses := true, apart := false }
def TopFringesBackSaid : Prop := topFringesBackRow.holds Try.pinned (OpenSpec.ofChange topFringesBackSpec)

/-- ITS FALSE NEIGHBOUR: 'it returns false'. Refute it at one input. -/
def topFringesBackWrong : ChangeSpec := { name := "topFringesBack", fn := fun _ => fun
  | [d] => { results := [.lit (.bool false)], args := [d] }
  | _ => none }
def TopFringesBackWrongFalsely : Prop := topFringesBackRow.holds Try.pinned (OpenSpec.ofChange topFringesBackWrong)

/-- 'speculumlaw05.ProfileFringes': WHATEVER THE INPUT: true; the input reads as it did. -/
def profileFringesSpec : ChangeSpec := { name := "profileFringes", fn := fun _ => fun
  | [d1, d2, d3] => { results := [.lit (.bool true)], args := [d1, d2, d3] }
  | _ => none }
def profileFringesRow : OpenClaim := { program := "ytodheeifecoebaa", sum := "8051cc7bb6cac5f4159eee3b8280ae7a36e8b4ec86b1f8ff273d24fa1c80bd04", func := "speculum/speculumlaw05.ProfileFringes", spec := "profileFringes", unfollowed := true, recurses := true, apart := false }
def ProfileFringesSaid : Prop := profileFringesRow.holds Try.pinned (OpenSpec.ofChange profileFringesSpec)

/-- ITS FALSE NEIGHBOUR: 'it returns false'. Refute it at one input. -/
def profileFringesWrong : ChangeSpec := { name := "profileFringes", fn := fun _ => fun
  | [d1, d2, d3] => { results := [.lit (.bool false)], args := [d1, d2, d3] }
  | _ => none }
def ProfileFringesWrongFalsely : Prop := profileFringesRow.holds Try.pinned (OpenSpec.ofChange profileFringesWrong)

/-- 'speculumlaw05.ProfileReduces': WHATEVER THE INPUT: true; the input reads as it did. -/
def profileReducesSpec : ChangeSpec := { name := "profileReduces", fn := fun _ => fun
  | [d1, d2] => { results := [.lit (.bool true)], args := [d1, d2] }
  | _ => none }
def profileReducesRow : OpenClaim := { program := "ytodheeifecoebaa", sum := "8051cc7bb6cac5f4159eee3b8280ae7a36e8b4ec86b1f8ff273d24fa1c80bd04", func := "speculum/speculumlaw05.ProfileReduces", spec := "profileReduces", unfollowed := true, recurses := true, apart := false }
def ProfileReducesSaid : Prop := profileReducesRow.holds Try.pinned (OpenSpec.ofChange profileReducesSpec)

/-- ITS FALSE NEIGHBOUR: 'it returns false'. Refute it at one input. -/
def profileReducesWrong : ChangeSpec := { name := "profileReduces", fn := fun _ => fun
  | [d1, d2] => { results := [.lit (.bool false)], args := [d1, d2] }
  | _ => none }
def ProfileReducesWrongFalsely : Prop := profileReducesRow.holds Try.pinned (OpenSpec.ofChange profileReducesWrong)

/-- 'speculumlaw05.ProfileNeedless': WHATEVER THE INPUT: true; the input reads as it did. -/
def profileNeedlessSpec : ChangeSpec := { name := "profileNeedless", fn := fun _ => fun
  | [d1, d2] => { results := [.lit (.bool true)], args := [d1, d2] }
  | _ => none }
def profileNeedlessRow : OpenClaim := { program := "ytodheeifecoebaa", sum := "8051cc7bb6cac5f4159eee3b8280ae7a36e8b4ec86b1f8ff273d24fa1c80bd04", func := "speculum/speculumlaw05.ProfileNeedless", spec := "profileNeedless", unfollowed := true, recurses := true, apart := false }
def ProfileNeedlessSaid : Prop := profileNeedlessRow.holds Try.pinned (OpenSpec.ofChange profileNeedlessSpec)

/-- ITS FALSE NEIGHBOUR: 'it returns false'. Refute it at one input. -/
def profileNeedlessWrong : ChangeSpec := { name := "profileNeedless", fn := fun _ => fun
  | [d1, d2] => { results := [.lit (.bool false)], args := [d1, d2] }
  | _ => none }
def ProfileNeedlessWrongFalsely : Prop := profileNeedlessRow.holds Try.pinned (OpenSpec.ofChange profileNeedlessWrong)

/-- 'speculumlaw05.ProfileGains': WHATEVER THE INPUT: true; the input reads as it did. -/
def profileGainsSpec : ChangeSpec := { name := "profileGains", fn := fun _ => fun
  | [d1, d2, d3] => { results := [.lit (.bool true)], args := [d1, d2, d3] }
  | _ => none }
def profileGainsRow : OpenClaim := { program := "ytodheeifecoebaa", sum := "8051cc7bb6cac5f4159eee3b8280ae7a36e8b4ec86b1f8ff273d24fa1c80bd04", func := "speculum/speculumlaw05.ProfileGains", spec := "profileGains", unfollowed := true, recurses := true, apart := false }
def ProfileGainsSaid : Prop := profileGainsRow.holds Try.pinned (OpenSpec.ofChange profileGainsSpec)

/-- ITS FALSE NEIGHBOUR: 'it returns false'. Refute it at one input. -/
def profileGainsWrong : ChangeSpec := { name := "profileGains", fn := fun _ => fun
  | [d1, d2, d3] => { results := [.lit (.bool false)], args := [d1, d2, d3] }
  | _ => none }
def ProfileGainsWrongFalsely : Prop := profileGainsRow.holds Try.pinned (OpenSpec.ofChange profileGainsWrong)

/-- 'speculumlaw05.ProfileFits': WHATEVER THE INPUT: true; the input reads as it did. -/
def profileFitsSpec : ChangeSpec := { name := "profileFits", fn := fun _ => fun
  | [d1, d2, d3] => { results := [.lit (.bool true)], args := [d1, d2, d3] }
  | _ => none }
def profileFitsRow : OpenClaim := { program := "ytodheeifecoebaa", sum := "8051cc7bb6cac5f4159eee3b8280ae7a36e8b4ec86b1f8ff273d24fa1c80bd04", func := "speculum/speculumlaw05.ProfileFits", spec := "profileFits", unfollowed := true, recurses := true, apart := false }
def ProfileFitsSaid : Prop := profileFitsRow.holds Try.pinned (OpenSpec.ofChange profileFitsSpec)

/-- ITS FALSE NEIGHBOUR: 'it returns false'. Refute it at one input. -/
def profileFitsWrong : ChangeSpec := { name := "profileFits", fn := fun _ => fun
  | [d1, d2, d3] => { results := [.lit (.bool false)], args := [d1, d2, d3] }
  | _ => none }
def ProfileFitsWrongFalsely : Prop := profileFitsRow.holds Try.pinned (OpenSpec.ofChange profileFitsWrong)

/-- 'speculumlaw05.ProfileReaches': WHATEVER THE INPUT: true; the input reads as it did. -/
def profileReachesSpec : ChangeSpec := { name := "profileReaches", fn := fun _ => fun
  | [d1, d2, d3] => { results := [.lit (.bool true)], args := [d1, d2, d3] }
  | _ => none }
def profileReachesRow : OpenClaim := { program := "ytodheeifecoebaa", sum := "8051cc7bb6cac5f4159eee3b8280ae7a36e8b4ec86b1f8ff273d24fa1c80bd04", func := "speculum/speculumlaw05.ProfileReaches", spec := "profileReaches", unfollowed := true, recurses := true, apart := false }
def ProfileReachesSaid : Prop := profileReachesRow.holds Try.pinned (OpenSpec.ofChange profileReachesSpec)

/-- ITS FALSE NEIGHBOUR: 'it returns false'. Refute it at one input. -/
def profileReachesWrong : ChangeSpec := { name := "profileReaches", fn := fun _ => fun
  | [d1, d2, d3] => { results := [.lit (.bool false)], args := [d1, d2, d3] }
  | _ => none }
def ProfileReachesWrongFalsely : Prop := profileReachesRow.holds Try.pinned (OpenSpec.ofChange profileReachesWrong)

/- THE SECOND FORM. 'bulk': how many values and letters a reading holds, each counted each time it is reached (what is shared counts as often as it is met; a slice's spare places count too). A statement '..UptoSaid' is the law's where the arguments, and the package variables that the reading takes, are together of bulk at most 1048576: NARROWER than '..Said'. Prove '..Said' where nothing that the law and all that it calls make is longer than what came in: it says more and counts as full. Else prove '..UptoSaid'. A law counts once. -/
mutual
def uptoBulk {H : Type} : DataW H → Nat
  | .lit (.string bytes) => bytes.length + 1
  | .lit _ => 1
  | .nil => 1
  | .ptr d => uptoBulk d + 1
  | .slice elems spare => uptoBulkAll elems + uptoBulkAll spare + 1
  | .agg parts => uptoBulkAll parts + 1
  | .iface _ d => uptoBulk d + 1
  | .map entries => uptoBulkEntries entries + 1
  | .held _ => 1
def uptoBulkAll {H : Type} : List (DataW H) → Nat
  | [] => 0
  | d :: r => uptoBulk d + uptoBulkAll r
def uptoBulkEntries {H : Type} : List (Lit × DataW H) → Nat
  | [] => 0
  | x :: r => uptoBulkEntry x + uptoBulkEntries r
def uptoBulkEntry {H : Type} : Lit × DataW H → Nat
  | (.string bytes, d) => bytes.length + uptoBulk d + 1
  | (_, d) => uptoBulk d + 1
 end
def uptoSmall : (H : Type) → List (DataW H) → Bool := fun _ ds => decide (uptoBulkAll ds ≤ 1048576)
def OpenSpec.upto (s : _root_.Go.ChangeSpec) : _root_.Go.OpenSpec := { _root_.Go.OpenSpec.ofChange s with cond := some uptoSmall }

/-- 'speculumlaw05.ProfileZero', WHERE WHAT IT READS IS OF BULK AT MOST 1048576: true; the input reads as it did. -/
def profileZeroUptoRow : OpenClaim := { program := "ytodheeifecoebaa", sum := "8051cc7bb6cac5f4159eee3b8280ae7a36e8b4ec86b1f8ff273d24fa1c80bd04", func := "speculum/speculumlaw05.ProfileZero", spec := "profileZero", unfollowed := true, recurses := true, apart := false, narrowed := true }
def ProfileZeroUptoSaid : Prop := profileZeroUptoRow.holds Try.pinned (OpenSpec.upto profileZeroSpec)

/-- 'speculumlaw05.ProfileHeights', WHERE WHAT IT READS IS OF BULK AT MOST 1048576: true; the input reads as it did. -/
def profileHeightsUptoRow : OpenClaim := { program := "ytodheeifecoebaa", sum := "8051cc7bb6cac5f4159eee3b8280ae7a36e8b4ec86b1f8ff273d24fa1c80bd04", func := "speculum/speculumlaw05.ProfileHeights", spec := "profileHeights", unfollowed := true, recurses := true, apart := false, narrowed := true }
def ProfileHeightsUptoSaid : Prop := profileHeightsUptoRow.holds Try.pinned (OpenSpec.upto profileHeightsSpec)

/-- 'speculumlaw05.ProfileBoth', WHERE WHAT IT READS IS OF BULK AT MOST 1048576: true; the input reads as it did. -/
def profileBothUptoRow : OpenClaim := { program := "ytodheeifecoebaa", sum := "8051cc7bb6cac5f4159eee3b8280ae7a36e8b4ec86b1f8ff273d24fa1c80bd04", func := "speculum/speculumlaw05.ProfileBoth", spec := "profileBoth", unfollowed := true, recurses := true, apart := false, narrowed := true }
def ProfileBothUptoSaid : Prop := profileBothUptoRow.holds Try.pinned (OpenSpec.upto profileBothSpec)

/-- 'speculumlaw05.ProfileTurns', WHERE WHAT IT READS IS OF BULK AT MOST 1048576: true; the input reads as it did. -/
def profileTurnsUptoRow : OpenClaim := { program := "ytodheeifecoebaa", sum := "8051cc7bb6cac5f4159eee3b8280ae7a36e8b4ec86b1f8ff273d24fa1c80bd04", func := "speculum/speculumlaw05.ProfileTurns", spec := "profileTurns", unfollowed := true, recurses := true, apart := false, narrowed := true }
def ProfileTurnsUptoSaid : Prop := profileTurnsUptoRow.holds Try.pinned (OpenSpec.upto profileTurnsSpec)

/-- 'speculumlaw05.ProfileUnwraps', WHERE WHAT IT READS IS OF BULK AT MOST 1048576: true; the input reads as it did. -/
def profileUnwrapsUptoRow : OpenClaim := { program := "ytodheeifecoebaa", sum := "8051cc7bb6cac5f4159eee3b8280ae7a36e8b4ec86b1f8ff273d24fa1c80bd04", func := "speculum/speculumlaw05.ProfileUnwraps", spec := "profileUnwraps", unfollowed := true, recurses := true, apart := false, narrowed := true }
def ProfileUnwrapsUptoSaid : Prop := profileUnwrapsUptoRow.holds Try.pinned (OpenSpec.upto profileUnwrapsSpec)

/-- 'speculumlaw05.ProfileLoops', WHERE WHAT IT READS IS OF BULK AT MOST 1048576: true; the input reads as it did. -/
def profileLoopsUptoRow : OpenClaim := { program := "ytodheeifecoebaa", sum := "8051cc7bb6cac5f4159eee3b8280ae7a36e8b4ec86b1f8ff273d24fa1c80bd04", func := "speculum/speculumlaw05.ProfileLoops", spec := "profileLoops", unfollowed := true, recurses := true, apart := false, narrowed := true }
def ProfileLoopsUptoSaid : Prop := profileLoopsUptoRow.holds Try.pinned (OpenSpec.upto profileLoopsSpec)

/-- 'speculumlaw05.ProfileEnclosures', WHERE WHAT IT READS IS OF BULK AT MOST 1048576: true; the input reads as it did. -/
def profileEnclosuresUptoRow : OpenClaim := { program := "ytodheeifecoebaa", sum := "8051cc7bb6cac5f4159eee3b8280ae7a36e8b4ec86b1f8ff273d24fa1c80bd04", func := "speculum/speculumlaw05.ProfileEnclosures", spec := "profileEnclosures", unfollowed := true, recurses := true, apart := false, narrowed := true }
def ProfileEnclosuresUptoSaid : Prop := profileEnclosuresUptoRow.holds Try.pinned (OpenSpec.upto profileEnclosuresSpec)

/-- 'speculumlaw05.ProfileClashes', WHERE WHAT IT READS IS OF BULK AT MOST 1048576: true; the input reads as it did. -/
def profileClashesUptoRow : OpenClaim := { program := "ytodheeifecoebaa", sum := "8051cc7bb6cac5f4159eee3b8280ae7a36e8b4ec86b1f8ff273d24fa1c80bd04", func := "speculum/speculumlaw05.ProfileClashes", spec := "profileClashes", unfollowed := true, recurses := true, apart := false, narrowed := true }
def ProfileClashesUptoSaid : Prop := profileClashesUptoRow.holds Try.pinned (OpenSpec.upto profileClashesSpec)

/-- 'speculumlaw05.ProfilePairs', WHERE WHAT IT READS IS OF BULK AT MOST 1048576: true; the input reads as it did. -/
def profilePairsUptoRow : OpenClaim := { program := "ytodheeifecoebaa", sum := "8051cc7bb6cac5f4159eee3b8280ae7a36e8b4ec86b1f8ff273d24fa1c80bd04", func := "speculum/speculumlaw05.ProfilePairs", spec := "profilePairs", unfollowed := true, recurses := true, apart := false, narrowed := true }
def ProfilePairsUptoSaid : Prop := profilePairsUptoRow.holds Try.pinned (OpenSpec.upto profilePairsSpec)

/-- 'speculumtop.TopFringesBack', WHERE WHAT IT READS IS OF BULK AT MOST 1048576: true; the input reads as it did. -/
def topFringesBackUptoRow : OpenClaim := { program := "ytodheeifecoebaa", sum := "8051cc7bb6cac5f4159eee3b8280ae7a36e8b4ec86b1f8ff273d24fa1c80bd04", func := "speculum/speculumtop.TopFringesBack", spec := "topFringesBack", unfollowed := true, recurses := true, apart := false, narrowed := true }
def TopFringesBackUptoSaid : Prop := topFringesBackUptoRow.holds Try.pinned (OpenSpec.upto topFringesBackSpec)

/-- 'speculumlaw05.ProfileFringes', WHERE WHAT IT READS IS OF BULK AT MOST 1048576: true; the input reads as it did. -/
def profileFringesUptoRow : OpenClaim := { program := "ytodheeifecoebaa", sum := "8051cc7bb6cac5f4159eee3b8280ae7a36e8b4ec86b1f8ff273d24fa1c80bd04", func := "speculum/speculumlaw05.ProfileFringes", spec := "profileFringes", unfollowed := true, recurses := true, apart := false, narrowed := true }
def ProfileFringesUptoSaid : Prop := profileFringesUptoRow.holds Try.pinned (OpenSpec.upto profileFringesSpec)

/-- 'speculumlaw05.ProfileReduces', WHERE WHAT IT READS IS OF BULK AT MOST 1048576: true; the input reads as it did. -/
def profileReducesUptoRow : OpenClaim := { program := "ytodheeifecoebaa", sum := "8051cc7bb6cac5f4159eee3b8280ae7a36e8b4ec86b1f8ff273d24fa1c80bd04", func := "speculum/speculumlaw05.ProfileReduces", spec := "profileReduces", unfollowed := true, recurses := true, apart := false, narrowed := true }
def ProfileReducesUptoSaid : Prop := profileReducesUptoRow.holds Try.pinned (OpenSpec.upto profileReducesSpec)

/-- 'speculumlaw05.ProfileNeedless', WHERE WHAT IT READS IS OF BULK AT MOST 1048576: true; the input reads as it did. -/
def profileNeedlessUptoRow : OpenClaim := { program := "ytodheeifecoebaa", sum := "8051cc7bb6cac5f4159eee3b8280ae7a36e8b4ec86b1f8ff273d24fa1c80bd04", func := "speculum/speculumlaw05.ProfileNeedless", spec := "profileNeedless", unfollowed := true, recurses := true, apart := false, narrowed := true }
def ProfileNeedlessUptoSaid : Prop := profileNeedlessUptoRow.holds Try.pinned (OpenSpec.upto profileNeedlessSpec)

/-- 'speculumlaw05.ProfileGains', WHERE WHAT IT READS IS OF BULK AT MOST 1048576: true; the input reads as it did. -/
def profileGainsUptoRow : OpenClaim := { program := "ytodheeifecoebaa", sum := "8051cc7bb6cac5f4159eee3b8280ae7a36e8b4ec86b1f8ff273d24fa1c80bd04", func := "speculum/speculumlaw05.ProfileGains", spec := "profileGains", unfollowed := true, recurses := true, apart := false, narrowed := true }
def ProfileGainsUptoSaid : Prop := profileGainsUptoRow.holds Try.pinned (OpenSpec.upto profileGainsSpec)

/-- 'speculumlaw05.ProfileFits', WHERE WHAT IT READS IS OF BULK AT MOST 1048576: true; the input reads as it did. -/
def profileFitsUptoRow : OpenClaim := { program := "ytodheeifecoebaa", sum := "8051cc7bb6cac5f4159eee3b8280ae7a36e8b4ec86b1f8ff273d24fa1c80bd04", func := "speculum/speculumlaw05.ProfileFits", spec := "profileFits", unfollowed := true, recurses := true, apart := false, narrowed := true }
def ProfileFitsUptoSaid : Prop := profileFitsUptoRow.holds Try.pinned (OpenSpec.upto profileFitsSpec)

/-- 'speculumlaw05.ProfileReaches', WHERE WHAT IT READS IS OF BULK AT MOST 1048576: true; the input reads as it did. -/
def profileReachesUptoRow : OpenClaim := { program := "ytodheeifecoebaa", sum := "8051cc7bb6cac5f4159eee3b8280ae7a36e8b4ec86b1f8ff273d24fa1c80bd04", func := "speculum/speculumlaw05.ProfileReaches", spec := "profileReaches", unfollowed := true, recurses := true, apart := false, narrowed := true }
def ProfileReachesUptoSaid : Prop := profileReachesUptoRow.holds Try.pinned (OpenSpec.upto profileReachesSpec)

end Rows
end Go.Proofs.Ytodheeifecoebaa
