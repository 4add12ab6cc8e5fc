import Derived.Test.YtpfmamngjefohaaK307x
set_option linter.all false
set_option linter.unusedVariables false
set_option linter.unusedSimpArgs false
set_option linter.unusedSectionVars false
namespace Go.Abs
open Go.Proofs
/-! demands -/
theorem leaveA1 {σ : St} {Q : AV → List Blk → Prop} {n : Int} {t : Nat} (h : σ.get t = i64 n) (hq : Q (i64 n) σ.heap) : leaveA [.tmp t] Q .ret σ := leaveA_of (.inr rfl) [i64 n] (by simp [resL, resAV, h]) hq
end Go.Abs
namespace Go.Abs
open Go.Proofs
/-! demands: the closure, the copy, CheckDemand of the reference -/
abbrev iC (xs : List Int) : Blk := .cells true false 1 (xs.map fun x => [i64 x])
end Go.Abs
