import Derived.Test.YtpfmamngjefohaaK319
set_option linter.all false
set_option linter.unusedVariables false
set_option linter.unusedSimpArgs false
set_option linter.unusedSectionVars false
namespace Go.Abs
open Go.ChangeShapes Go.WideShapes Go.RowKit Go.Proofs
/-! texts, demands, plans, weights, answers opened -/
section
variable {H : Type} {enc : TypeId × Value → H} {w : World} {base : Nat}
set_option maxRecDepth 100000 in
theorem open_str {v : Value} {d : DataW H} {ps : List MemPlace} (hval : Value.okWide Try.prog w .any base 9 v) (h : DataW.Trod enc Try.prog w 0 (fun _ => true) true 9 v d ps) : ∃ b : ByteArray, v = .string b := by
  unfold Value.okWide Cell.okWide Cell.ok at hval
  rw [Try.underlying9] at hval
  cases v with
  | string b => exact ⟨b, rfl⟩
  | _ => exact hval.elim
end
end Go.Abs
