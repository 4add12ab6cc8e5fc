import Derived.Test.YtodheeifecoebaaGreatDoorPCmin
import Derived.Test.YtodheeifecoebaaGreatDoorK117x
set_option linter.all false
set_option linter.unusedVariables false
set_option linter.unusedSimpArgs false
set_option linter.unusedSectionVars false
namespace Go.Abs
open Go.Proofs
/-! one more reading never makes the enclosure wider -/
theorem Wk.more {A A' : List Ar} (h : ∀ k, k < A.length → k < A'.length ∧ A'.getD k ar0 = A.getD k ar0) {vs : List Nat} {i j : Nat} {c : Int} (hw : Wk A vs i j c) : Wk A' vs i j c := by
  induction hw with
  | arc hk => rw [← (h _ hk).2]; exact Wk.arc (h _ hk).1
  | cons hk hw ih => rw [← (h _ hk).2] at ih ⊢; exact Wk.cons (h _ hk).1 ih
end Go.Abs
namespace Go.Abs
open Go.Proofs
/-! Gain -/
end Go.Abs
namespace Go.Abs
open Go.Proofs
theorem cons2 {a b : AV} {l m : List AV} (h1 : a = b) (h2 : l = m) : a :: l = b :: m := by rw [h1, h2]
end Go.Abs
