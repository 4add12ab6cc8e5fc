import Derived.Test.YtpfmamngjefohaaK9
import Derived.Test.YtpfmamngjefohaaK312x
import Derived.Test.YtpfmamngjefohaaK330x
set_option linter.all false
set_option linter.unusedVariables false
set_option linter.unusedSimpArgs false
set_option linter.unusedSectionVars false
namespace Go.Abs
open Go.Proofs
/-! wear -/
/-- right sessions -/
structure ZOk (l : List Sk) (s : List Ss) : Prop where
  few : s.length ≤ 200
  at_ : ∀ k, k < s.length → 0 ≤ sAt l (s.getD k ss0).st ∧ sAt l (s.getD k ss0).st < l.length
  mn : ∀ k, k < s.length → 1 ≤ (s.getD k ss0).mn ∧ (s.getD k ss0).mn ≤ 10000
theorem mul_bd {a b A B : Int} (ha : 0 ≤ a ∧ a ≤ A) (hb : 0 ≤ b ∧ b ≤ B) : 0 ≤ a * b ∧ a * b ≤ A * B :=
  ⟨Int.mul_nonneg ha.1 hb.1, Int.le_trans (Int.mul_le_mul_of_nonneg_left hb.2 ha.1) (Int.mul_le_mul_of_nonneg_right ha.2 (by omega))⟩
end Go.Abs
namespace Go.Abs
open Go.Proofs
/-! WearOf of the reference -/
end Go.Abs
namespace Go.Abs
open Go.Proofs
/-! worn -/
end Go.Abs
namespace Go.Abs
open Go.Proofs
/-! WearOf -/
end Go.Abs
namespace Go.Abs
open Go.Proofs
/-! GrindSessions -/
end Go.Abs
namespace Go.Abs
open Go.Proofs
/-! the wear of a plan -/
/-- right minutes -/
structure POk (l : List Sk) (mi : List Int) (den : Int) : Prop where
  len : mi.length = l.length
  den : 1 ≤ den ∧ den ≤ 10000000
  mn : ∀ k, k < mi.length → 0 ≤ mi.getD k 0 ∧ mi.getD k 0 ≤ 1000000000
end Go.Abs
namespace Go.Abs
open Go.Proofs
/-! wear -/
abbrev kB (s : Sk) : Blk := .cells true false 2 [[tx s.nm, ints s.nil s.wr]]
end Go.Abs
