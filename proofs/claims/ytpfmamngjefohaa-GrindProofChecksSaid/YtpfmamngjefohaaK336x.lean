import Derived.Test.YtpfmamngjefohaaK313
import Derived.Test.YtpfmamngjefohaaK333x
set_option linter.all false
set_option linter.unusedVariables false
set_option linter.unusedSimpArgs false
set_option linter.unusedSectionVars false
namespace Go.Abs
open Go.Proofs
/-! WearBy of both sides -/
end Go.Abs
namespace Go.Abs
open Go.Proofs
/-! GrindPlanChecks -/
theorem gv_dm (n1 n2 : Bool) (lo hi : List Int) (hlo : lo.length < 1000000) (hhi : hi.length < 1000000) : Gv 2 Try.prog 23 [dmV n1 lo n2 hi] [dmV false lo false hi] :=
  Gv.of_fn 2 (k23 n1 n2 lo hi hlo hhi) [.agg [.lsl 0 0 lo.length, .lsl 1 0 hi.length]] rfl (by
    show [AV.agg [rfy _ 1 (.lsl 0 0 lo.length), rfy _ 1 (.lsl 1 0 hi.length)]] = _
    rw [rfy_iB (H := [iC lo, iC hi]) (id := 0) rfl rfl, rfy_iB (H := [iC lo, iC hi]) (id := 1) rfl rfl]) (by simp [plainL, plain])
end Go.Abs
namespace Go.Abs
open Go.Proofs
/-! GrindSessions: all cases -/
theorem lgB_bd {l : List Sk} (h : lgB l = true) : l.length ≤ 15 ∧ ∀ k, k < l.length → (l.getD k sk0).nm.size ≤ 30 ∧ (l.getD k sk0).wr.length ≤ 43 := by
  unfold lgB at h
  simp only [Bool.and_eq_true, Bool.or_eq_true, decide_eq_true_eq] at h
  refine ⟨by omega, fun k hk => ?_⟩
  have := all_getSk.1 h.2 k hk
  unfold lgS at this
  simp only [Bool.and_eq_true, Bool.or_eq_true, decide_eq_true_eq] at this
  omega
end Go.Abs
namespace Go.Abs
open Go.Proofs
/-! GrindPlanChecks: all cases -/
theorem skc_wr (l : List Sk) (k : Nat) : ((skc l).getD k sk0).wr = (l.getD k sk0).wr := (skc_get l k).1
end Go.Abs
