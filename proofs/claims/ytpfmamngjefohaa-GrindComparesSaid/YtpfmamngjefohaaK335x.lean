import Derived.Test.YtpfmamngjefohaaK313
import Derived.Test.YtpfmamngjefohaaK350x
import Derived.Test.YtpfmamngjefohaaK334x
set_option linter.all false
set_option linter.unusedVariables false
set_option linter.unusedSimpArgs false
set_option linter.unusedSectionVars false
namespace Go.Abs
open Go.Proofs
/-! WearBy -/
def outR (W : List Int) (den : Int) (k : Nat) : List (List AV) := (List.range k).map fun z => [i64 (W.getD z 0 / den), i64 (ceil (W.getD z 0) den)]
structure I37 (H0 : List Blk) (W : List Int) (den : Int) (k : Nat) (H : List Blk) : Prop where
  n : H.length = H0.length + 2 * k
  s : ∀ i, i < H0.length → H[i]? = H0[i]?
  t : k ≠ 0 → H[H0.length + 2 * k - 1]? = some (.cells true false 2 (outR W den k))
theorem I37.fin {H0 F : List Blk} {W : List Int} {den : Int} {k : Nat} (hF : F.length = H0.length + 2 * k) (hs : ∀ i, i < H0.length → F[i]? = H0[i]?) (a : Blk) : I37 H0 W den (k + 1) (F ++ [a, .cells true false 2 (outR W den (k + 1))]) := by
  refine ⟨by simp [hF]; omega, fun i hi => ?_, fun _ => ?_⟩
  · rw [List.getElem?_append_left (by omega)]; exact hs i hi
  · rw [show H0.length + 2 * (k + 1) - 1 = F.length + 1 by omega, List.getElem?_append_right (by omega), Nat.add_sub_cancel_left]; rfl
end Go.Abs
namespace Go.Abs
open Go.Proofs
/-! WearBy of both sides -/
end Go.Abs
namespace Go.Abs
open Go.Proofs
/-! GrindPlanChecks -/
theorem gv_dm (n1 n2 : Bool) (lo hi : List Int) (hlo : lo.length < 1000000) (hhi : hi.length < 1000000) : Gv 2 Try.prog 23 [dmV n1 lo n2 hi] [dmV false lo false hi] :=
  Gv.of_fn 2 (k23 n1 n2 lo hi hlo hhi) [.agg [.lsl 0 0 lo.length, .lsl 1 0 hi.length]] rfl (by
    show [AV.agg [rfy _ 1 (.lsl 0 0 lo.length), rfy _ 1 (.lsl 1 0 hi.length)]] = _
    rw [rfy_iB (H := [iC lo, iC hi]) (id := 0) rfl rfl, rfy_iB (H := [iC lo, iC hi]) (id := 1) rfl rfl]) (by simp [plainL, plain])
end Go.Abs
namespace Go.Abs
open Go.Proofs
/-! GrindProofChecks -/
end Go.Abs
namespace Go.Abs
open Go.Proofs
/-! GrindPlanChecks: all cases -/
theorem skc_wr (l : List Sk) (k : Nat) : ((skc l).getD k sk0).wr = (l.getD k sk0).wr := (skc_get l k).1
theorem skc_plE (l : List Sk) (mi : List Int) (den : Int) : plE (skc l) mi den = plE l mi den := by unfold plE; rw [skc_len]
theorem skc_pwz (l : List Sk) (mi : List Int) : ∀ k z, pwz (skc l) mi k z = pwz l mi k z
  | 0, _ => rfl
  | k + 1, z => by simp only [pwz]; rw [skc_pwz l mi k z, skc_wr]
theorem skc_pwL (l : List Sk) (mi : List Int) : pwL (skc l) mi = pwL l mi := by
  unfold pwL
  rw [skc_wr, skc_len]
  exact fL_congr fun z _ => skc_pwz l mi l.length z
theorem skc_ppE (l : List Sk) (lo hi mi : List Int) (den : Int) : ppE (skc l) lo hi mi den = ppE l lo hi mi den := by unfold ppE; rw [skc_sE, skc_wr, skc_plE]
theorem skc_cpE (l : List Sk) (lo hi mi : List Int) (den : Int) : cpE (skc l) lo hi mi den = cpE l lo hi mi den := by unfold cpE; rw [skc_ppE, skc_wr, skc_pwL]
theorem skc_cpN (l : List Sk) (lo hi mi : List Int) (den : Int) : cpN (skc l) lo hi mi den = cpN l lo hi mi den := by unfold cpN; rw [skc_ppE, skc_wr, skc_pwL]
theorem k36a {l : List Sk} {lo hi mi : List Int} {den : Int} {b : Bool} {m : Nat} {E : List (List AV)} (hcp : cpS l = .sl b m E) (hV : StV (skc l) b m E) (hl : l.length < 1000000) (hlo : lo.length < 1000000) (hhi : hi.length < 1000000) (hmi : mi.length < 1000000) : Fn Try.prog 36 [cpS l, dmV false lo false hi, plV false mi den] (.tup [i64 (cpN l lo hi mi den), i64 (cpE l lo hi mi den)]) [] := by
  rw [hcp]
  by_cases h0 : ppE l lo hi mi den = 0
  · obtain ⟨z1, _, _⟩ := ppE_zero h0
    obtain ⟨rfl, rfl⟩ := hV.g (by rw [skc_sE]; exact z1)
    have h := k36 (n1 := false) (n2 := false) (np := false) hV hlo hhi hmi (by rw [skc_ppE]; exact h0)
    rw [skc_cpE, skc_cpN] at h
    exact h
  · have h := k36e (n1 := false) (n2 := false) (np := false) (den := den) hV (by rw [skc_len]; exact hl) hlo hhi hmi (by rw [skc_ppE]; exact h0)
    rw [skc_ppE] at h
    have e1 : cpN l lo hi mi den = 0 := by unfold cpN; rw [if_pos h0]
    have e2 : cpE l lo hi mi den = ppE l lo hi mi den := by unfold cpE; rw [if_pos h0]
    rw [e1, e2]
    exact h
end Go.Abs
