import Derived.Test.YtpfmamngjefohaaK335x
set_option linter.all false
set_option linter.unusedVariables false
set_option linter.unusedSimpArgs false
set_option linter.unusedSectionVars false
namespace Go.Abs
open Go.Proofs
/-! GrindProofChecks: all cases -/
theorem skc_plB (l : List Sk) (lo hi : List Int) (n : Nat) (most : Int) : plB (skc l) lo hi n most = plB l lo hi n most := by
  unfold plB; rw [skc_len]; simp only [skc_wr]
theorem skc_pfB (l : List Sk) (lo hi : List Int) (den : Int) : pfB (skc l) lo hi den = pfB l lo hi den := by unfold pfB; rw [skc_plB, skc_wr]
theorem skc_pfT (l : List Sk) (dlo dhi lo hi : List Int) : pfT (skc l) dlo dhi lo hi = pfT l dlo dhi lo hi := by unfold pfT; rw [skc_wr]
theorem skc_wpE (l : List Sk) (dlo dhi lo hi : List Int) (den : Int) : wpE (skc l) dlo dhi lo hi den = wpE l dlo dhi lo hi den := by unfold wpE; rw [skc_sE, skc_wr]
/-- the answers of CheckProof and of CheckRefusal -/
def pfE (l : List Sk) (dlo dhi lo hi : List Int) (den : Int) : Int := if wpE l dlo dhi lo hi den ≠ 0 then wpE l dlo dhi lo hi den else if pfB l lo hi den = true then 0 else 22
def pfN (l : List Sk) (dlo dhi lo hi : List Int) (den : Int) : Int := if wpE l dlo dhi lo hi den ≠ 0 then 0 else if pfB l lo hi den = true then pfT l dlo dhi lo hi else 0
theorem k48a {l : List Sk} {dlo dhi lo hi : List Int} {den : Int} {b : Bool} {m : Nat} {E : List (List AV)} (hcp : cpS l = .sl b m E) (hV : StV (skc l) b m E) (hlo : dlo.length < 1000000) (hhi : dhi.length < 1000000) : Fn Try.prog 48 [cpS l, dmV false dlo false dhi, wgV false lo false hi den] (.tup [i64 (pfN l dlo dhi lo hi den), i64 (pfE l dlo dhi lo hi den)]) [] := by
  rw [hcp]
  unfold pfN pfE
  by_cases h0 : wpE l dlo dhi lo hi den = 0
  · obtain ⟨z1, _, _⟩ := wpE_zero h0
    obtain ⟨rfl, rfl⟩ := hV.g (by rw [skc_sE]; exact z1)
    have h := k48 (d1 := false) (d2 := false) (n1 := false) (n2 := false) hV hlo hhi (by rw [skc_wpE]; exact h0)
    rw [skc_pfB, skc_pfT] at h
    have z9 : ¬(wpE l dlo dhi lo hi den ≠ 0) := fun h => h h0
    rw [if_neg z9, if_neg z9]
    exact h
  · have h := k48e (d1 := false) (d2 := false) (n1 := false) (n2 := false) (lo := lo) (hi := hi) (den := den) hV hlo hhi (by rw [skc_wpE]; exact h0)
    rw [skc_wpE] at h
    rw [if_pos h0, if_pos h0]
    exact h
theorem dE_zero {l : List Sk} {lo hi : List Int} (h : dE l lo hi = 0) : sE l = 0 ∧ dmE (l.getD 0 sk0).wr.length lo hi = 0 := by
  unfold dE at h
  by_cases g : sE l = 0
  · rw [if_neg (fun h => h g)] at h; exact ⟨g, h⟩
  · rw [if_pos g] at h; exact (g h).elim
theorem wpE_dE (l : List Sk) (dlo dhi lo hi : List Int) (den : Int) : wpE l dlo dhi lo hi den = if dE l dlo dhi ≠ 0 then dE l dlo dhi else wgE (l.getD 0 sk0).wr.length lo hi den := by
  unfold wpE dE
  by_cases g : sE l = 0
  · have g' : ¬(sE l ≠ 0) := fun h => h g
    rw [if_neg g', if_neg g']
  · rw [if_pos g, if_pos g, if_pos g]
theorem k50a (nil d1 d2 n1 n2 : Bool) {l : List Sk} {dlo dhi lo hi : List Int} {den : Int} (h : dE l dlo dhi = 0) : Fn Try.prog 50 [sts nil l, dmV d1 dlo d2 dhi, wgV n1 lo n2 hi den] (.tup [i64 (pfN l dlo dhi lo hi den), i64 (pfE l dlo dhi lo hi den)]) [] := by
  have hS := sE_ok (dE_zero h).1
  have hD := dmE_ok (dE_zero h).2
  have e : wpE l dlo dhi lo hi den = wgE (l.getD 0 sk0).wr.length lo hi den := by rw [wpE_dE, if_neg (fun h' => h' h)]
  have hz := hS.zon
  unfold pfN pfE
  rw [e]
  by_cases h0 : wgE (l.getD 0 sk0).wr.length lo hi den = 0
  · have z9 : ¬(wgE (l.getD 0 sk0).wr.length lo hi den ≠ 0) := fun h => h h0
    rw [if_neg z9, if_neg z9]
    exact k50 hS hD h0
  · rw [if_pos h0, if_pos h0]
    have h9 := k50e (nil := nil) (l := l) (d1 := d1) (d2 := d2) (n1 := n1) (n2 := n2) (dlo := dlo) (dhi := dhi) (lo := lo) (hi := hi) (den := den) (by rw [hD.l1]; omega) (by rw [hD.l1]; exact h0)
    rw [hD.l1] at h9
    exact h9
end Go.Abs
