import Derived.Test.YtpfmamngjefohaaK336x
import Derived.Test.YtpfmamngjefohaaK351x
set_option linter.all false
set_option linter.unusedVariables false
set_option linter.unusedSimpArgs false
set_option linter.unusedSectionVars false
namespace Go.Abs
open Go.Proofs
/-! GrindProofChecks: all cases -/
theorem skc_plB (l : List Sk) (lo hi : List Int) (n : Nat) (most : Int) : plB (skc l) lo hi n most = plB l lo hi n most := by
  unfold plB; rw [skc_len]; simp only [skc_wr]
theorem skc_pfB (l : List Sk) (lo hi : List Int) (den : Int) : pfB (skc l) lo hi den = pfB l lo hi den := by unfold pfB; rw [skc_plB, skc_wr]
theorem skc_pfT (l : List Sk) (dlo dhi lo hi : List Int) : pfT (skc l) dlo dhi lo hi = pfT l dlo dhi lo hi := by unfold pfT; rw [skc_wr]
theorem skc_rfX (l : List Sk) (dlo dhi lo hi : List Int) (den : Int) : rfX (skc l) dlo dhi lo hi den = rfX l dlo dhi lo hi den := by unfold rfX; rw [skc_pfB, skc_pfT]
theorem skc_wpE (l : List Sk) (dlo dhi lo hi : List Int) (den : Int) : wpE (skc l) dlo dhi lo hi den = wpE l dlo dhi lo hi den := by unfold wpE; rw [skc_sE, skc_wr]
/-- the answers of CheckProof and of CheckRefusal -/
def pfE (l : List Sk) (dlo dhi lo hi : List Int) (den : Int) : Int := if wpE l dlo dhi lo hi den ≠ 0 then wpE l dlo dhi lo hi den else if pfB l lo hi den = true then 0 else 22
def pfN (l : List Sk) (dlo dhi lo hi : List Int) (den : Int) : Int := if wpE l dlo dhi lo hi den ≠ 0 then 0 else if pfB l lo hi den = true then pfT l dlo dhi lo hi else 0
def rfE (l : List Sk) (dlo dhi lo hi : List Int) (den : Int) : Int := if wpE l dlo dhi lo hi den ≠ 0 then wpE l dlo dhi lo hi den else rfX l dlo dhi lo hi den
def rfN (l : List Sk) (dlo dhi lo hi : List Int) (den : Int) : Int := if wpE l dlo dhi lo hi den ≠ 0 then 0 else if rfX l dlo dhi lo hi den ≠ 0 then 0 else pfT l dlo dhi lo hi
theorem k48a {l : List Sk} {dlo dhi lo hi : List Int} {den : Int} {b : Bool} {m : Nat} {E : List (List AV)} (hcp : cpS l = .sl b m E) (hV : StV (skc l) b m E) (hlo : dlo.length < 1000000) (hhi : dhi.length < 1000000) : Fn Try.prog 48 [cpS l, dmV false dlo false dhi, wgV false lo false hi den] (.tup [i64 (pfN l dlo dhi lo hi den), i64 (pfE l dlo dhi lo hi den)]) [] := by
  rw [hcp]
  unfold pfN pfE
  by_cases h0 : wpE l dlo dhi lo hi den = 0
  · obtain ⟨z1, _, _⟩ := wpE_zero h0
    obtain ⟨rfl, rfl⟩ := hV.g (by rw [skc_sE]; exact z1)
    have h := k48 (d1 := false) (d2 := false) (n1 := false) (n2 := false) hV hlo hhi (by rw [skc_wpE]; exact h0)
    rw [skc_pfB, skc_pfT] at h
    have z9 : ¬(wpE l dlo dhi lo hi den ≠ 0) := fun h => h h0
    rw [if_neg z9, if_neg z9]
    exact h
  · have h := k48e (d1 := false) (d2 := false) (n1 := false) (n2 := false) (lo := lo) (hi := hi) (den := den) hV hlo hhi (by rw [skc_wpE]; exact h0)
    rw [skc_wpE] at h
    rw [if_pos h0, if_pos h0]
    exact h
theorem k49a {l : List Sk} {dlo dhi lo hi : List Int} {den : Int} {b : Bool} {m : Nat} {E : List (List AV)} (hcp : cpS l = .sl b m E) (hV : StV (skc l) b m E) (hlo : dlo.length < 1000000) (hhi : dhi.length < 1000000) : Fn Try.prog 49 [cpS l, dmV false dlo false dhi, wgV false lo false hi den] (.tup [i64 (rfN l dlo dhi lo hi den), i64 (rfE l dlo dhi lo hi den)]) [] := by
  rw [hcp]
  unfold rfN rfE
  by_cases h0 : wpE l dlo dhi lo hi den = 0
  · obtain ⟨z1, _, _⟩ := wpE_zero h0
    obtain ⟨rfl, rfl⟩ := hV.g (by rw [skc_sE]; exact z1)
    have h := k49 (d1 := false) (d2 := false) (n1 := false) (n2 := false) hV hlo hhi (by rw [skc_wpE]; exact h0)
    rw [skc_rfX, skc_pfT] at h
    have z9 : ¬(wpE l dlo dhi lo hi den ≠ 0) := fun h => h h0
    rw [if_neg z9, if_neg z9]
    exact h
  · have h := k49e (d1 := false) (d2 := false) (n1 := false) (n2 := false) (lo := lo) (hi := hi) (den := den) hV hlo hhi (by rw [skc_wpE]; exact h0)
    rw [skc_wpE] at h
    rw [if_pos h0, if_pos h0]
    exact h
theorem dE_zero {l : List Sk} {lo hi : List Int} (h : dE l lo hi = 0) : sE l = 0 ∧ dmE (l.getD 0 sk0).wr.length lo hi = 0 := by
  unfold dE at h
  by_cases g : sE l = 0
  · rw [if_neg (fun h => h g)] at h; exact ⟨g, h⟩
  · rw [if_pos g] at h; exact (g h).elim
theorem wpE_dE (l : List Sk) (dlo dhi lo hi : List Int) (den : Int) : wpE l dlo dhi lo hi den = if dE l dlo dhi ≠ 0 then dE l dlo dhi else wgE (l.getD 0 sk0).wr.length lo hi den := by
  unfold wpE dE
  by_cases g : sE l = 0
  · have g' : ¬(sE l ≠ 0) := fun h => h g
    rw [if_neg g', if_neg g']
  · rw [if_pos g, if_pos g, if_pos g]
theorem k50a (nil d1 d2 n1 n2 : Bool) {l : List Sk} {dlo dhi lo hi : List Int} {den : Int} (h : dE l dlo dhi = 0) : Fn Try.prog 50 [sts nil l, dmV d1 dlo d2 dhi, wgV n1 lo n2 hi den] (.tup [i64 (pfN l dlo dhi lo hi den), i64 (pfE l dlo dhi lo hi den)]) [] := by
  have hS := sE_ok (dE_zero h).1
  have hD := dmE_ok (dE_zero h).2
  have e : wpE l dlo dhi lo hi den = wgE (l.getD 0 sk0).wr.length lo hi den := by rw [wpE_dE, if_neg (fun h' => h' h)]
  have hz := hS.zon
  unfold pfN pfE
  rw [e]
  by_cases h0 : wgE (l.getD 0 sk0).wr.length lo hi den = 0
  · have z9 : ¬(wgE (l.getD 0 sk0).wr.length lo hi den ≠ 0) := fun h => h h0
    rw [if_neg z9, if_neg z9]
    exact k50 hS hD h0
  · rw [if_pos h0, if_pos h0]
    have h9 := k50e (nil := nil) (l := l) (d1 := d1) (d2 := d2) (n1 := n1) (n2 := n2) (dlo := dlo) (dhi := dhi) (lo := lo) (hi := hi) (den := den) (by rw [hD.l1]; omega) (by rw [hD.l1]; exact h0)
    rw [hD.l1] at h9
    exact h9
theorem k51a (nil d1 d2 n1 n2 : Bool) {l : List Sk} {dlo dhi lo hi : List Int} {den : Int} (h : dE l dlo dhi = 0) : Fn Try.prog 51 [sts nil l, dmV d1 dlo d2 dhi, wgV n1 lo n2 hi den] (.tup [i64 (rfN l dlo dhi lo hi den), i64 (rfE l dlo dhi lo hi den)]) [] := by
  have hS := sE_ok (dE_zero h).1
  have hD := dmE_ok (dE_zero h).2
  have e : wpE l dlo dhi lo hi den = wgE (l.getD 0 sk0).wr.length lo hi den := by rw [wpE_dE, if_neg (fun h' => h' h)]
  have hz := hS.zon
  unfold rfN rfE
  rw [e]
  by_cases h0 : wgE (l.getD 0 sk0).wr.length lo hi den = 0
  · have z9 : ¬(wgE (l.getD 0 sk0).wr.length lo hi den ≠ 0) := fun h => h h0
    rw [if_neg z9, if_neg z9]
    exact k51 hS hD h0
  · rw [if_pos h0, if_pos h0]
    have h9 := k51e (nil := nil) (l := l) (d1 := d1) (d2 := d2) (n1 := n1) (n2 := n2) (dlo := dlo) (dhi := dhi) (lo := lo) (hi := hi) (den := den) (by rw [hD.l1]; omega) (by rw [hD.l1]; exact h0)
    rw [hD.l1] at h9
    exact h9
theorem k8 (nil : Bool) (l : List Sk) (d1 : Bool) (dlo : List Int) (d2 : Bool) (dhi : List Int) (n1 : Bool) (lo : List Int) (n2 : Bool) (hi : List Int) (den : Int) (hl : l.length ≤ 9223372036854775807) : Fn Try.prog 8 [sts nil l, dmV d1 dlo d2 dhi, wgV n1 lo n2 hi den] (bl true) [] := by
  by_cases hE : lgB l = false ∨ (decide ((dlo.length : Int) ≤ 43) && decide ((dhi.length : Int) ≤ 43)) = false ∨ brB 0 lo.length hi.length = false
  · exact k8early nil l d1 dlo d2 dhi n1 lo n2 hi den hl hE
  simp only [not_or, Bool.not_eq_false] at hE
  obtain ⟨h1, h2, h3⟩ := hE
  have h18 := k18 nil l hl
  have h19 := k19 d1 d2 dlo dhi
  have h20 := k20z n1 n2 lo hi den
  rw [h1] at h18
  rw [h2] at h19
  rw [h3] at h20
  unfold brB at h3
  simp only [Bool.and_eq_true, decide_eq_true_eq] at h2 h3
  obtain ⟨b1, b2⟩ := lgB_bd h1
  have hsz : ∀ k, k < l.length → (l.getD k sk0).nm.size < 1000000 ∧ (l.getD k sk0).wr.length < 1000000 := fun k hk => by have := b2 k hk; omega
  have h22 := k22 (nil := nil) (l := l) (by omega) (fun t ht => (hsz t ht).2)
  have h23 := gv_dm d1 d2 dlo dhi (by omega) (by omega)
  have h25 := gv_wg n1 n2 lo hi den (by omega) (by omega)
  obtain ⟨b, m, E, hcp, hV⟩ := cp_stv (l := l) (by omega) hsz
  have h48 := k48a (dlo := dlo) (dhi := dhi) (lo := lo) (hi := hi) (den := den) hcp hV (by omega) (by omega)
  have h49 := k49a (dlo := dlo) (dhi := dhi) (lo := lo) (hi := hi) (den := den) hcp hV (by omega) (by omega)
  have h26 := k26 nil d1 d2 l dlo dhi (by omega) hsz (by omega) (by omega)
  refine k8ok h18 h19 h20 h22 h23 h25 h48 h49 h26 (fun h => k50a nil d1 d2 n1 n2 h) (fun h => k51a nil d1 d2 n1 n2 h) fun h => ?_
  have e : wpE l dlo dhi lo hi den = dE l dlo dhi := by rw [wpE_dE, if_pos h]
  unfold pfN pfE rfN rfE
  rw [e, if_pos h, if_pos h, if_pos h, if_pos h]
  exact ⟨⟨rfl, rfl⟩, rfl, rfl⟩
end Go.Abs
