import Derived.Test.YtpfmamngjefohaaK314x
import Derived.Test.YtpfmamngjefohaaK337x
set_option linter.all false
set_option linter.unusedVariables false
set_option linter.unusedSimpArgs false
set_option linter.unusedSectionVars false
namespace Go.Abs
open Go.Proofs
/-! GrindPlanChecks: all cases -/
theorem skc_wr (l : List Sk) (k : Nat) : ((skc l).getD k sk0).wr = (l.getD k sk0).wr := (skc_get l k).1
theorem skc_plE (l : List Sk) (mi : List Int) (den : Int) : plE (skc l) mi den = plE l mi den := by unfold plE; rw [skc_len]
theorem skc_pwz (l : List Sk) (mi : List Int) : ∀ k z, pwz (skc l) mi k z = pwz l mi k z
  | 0, _ => rfl
  | k + 1, z => by simp only [pwz]; rw [skc_pwz l mi k z, skc_wr]
theorem skc_pwL (l : List Sk) (mi : List Int) : pwL (skc l) mi = pwL l mi := by
  unfold pwL
  rw [skc_wr, skc_len]
  exact fL_congr fun z _ => skc_pwz l mi l.length z
theorem skc_ppE (l : List Sk) (lo hi mi : List Int) (den : Int) : ppE (skc l) lo hi mi den = ppE l lo hi mi den := by unfold ppE; rw [skc_sE, skc_wr, skc_plE]
theorem skc_cpE (l : List Sk) (lo hi mi : List Int) (den : Int) : cpE (skc l) lo hi mi den = cpE l lo hi mi den := by unfold cpE; rw [skc_ppE, skc_wr, skc_pwL]
theorem skc_cpN (l : List Sk) (lo hi mi : List Int) (den : Int) : cpN (skc l) lo hi mi den = cpN l lo hi mi den := by unfold cpN; rw [skc_ppE, skc_wr, skc_pwL]
theorem skc_wbE (l : List Sk) (mi : List Int) (den : Int) : wbE (skc l) mi den = wbE l mi den := by unfold wbE; rw [skc_sE, skc_plE]
theorem k36a {l : List Sk} {lo hi mi : List Int} {den : Int} {b : Bool} {m : Nat} {E : List (List AV)} (hcp : cpS l = .sl b m E) (hV : StV (skc l) b m E) (hl : l.length < 1000000) (hlo : lo.length < 1000000) (hhi : hi.length < 1000000) (hmi : mi.length < 1000000) : Fn Try.prog 36 [cpS l, dmV false lo false hi, plV false mi den] (.tup [i64 (cpN l lo hi mi den), i64 (cpE l lo hi mi den)]) [] := by
  rw [hcp]
  by_cases h0 : ppE l lo hi mi den = 0
  · obtain ⟨z1, _, _⟩ := ppE_zero h0
    obtain ⟨rfl, rfl⟩ := hV.g (by rw [skc_sE]; exact z1)
    have h := k36 (n1 := false) (n2 := false) (np := false) hV hlo hhi hmi (by rw [skc_ppE]; exact h0)
    rw [skc_cpE, skc_cpN] at h
    exact h
  · have h := k36e (n1 := false) (n2 := false) (np := false) (den := den) hV (by rw [skc_len]; exact hl) hlo hhi hmi (by rw [skc_ppE]; exact h0)
    rw [skc_ppE] at h
    have e1 : cpN l lo hi mi den = 0 := by unfold cpN; rw [if_pos h0]
    have e2 : cpE l lo hi mi den = ppE l lo hi mi den := by unfold cpE; rw [if_pos h0]
    rw [e1, e2]
    exact h
theorem k6 (nil : Bool) (l : List Sk) (n1 : Bool) (lo : List Int) (n2 : Bool) (hi : List Int) (np : Bool) (mi : List Int) (den : Int) (hl : l.length ≤ 9223372036854775807) : Fn Try.prog 6 [sts nil l, dmV n1 lo n2 hi, plV np mi den] (bl true) [] := by
  by_cases hE : lgB l = false ∨ (decide ((lo.length : Int) ≤ 43) && decide ((hi.length : Int) ≤ 43)) = false ∨ 15 < mi.length
  · exact k6early nil l n1 lo n2 hi np mi den hl hE
  simp only [not_or, Bool.not_eq_false, Nat.not_lt] at hE
  obtain ⟨h1, h2, hmi⟩ := hE
  have h18 := k18 nil l hl
  have h19 := k19 n1 n2 lo hi
  rw [h1] at h18
  rw [h2] at h19
  simp only [Bool.and_eq_true, decide_eq_true_eq] at h2
  obtain ⟨b1, b2⟩ := lgB_bd h1
  have hsz : ∀ k, k < l.length → (l.getD k sk0).nm.size < 1000000 ∧ (l.getD k sk0).wr.length < 1000000 := fun k hk => by have := b2 k hk; omega
  have hl' : (skc l).length < 1000000 := by rw [skc_len]; omega
  have h22 := k22 (nil := nil) (l := l) (by omega) (fun t ht => (hsz t ht).2)
  have h23 := gv_dm n1 n2 lo hi (by omega) (by omega)
  have h24 := gv_pl np mi den (by omega)
  obtain ⟨b, m, E, hcp, hV⟩ := cp_stv (l := l) (by omega) hsz
  have h36 := k36a (lo := lo) (hi := hi) (mi := mi) (den := den) hcp hV (by omega) (by omega) (by omega) (by omega)
  have h38 := k38 nil l (by omega) hsz
  have h39 := k39 nil np l mi den (by omega) (by omega)
  have h26 := k26 nil n1 n2 l lo hi (by omega) hsz (by omega) (by omega)
  have hdE : dE l lo hi = 0 → sE l = 0 ∧ dmE (l.getD 0 sk0).wr.length lo hi = 0 := fun h => by
    unfold dE at h
    by_cases g : sE l = 0
    · rw [if_neg (fun h => h g)] at h; exact ⟨g, h⟩
    · rw [if_pos g] at h; exact (g h).elim
  have hpp : ppE l lo hi mi den = if dE l lo hi ≠ 0 then dE l lo hi else plE l mi den := by
    unfold ppE dE
    by_cases g : sE l = 0
    · have g' : ¬(sE l ≠ 0) := fun h => h g
      rw [if_neg g', if_neg g']
    · rw [if_pos g, if_pos g, if_pos g]
  have h42 : dE l lo hi = 0 → Fn Try.prog 42 [sts nil l, dmV n1 lo n2 hi, plV np mi den] (.tup [i64 (cpN l lo hi mi den), i64 (cpE l lo hi mi den)]) [] := fun h => by
    have h9 := k42 (nil := nil) (n1 := n1) (n2 := n2) (np := np) (lo := lo) (hi := hi) (mi := mi) (den := den) (sE_ok (hdE h).1) (dmE_ok (hdE h).2) (by omega)
    have e : ppE l lo hi mi den = plE l mi den := by rw [hpp, if_neg (fun h' => h' h)]
    unfold cpN cpE
    rw [e]
    exact h9
  have hD : dE l lo hi ≠ 0 → cpN l lo hi mi den = 0 ∧ cpE l lo hi mi den = dE l lo hi := fun h => by
    have e : ppE l lo hi mi den = dE l lo hi := by rw [hpp, if_pos h]
    unfold cpN cpE
    rw [e, if_pos h, if_pos h]
    exact ⟨rfl, rfl⟩
  by_cases h0 : wbE l mi den = 0
  · have z12 : sE l = 0 ∧ plE l mi den = 0 := by
      unfold wbE at h0
      by_cases g : sE l = 0
      · rw [if_neg (fun h => h g)] at h0; exact ⟨g, h0⟩
      · rw [if_pos g] at h0; exact (g h0).elim
    have hS := sE_ok z12.1
    have hP := plE_ok z12.2
    obtain ⟨rfl, rfl⟩ := hV.g (by rw [skc_sE]; exact z12.1)
    have h37 := k37 (np := false) (mi := mi) (den := den) hV (by omega) (by rw [skc_wbE]; exact h0)
    rw [skc_wr, skc_pwL, show sts b (skc l) = cpS l from hcp.symm] at h37
    have h41 := k41 (nil := nil) (np := np) hS hP
    have hz := hS.zon
    generalize (l.getD 0 sk0).wr.length = n at *
    have hol := outR_len (pwL l mi) den n
    have g37 : Gv 1 Try.prog 37 [cpS l, plV false mi den] [.sl false 2 (outR (pwL l mi) den n), i64 0] :=
      Gv.of_fn 1 h37 [.lsl 0 0 n, i64 0] rfl (by rw [List.map_cons, List.map_cons, List.map_nil]; exact congrArg (fun x => [x, i64 0]) (rds_row (d := 0) (H := [.cells true false 2 (outR (pwL l mi) den n)]) (o := true) rfl (plainR_outR _ _ _) hol).1) (by simp [plainL, plain, plainR_outR])
    have g41 : Gv 1 Try.prog 41 [sts nil l, plV np mi den] [.sl false 2 (outR (pwL l mi) den n)] :=
      Gv.of_fn 1 h41 [.lsl 0 0 n] rfl (by rw [List.map_cons, List.map_nil]; exact congrArg (fun x => [x]) (rds_row (d := 0) (H := [.cells true false 2 (outR (pwL l mi) den n)]) (o := true) rfl (plainR_outR _ _ _) hol).1) (by simp [plainL, plain, plainR_outR])
    rw [z12.1] at h38
    rw [z12.2] at h39
    exact k6ok (R := 0) (s := 0) hmi h18 h19 h22 h23 h24 h36 g37 h38 (fun _ => h39) h26 h42 hD (by omega) rfl rfl g41
  · have h37 := k37e (np := false) (mi := mi) (den := den) hV hl' (by omega) (by rw [skc_wbE]; exact h0)
    rw [skc_wbE, ← hcp] at h37
    have g37 := Gv.of_fn 0 h37 [.sl true 0 [], i64 (wbE l mi den)] (ws := [.sl true 0 [], i64 (wbE l mi den)]) rfl rfl rfl
    refine k6err (R := wbE l mi den) hmi h18 h19 h22 h23 h24 h36 g37 h38 (fun hs => ?_) h26 h42 hD h0 (fun hs => ?_)
    · have : wbE l mi den = plE l mi den := by unfold wbE; rw [if_neg (fun h => h hs)]
      rw [this]; exact h39
    · unfold wbE; rw [if_pos hs]
end Go.Abs
