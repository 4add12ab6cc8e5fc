import Derived.Test.YtpfmamngjefohaaK331x
import Derived.Test.YtpfmamngjefohaaK384x
set_option linter.all false
set_option linter.unusedVariables false
set_option linter.unusedSimpArgs false
set_option linter.unusedSectionVars false
namespace Go.Abs
open Go.Proofs
/-! GrindAdds: all cases -/
theorem skc_adE (l : List Sk) (lo hi : List Int) (s : List Ss) (x : Ss) : adE (skc l) lo hi s x = adE l lo hi s x := by unfold adE; rw [skc_sE, skc_wr, skc_zE, skc_zE]
theorem skc_lfE (l : List Sk) (lo hi : List Int) (s : List Ss) (b : ByteArray) : lfE (skc l) lo hi s b = lfE l lo hi s b := by unfold lfE; rw [skc_sE, skc_wr, skc_zE]
theorem k11 (nil : Bool) (l : List Sk) (n1 : Bool) (lo : List Int) (n2 : Bool) (hi : List Int) (n3 : Bool) (s : List Ss) (x : Ss) (hl : l.length ≤ 9223372036854775807) (hl2 : s.length ≤ 9223372036854775807) : Fn Try.prog 11 [sts nil l, dyV n1 lo n2 hi n3 s x] (bl true) [] := by
  by_cases hE : lgB l = false ∨ (decide ((lo.length : Int) ≤ 43) && decide ((hi.length : Int) ≤ 43)) = false ∨ fwB s = false ∨ fwB [x] = false
  · exact k11early nil l n1 lo n2 hi n3 s x hl hl2 hE
  simp only [not_or, Bool.not_eq_false] at hE
  obtain ⟨h1, h2, h3, h4⟩ := hE
  have h18 := k18 nil l hl
  have h19 := k19 n1 n2 lo hi
  have h28 := k28 n3 s hl2
  have h28b : Fn Try.prog 28 [.sl false 3 [[tx x.mi, tx x.st, i64 x.mn]]] (bl (fwB [x])) [] := k28 false [x] (by simp)
  rw [h1] at h18
  rw [h2] at h19
  rw [h3] at h28
  rw [h4] at h28b
  simp only [Bool.and_eq_true, decide_eq_true_eq] at h2
  obtain ⟨b1, b2⟩ := lgB_bd h1
  obtain ⟨b3, b4⟩ := fwB_bd h3
  have b5 : x.mi.size ≤ 30 := ((fwB_bd h4).2 0 (by simp)).1
  have hsz : ∀ k, k < l.length → (l.getD k sk0).nm.size < 1000000 ∧ (l.getD k sk0).wr.length < 1000000 := fun k hk => by have := b2 k hk; omega
  have hs2 : ∀ k, k < s.length → (s.getD k ss0).mi.size < 1000000 := fun k hk => by have := b4 k hk; omega
  have hA : AdB s x := ⟨by omega, hs2, by omega⟩
  have h22 := k22 (nil := nil) (l := l) (by omega) (fun t ht => (hsz t ht).2)
  have h23 := gv_dm n1 n2 lo hi (by omega) (by omega)
  have h30 := g30 n3 s (by omega)
  obtain ⟨b, m, E, hcp, hV⟩ := cp_stv (l := l) (by omega) hsz
  have hl' : (skc l).length < 1000000 := by rw [skc_len]; omega
  have h26 := k26 nil n1 n2 l lo hi (by omega) hsz (by omega) (by omega)
  have h59 := k59 nil n3 l s (by omega) (by omega) hs2
  have eq1 : (s ++ [x]).length = s.length + 1 := by simp
  have hnext : ∀ H' o', H'[0]? = some (.cells o' false 6 [dyR n1 lo n2 hi n3 s x]) → T none Try.prog muts 148 0 c11r2 ⟨[(0, sts nil l), (3, .loc 0 0 0)], H'⟩ KL := fun H' o' hH => by
    by_cases h0 : lfE l lo hi s x.mi = 0
    · obtain ⟨z1, z2, z3, z4⟩ := lfE_zero h0
      obtain ⟨rfl, rfl⟩ := hV.g (by rw [skc_sE]; exact z1)
      have hS := sE_ok z1
      have hZ := zE_ok z3
      have hD := dmE_ok z2
      have hdz : dE l lo hi = 0 := by unfold dE; rw [if_neg (fun h => h z1)]; exact z2
      rw [hdz] at h26
      rw [z3] at h59
      have hnm : nmB x.mi = true := by
        unfold mrE at z4
        cases hn : nmB x.mi with
        | true => rfl
        | false => rw [hn] at z4; simp at z4
      have hzn := hS.zon
      cases hok : okB hi (wrL l s x.mi) (l.getD 0 sk0).wr.length with
      | true =>
        have h58 := k58 (n1 := false) (n2 := false) (n3 := false) (lo := lo) (hi := hi) (mi := x.mi) hV (by omega) (by omega) (by omega) hs2 (by omega) (by rw [skc_lfE]; exact h0) (by rw [skc_wr, skc_wrL]; exact hok)
        rw [skc_wr, skc_wrL, show sts b (skc l) = cpS l from hcp.symm] at h58
        have h60 := k60 nil n3 n1 n2 (b := x.mi) hS hZ hD hok
        have hLl : (lwL lo (wrL l s x.mi) (l.getD 0 sk0).wr.length).length = (l.getD 0 sk0).wr.length := fL_len _ _
        have hUl : (hwL hi (wrL l s x.mi) (l.getD 0 sk0).wr.length).length = (l.getD 0 sk0).wr.length := fL_len _ _
        generalize lwL lo (wrL l s x.mi) (l.getD 0 sk0).wr.length = L at *
        generalize hwL hi (wrL l s x.mi) (l.getD 0 sk0).wr.length = U at *
        rw [← hLl] at h58 h60
        exact k11c (by omega) (by omega) (by omega) hH h22 h23 h30 h58 h26 h59 hnm h60
      | false =>
        have h58 := k58o (n1 := false) (n2 := false) (n3 := false) (lo := lo) (hi := hi) (mi := x.mi) hV (by omega) (by omega) (by omega) hs2 (by omega) (by rw [skc_lfE]; exact h0) (by rw [skc_wr, skc_wrL]; exact hok)
        rw [show sts b (skc l) = cpS l from hcp.symm] at h58
        have h60 := k60e nil n3 n1 n2 (b := x.mi) hS hZ hD hok
        exact k11co (by omega) hH h22 h23 h30 h58 h26 h59 hnm h60
    · have h58 := k58e (n1 := false) (n2 := false) (n3 := false) (lo := lo) (hi := hi) (s := s) (mi := x.mi) hV hl' (by omega) (by omega) (by omega) hs2 (by omega) (by rw [skc_lfE]; exact h0)
      rw [skc_lfE, ← hcp] at h58
      refine k11ce (by omega) hH h22 h23 h30 h58 h26 (fun _ => h59) ?_ h0
      unfold lfE dE
      by_cases g : sE l = 0
      · have g' : ¬(sE l ≠ 0) := fun h => h g
        rw [if_neg g', if_neg g']
      · rw [if_pos g, if_pos g, if_pos g]
  refine k11m h18 h19 h28 h28b fun H o hH => ?_
  by_cases h0 : adE l lo hi s x = 0
  · obtain ⟨z1, z2, z3, z4⟩ := adE_zero h0
    obtain ⟨rfl, rfl⟩ := hV.g (by rw [skc_sE]; exact z1)
    cases hok : okB hi (wrL l (s ++ [x]) x.mi) (l.getD 0 sk0).wr.length with
    | true =>
      have h56 := k56 (n1 := false) (n2 := false) (lo := lo) (hi := hi) (s := s) (x := x) hV (by omega) (by omega) hA (by rw [skc_adE]; exact h0) (by rw [skc_wr, skc_wrL]; exact hok)
      rw [show sts b (skc l) = cpS l from hcp.symm, ← eq1] at h56
      have h57 := k57 (nil := nil) (n1 := n1) (n2 := n2) (n3 := n3) hsz (by omega) (by omega) hA h0 hok
      rw [← eq1] at h57
      exact k11b (by rw [eq1]; omega) hH h22 h23 h30 h56 h57 hnext
    | false =>
      have h56 := k56o (n1 := false) (n2 := false) (lo := lo) (hi := hi) (s := s) (x := x) hV (by omega) (by omega) hA (by rw [skc_adE]; exact h0) (by rw [skc_wr, skc_wrL]; exact hok)
      rw [show sts b (skc l) = cpS l from hcp.symm] at h56
      have h57 := k57o (nil := nil) (n1 := n1) (n2 := n2) (n3 := n3) hsz (by omega) (by omega) hA h0 hok
      exact k11be hH h22 h23 h30 h56 h57 hnext
  · have h56 := k56e (n1 := false) (n2 := false) (lo := lo) (hi := hi) (s := s) (x := x) hV hl' (by omega) (by omega) hA (by rw [skc_adE]; exact h0)
    rw [skc_adE, ← hcp] at h56
    have h57 := k57e (nil := nil) (n1 := n1) (n2 := n2) (n3 := n3) (by omega) hsz (by omega) (by omega) hA h0
    exact k11be hH h22 h23 h30 h56 h57 hnext
end Go.Abs
