import Derived.Test.YtpfmamngjefohaaK317x
set_option linter.all false
set_option linter.unusedVariables false
set_option linter.unusedSimpArgs false
set_option linter.unusedSectionVars false
namespace Go.Abs
open Go.Proofs
/-! GrindSessions: all cases -/
theorem lgB_bd {l : List Sk} (h : lgB l = true) : l.length ≤ 15 ∧ ∀ k, k < l.length → (l.getD k sk0).nm.size ≤ 30 ∧ (l.getD k sk0).wr.length ≤ 43 := by
  unfold lgB at h
  simp only [Bool.and_eq_true, Bool.or_eq_true, decide_eq_true_eq] at h
  refine ⟨by omega, fun k hk => ?_⟩
  have := all_getSk.1 h.2 k hk
  unfold lgS at this
  simp only [Bool.and_eq_true, Bool.or_eq_true, decide_eq_true_eq] at this
  omega
theorem fwB_bd {s : List Ss} (h : fwB s = true) : s.length ≤ 203 ∧ ∀ k, k < s.length → (s.getD k ss0).mi.size ≤ 30 ∧ (s.getD k ss0).st.size ≤ 30 := by
  unfold fwB at h
  simp only [Bool.and_eq_true, Bool.or_eq_true, decide_eq_true_eq] at h
  refine ⟨by omega, fun k hk => ?_⟩
  have := all_getSs.1 h.1 k hk
  unfold fwS at this
  simp only [Bool.and_eq_true, decide_eq_true_eq] at this
  exact this
theorem k5 (nil : Bool) (l : List Sk) (n2 : Bool) (s : List Ss) (mi : ByteArray) (hl : l.length ≤ 9223372036854775807) (hl2 : s.length ≤ 9223372036854775807) : Fn Try.prog 5 [sts nil l, sss n2 s, tx mi] (bl true) [] := by
  by_cases hE : lgB l = false ∨ fwB s = false ∨ 30 < mi.size
  · exact k5early nil n2 l s mi hl hl2 hE
  simp only [not_or, Bool.not_eq_false, Nat.not_lt] at hE
  obtain ⟨h1, h2, hmi⟩ := hE
  have h18 := k18 nil l hl
  have h28 := k28 n2 s hl2
  rw [h1] at h18
  rw [h2] at h28
  obtain ⟨b1, b2⟩ := lgB_bd h1
  obtain ⟨b3, b4⟩ := fwB_bd h2
  have hsz : ∀ k, k < l.length → (l.getD k sk0).nm.size < 1000000 ∧ (l.getD k sk0).wr.length < 1000000 := fun k hk => by have := b2 k hk; omega
  have hs2 : ∀ k, k < s.length → (s.getD k ss0).mi.size < 1000000 := fun k hk => by have := b4 k hk; omega
  have hl' : (skc l).length < 1000000 := by rw [skc_len]; omega
  have h22 := k22 (nil := nil) (l := l) (by omega) (fun t ht => (hsz t ht).2)
  have h30 := g30 n2 s (by omega)
  obtain ⟨b, m, E, hcp, hV⟩ := cp_stv (l := l) (by omega) hsz
  have h31 := k31 nil n2 l s (by omega) hsz (by omega) hs2
  have h32 := k32 (n2 := false) hV hl' (by omega) hs2
  rw [← hcp, skc_csE] at h32
  by_cases h0 : weE l s mi = 0
  · have hc0 : csE l s = 0 ∧ nmB mi = true := by
      unfold weE at h0
      unfold csE
      by_cases g : sE l = 0
      · rw [if_neg (fun h => h g)] at h0 ⊢
        by_cases g' : zE l s = 0
        · rw [if_neg (fun h => h g')] at h0
          refine ⟨g', ?_⟩
          unfold mrE at h0
          cases hn : nmB mi with
          | true => rfl
          | false => rw [hn] at h0; simp at h0
        · rw [if_pos g'] at h0; exact (g' h0).elim
      · rw [if_pos g] at h0; exact (g h0).elim
    have hs0 : sE l = 0 ∧ zE l s = 0 := by
      have := hc0.1
      unfold csE at this
      by_cases g : sE l = 0
      · rw [if_neg (fun h => h g)] at this; exact ⟨g, this⟩
      · rw [if_pos g] at this; exact (g this).elim
    obtain ⟨rfl, rfl⟩ := hV.g (by rw [skc_sE]; exact hs0.1)
    have h29 := gv_ints2 (k29 (n2 := false) (mi := mi) hV hl' (by omega) hs2 (by omega) (by rw [skc_weE]; exact h0)) (fL_len _ _)
    rw [skc_wrL] at h29
    have h35 := gv_ints1 (k35 nil n2 l s mi (sE_ok hs0.1) (zE_ok hs0.2)) (fL_len _ _)
    rw [hc0.1] at h31 h32
    rw [show sts b (skc l) = cpS l from hcp.symm] at h29
    have hz := (sE_ok hs0.1).zon
    exact k5ok hmi (by unfold wrL; rw [fL_len]; omega) h18 h28 h22 h30 h29 h31 h32 h35 hc0.2
  · have h29 := Gv.of_fn 0 (k29e (n2 := false) (mi := mi) hV hl' (by omega) hs2 (by omega) (by rw [skc_weE]; exact h0)) [.sl true 0 [], i64 (weE (skc l) s mi)] (ws := [.sl true 0 [], i64 (weE (skc l) s mi)]) rfl rfl rfl
    rw [skc_weE, ← hcp] at h29
    refine k5err hmi h18 h28 h22 h30 h29 h31 h32 ?_
    unfold weE at h0 ⊢
    unfold csE
    by_cases g : sE l = 0
    · rw [if_neg (fun h => h g)] at h0 ⊢
      rw [if_neg (fun h => h g)]
      by_cases g' : zE l s = 0
      · rw [if_neg (fun h => h g')] at h0 ⊢
        right
        unfold mrE at h0 ⊢
        cases hn : nmB mi with
        | true => rw [hn] at h0; simp at h0
        | false => exact ⟨g', rfl, by rw [if_pos rfl]⟩
      · rw [if_pos g']; exact .inl ⟨g', rfl⟩
    · rw [if_pos g, if_pos g]; exact .inl ⟨g, rfl⟩
end Go.Abs
