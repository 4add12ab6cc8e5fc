import Derived.Test.YtpfmamngjefohaaK66x
set_option linter.all false
set_option linter.unusedVariables false
set_option linter.unusedSimpArgs false
set_option linter.unusedSectionVars false
namespace Go.Abs
open Go.Proofs
/-! GrindShortest: all cases -/
theorem k10 (nil : Bool) (l : List Gr) (a b : Int) (hl0 : l.length ≤ 9223372036854775807) : Fn Try.prog 10 [gts nil l, prV a b] (bl true) [] := by
  cases hg : gritB l with
  | false => exact k10early nil l a b hl0 hg
  | true =>
    have h14 := k14 nil l hl0
    rw [hg] at h14
    unfold gritB at hg
    simp only [Bool.and_eq_true, Bool.or_eq_true, decide_eq_true_eq] at hg
    have hsz := shB_all.1 hg.1
    have hl : l.length < 1000000 := by omega
    by_cases h0 : gE l = 0
    · cases hdp : dpB a b with
      | false =>
        have h16 := k16e false l a b hl hsz (.inr hdp)
        have ec : cdE l a b = 2 := by unfold cdE; rw [if_neg (fun h => h h0), if_pos hdp]
        rw [ec] at h16
        exact k10none nil l a b 2 (by omega) hl hsz h14 h0 h16 (Gv.of_fn 0 (k55e nil l a b hdp) [.sl true 0 [], i64 0, i64 2] (ws := [.sl true 0 [], i64 0, i64 2]) rfl rfl rfl)
      | true =>
        have hR := (gE_ok h0).2
        have hab : (0 ≤ a ∧ a ≤ 1000000) ∧ 0 ≤ b ∧ b ≤ 1000000 := by unfold dpB at hdp; simpa using hdp
        have h16 := k16 false l a b hl hsz h0 hdp
        have h55 := k55 nil l a b hl hR hdp
        rw [tr_bst (l := l) (w := b) hR 1000000 a hab.1 (by omega)] at h55
        have hl12 : l.length ≤ 12 := by
          rcases hg.2 with h | h
          · omega
          · exfalso
            unfold gE at h0
            rw [if_pos (by omega)] at h0
            simp at h0
        have hacc := fun q m h => bst_acc (l := l) (w := b) (d := a) (n := 1000000) (q := q) (m := m) hl12 hdp h
        have hpth := fun x h => bst_pthI (l := l) (w := b) 1000000 a x h
        cases ho : bst l b 1000000 a with
        | none =>
          rw [ho] at h16 h55
          exact k10none nil l a b 12 (by omega) hl hsz h14 h0 h16 h55
        | some x =>
          obtain ⟨q, m⟩ := x
          rw [ho] at h16 h55
          obtain ⟨e1, e2, e3⟩ := hacc q m ho
          by_cases hq : q = []
          · subst hq
            have h1 := hpth _ ho
            have hm : m = 0 := h1.2
            subst hm
            exact k10z nil l a b 0 hl hsz h14 h0 h16 (k52z false l a b hl hsz h0 hdp h1.1) h55
          · rw [shR_ne hq, polH_ne hq] at h16
            have h52 := k52 false false l q a b hl hsz h0
            rw [e1, e2] at h52
            exact k10s nil l a b m q (by omega) hl hsz h14 h0 h16 h52 h55
    · exact k10err nil l a b hl hsz h14 h0
end Go.Abs
