import Derived.Test.YtodheeifecoebaaK8
import Derived.Test.YtodheeifecoebaaK300x
import Derived.Test.YtodheeifecoebaaK31x
set_option linter.all false
set_option linter.unusedVariables false
set_option linter.unusedSimpArgs false
set_option linter.unusedSectionVars false
namespace Go.Abs
open Go.Proofs
/-! law 12, no program in sight: where no two neighbours differ by half an order the heights come back -/
theorem Fo.reg {n : Nat} {th : Nat → Bool} {ed : Nat → Nat → Bool} {st : Nat → Nat → Int} {ph : Nat → Int} {o : List Nat} {h fr : Nat → Int} (hf : Fo n th ed st ph o h fr) {g : Nat → Int} (hg : PotG ed st g) {c : Nat} (hc : c ∈ o) :
    ∃ r, Rt th ed r ∧ Cn ed r c ∧ h c - g c = ph r - g r := by
  have key : ∀ (i : Nat) (x : Nat), o[i]? = some x → ∃ r, Rt th ed r ∧ Cn ed r x ∧ h x - g x = ph r - g r := by
    intro i
    induction i using Nat.strongRecOn with
    | _ i ih =>
      intro x hx
      rcases hf.tr i x hx with ⟨_, h2, h3⟩ | ⟨j, a, h1, h2, _, h4, h5⟩
      · exact ⟨x, h3, .refl _, by rw [h2]⟩
      · obtain ⟨r, h6, h7, h8⟩ := ih j h1 a h2
        have := hg a x h4
        exact ⟨r, h6, h7.step h4, by rw [h5]; omega⟩
  obtain ⟨i, hi, hic⟩ := List.mem_iff_getElem.1 hc
  exact key i c (by rw [List.getElem?_eq_getElem hi, hic])
theorem Fo.pot {n : Nat} {th : Nat → Bool} {ed : Nat → Nat → Bool} {st : Nat → Nat → Int} {ph : Nat → Int} {o : List Nat} {h fr : Nat → Int} (hgr : Gr n th ed st) (hf : Fo n th ed st ph o h fr) (hall : ∀ c, c < n → th c = true → c ∈ o) {g : Nat → Int} (hg : PotG ed st g) : PotG ed st h := fun a b he => by
  have ha := hgr.inn a b he
  have hb := hgr.inn b a (by rw [hgr.sym]; exact he)
  obtain ⟨r, h1, h2, h3⟩ := hf.reg hg (hall a ha.1 ha.2)
  obtain ⟨s, h4, h5, h6⟩ := hf.reg hg (hall b hb.1 hb.2)
  have h7 : Cn ed r s := (h2.step he).trans (h5.symm hgr.sym)
  have hrs : r = s := by
    rcases Nat.lt_trichotomy r s with hlt | heq | hgt
    · exact (h4.2 r hlt h1.1 h7).elim
    · exact heq
    · exact (h1.2 s hgt h4.1 (h7.symm hgr.sym)).elim
  subst hrs
  have := hg a b he
  omega
/-- a phase of a height -/
def phs (hs msk : List Int) (j : Nat) : Int := if hasB msk j then -1 else hs.getD j 0 % 1000
theorem phs_r (hs msk : List Int) (j : Nat) : -1 ≤ phs hs msk j ∧ phs hs msk j ≤ 999 := by unfold phs; split <;> omega
def phL (hs msk : List Int) (k : Nat) : List Int := mk k (phs hs msk)
theorem phL_len (hs msk : List Int) (k : Nat) : (phL hs msk k).length = k := mk_len ..
theorem phL_get {hs msk : List Int} {k j : Nat} (h : j < k) : (phL hs msk k).getD j 0 = phs hs msk j := mk_get h
theorem phL_ok (hs msk : List Int) (k : Nat) : okPh (phL hs msk k) := fun j => by
  by_cases h : j < k
  · rw [phL_get h]; exact phs_r ..
  · rw [List.getD_eq_getElem?_getD, List.getElem?_eq_none (by rw [phL_len]; omega)]; simp
theorem fr_zero {w : Int} {ph : List Int} (hw : 1 ≤ w ∧ w ≤ 12) (h0 : ph.length ≠ 0) (h1 : (ph.length : Int).tmod w = 0) (h2 : (ph.length : Int) ≤ w * 12) (hp : okPh ph) : checkFr w ph = 0 := by
  unfold checkFr
  rw [if_neg (fun h => h hw), if_neg (by omega), if_neg]
  have h3 := (findB_nn badF ph 0 (by omega)).1.1 fun x hx => by
    obtain ⟨k, hk, rfl⟩ := List.mem_iff_getElem.1 hx
    have := hp k
    rw [List.getD_eq_getElem?_getD, List.getElem?_eq_getElem hk] at this
    simp only [Option.getD_some] at this
    unfold badF
    simp; omega
  rw [h3]; omega
/-- no two neighbours differ by half an order -/
structure Calm (w : Int) (hs : List Int) : Prop where
  r : ∀ i, i + 1 < hs.length → ((i : Int) + 1).tmod w ≠ 0 → -500 < hs.getD (i + 1) 0 - hs.getD i 0 ∧ hs.getD (i + 1) 0 - hs.getD i 0 < 500
  d : ∀ i : Nat, ∀ j : Nat, (j : Int) = i + w → j < hs.length → -500 < hs.getD j 0 - hs.getD i 0 ∧ hs.getD j 0 - hs.getD i 0 < 500
theorem phs_there {hs msk : List Int} {j : Nat} (hj : j < hs.length) (h : thN (phL hs msk hs.length) j = true) : phs hs msk j = hs.getD j 0 % 1000 := by
  unfold thN thereB at h
  rw [Int.toNat_natCast, phL_get hj] at h
  have h1 := (of_decide_eq_true h).2.2
  unfold phs at h1 ⊢
  split
  · rename_i h2; rw [if_pos h2] at h1; exact (h1 rfl).elim
  · rfl
theorem calm_pot {w : Int} {hs msk : List Int} (hc : Calm w hs) : PotG (edN w (phL hs msk hs.length)) (stN (phL hs msk hs.length)) fun c => hs.getD c 0 := fun a b he => by
  have hg := grid_gr w (phL hs msk hs.length)
  have hl := phL_len hs msk hs.length
  -- only from the lower one
  have key : ∀ a b, a < b → edN w (phL hs msk hs.length) a b = true → hs.getD b 0 - hs.getD a 0 = stN (phL hs msk hs.length) a b := fun a b hab he => by
    have ha := hg.inn a b he
    have hb := hg.inn b a (by rw [hg.sym]; exact he)
    rw [hl] at ha hb
    have e1 := phs_there ha.1 ha.2
    have e2 := phs_there hb.1 hb.2
    have hd : -500 < hs.getD b 0 - hs.getD a 0 ∧ hs.getD b 0 - hs.getD a 0 < 500 := by
      unfold edN at he
      simp only [Bool.and_eq_true] at he
      have hbe := he.2
      unfold besideB hi2 lo2 at hbe
      rw [if_pos (by omega), if_neg (by omega)] at hbe
      simp only [Bool.or_eq_true, decide_eq_true_eq, Bool.and_eq_true, bne_iff_ne] at hbe
      rcases hbe with h | ⟨h, h2⟩
      · exact hc.d a b h (by omega)
      · have hba : b = a + 1 := by omega
        subst hba
        exact hc.r a (by omega) (by simpa using h2)
    have hst : stN (phL hs msk hs.length) a b = stp (phs hs msk b - phs hs msk a) := by
      show stepI _ _ _ = _
      unfold stepI
      rw [if_neg (by omega), Int.toNat_natCast, Int.toNat_natCast, phL_get ha.1, phL_get hb.1]
    rw [hst, e1, e2]
    have h1 := stp_r (hs.getD b 0 % 1000 - hs.getD a 0 % 1000)
    have h2 := stp_mod (hs.getD b 0 % 1000 - hs.getD a 0 % 1000)
    omega
  rcases Nat.lt_trichotomy a b with h | h | h
  · exact key a b h he
  · subst h
    have := hg.anti a a he
    show hs.getD a 0 - hs.getD a 0 = _
    omega
  · have h1 := key b a h (by rw [hg.sym]; exact he)
    have h2 := hg.anti a b he
    show hs.getD b 0 - hs.getD a 0 = _
    omega
theorem bes_d {w a : Int} (hw : 1 ≤ w) : besideB w a (a + w) = true := by
  unfold besideB hi2 lo2
  rw [if_pos (by omega), if_neg (by omega)]; simp
theorem bes_r {w a : Int} (h : (a + 1).tmod w ≠ 0) : besideB w a (a + 1) = true := by
  unfold besideB hi2 lo2
  rw [if_pos (by omega), if_neg (by omega)]; simp [h]
/-- where there are heights no small loop is open -/
theorem rsd_nil {w : Int} {ph : List Int} {g : Nat → Int} (hw : 1 ≤ w) (hg : PotG (edN w ph) (stN ph) g) : ∀ k, rsdL w ph k = []
  | 0 => rfl
  | k + 1 => by
    show rsdL w ph k ++ rsdAt w ph k = []
    rw [rsd_nil hw hg k, List.nil_append]
    unfold rsdAt
    split
    · rfl
    · rename_i h1
      split
      · rfl
      · rename_i h2
        rw [if_pos]
        have hl : (sq w (k : Int)).length = 4 := rfl
        have hth : ∀ x, x ∈ sq w (k : Int) → thereB ph x = true := fun x hx => by
          have := List.any_eq_false.1 (Bool.eq_false_iff.2 h2) x hx
          simpa using this
        have hp4 := sumL_pot (ph := ph) (l := sq w (k : Int)) (h := fun z => g z.toNat) (by rw [hl]; omega) fun j hj => by
          rw [hl] at hj ⊢
          have ha := hth ((sq w (k : Int)).getD j 0) (by
            rw [List.getD_eq_getElem?_getD, List.getElem?_eq_getElem (by rw [hl]; exact hj)]; exact List.getElem_mem _)
          have hb := hth ((sq w (k : Int)).getD ((j + 1) % 4) 0) (by
            rw [List.getD_eq_getElem?_getD, List.getElem?_eq_getElem (by rw [hl]; omega)]; exact List.getElem_mem _)
          have hbe : besideB w ((sq w (k : Int)).getD j 0) ((sq w (k : Int)).getD ((j + 1) % 4) 0) = true := by
            have hm : ((k : Int) + 1 + w).tmod w = ((k : Int) + 1).tmod w := by
              rw [Int.tmod_eq_emod_of_nonneg (by omega), Int.tmod_eq_emod_of_nonneg (by omega), Int.add_emod_right]
            have h1' : ((k : Int) + 1).tmod w ≠ 0 := h1
            have hj4 : j = 0 ∨ j = 1 ∨ j = 2 ∨ j = 3 := by omega
            rcases hj4 with rfl | rfl | rfl | rfl
            · exact bes_r h1'
            · exact bes_d hw
            · show besideB w ((k : Int) + 1 + w) ((k : Int) + w) = true
              rw [besideB_symm w, show (k : Int) + 1 + w = (k : Int) + w + 1 by omega]
              exact bes_r (by rw [show (k : Int) + w + 1 = (k : Int) + 1 + w by omega, hm]; exact h1')
            · show besideB w ((k : Int) + w) (k : Int) = true
              rw [besideB_symm w]; exact bes_d hw
          have ra := thereB_r ha
          have rb := thereB_r hb
          have h3 := hg ((sq w (k : Int)).getD j 0).toNat ((sq w (k : Int)).getD ((j + 1) % 4) 0).toNat (by
            unfold edN
            rw [Int.toNat_of_nonneg ra.1, Int.toNat_of_nonneg rb.1, ha, hb, hbe]; rfl)
          unfold stN at h3
          rw [Int.toNat_of_nonneg ra.1, Int.toNat_of_nonneg rb.1] at h3
          exact h3.symm
        exact hp4
end Go.Abs
