import Derived.Test.YtodheeifecoebaaK261
import Derived.Test.YtodheeifecoebaaK27x
import Derived.Test.YtodheeifecoebaaK28x
set_option linter.all false
set_option linter.unusedVariables false
set_option linter.unusedSimpArgs false
set_option linter.unusedSectionVars false
namespace Go.Abs
open Go.Proofs
def besL (w : Int) (l : List Int) (k : Nat) : Bool := besideB w (l.getD k 0) (l.getD ((k + 1) % l.length) 0)
def loopSum (w : Int) (ph l : List Int) : Int × Int :=
  if ¬ (2 ≤ l.length ∧ l.length ≤ 144) then (0, 10)
  else if ¬ (∀ k, k < l.length → thereB ph (l.getD k 0) = true) then (0, 6)
  else if ¬ (∀ k, k < l.length → besL w l k = true) then (0, 14)
  else (sumL ph l l.length, 0)
end Go.Abs
namespace Go.Abs
open Go.Proofs
/-! CheckLoop of both sides -/
def chkLp (w : Int) (ph l : List Int) : Int × Int := if (loopSum w ph l).2 = 0 ∧ (loopSum w ph l).1 = 0 then (0, 22) else loopSum w ph l
end Go.Abs
namespace Go.Abs
open Go.Proofs
/-! a list as it stands asked of a function value *upon* a block -/
end Go.Abs
namespace Go.Abs
open Go.Proofs
/-! CheckLoop -/
end Go.Abs
namespace Go.Abs
/-! the sum of a loop is whole orders -/
theorem stp_mod (x : Int) : (stp x - x) % 1000 = 0 := by unfold stp; omega
theorem stepI_mod (ph : List Int) (a b : Int) : (stepI ph a b - (ph.getD b.toNat 0 - ph.getD a.toNat 0)) % 1000 = 0 := by
  unfold stepI
  split
  · have := stp_mod (ph.getD a.toNat 0 - ph.getD b.toNat 0); omega
  · exact stp_mod _
/-- where there are heights that agree with all steps, no loop is open -/
theorem sumL_pot {ph l : List Int} {h : Int → Int} (hl : l.length ≠ 0) (hp : ∀ k, k < l.length → stepI ph (l.getD k 0) (l.getD ((k + 1) % l.length) 0) = h (l.getD ((k + 1) % l.length) 0) - h (l.getD k 0)) : sumL ph l l.length = 0 := by
  have key : ∀ k, k < l.length → sumL ph l k = h (l.getD k 0) - h (l.getD 0 0) := fun k => by
    induction k with
    | zero => intro _; simp [sumL]
    | succ k ih =>
      intro hk
      have e : sumL ph l (k + 1) = sumL ph l k + stepI ph (l.getD k 0) (l.getD ((k + 1) % l.length) 0) := rfl
      rw [e, ih (by omega), hp k (by omega), Nat.mod_eq_of_lt hk]; omega
  obtain ⟨m, hm⟩ : ∃ m, l.length = m + 1 := ⟨l.length - 1, by omega⟩
  have e : sumL ph l (m + 1) = sumL ph l m + stepI ph (l.getD m 0) (l.getD ((m + 1) % l.length) 0) := rfl
  rw [hm, e, key m (by omega), hp m (by omega), hm, Nat.mod_self]; omega
end Go.Abs
namespace Go.Abs
/-! a fringe map as cells, neighbours and steps -/
def thN (ph : List Int) (c : Nat) : Bool := thereB ph (c : Int)
def edN (w : Int) (ph : List Int) (a b : Nat) : Bool := thereB ph (a : Int) && thereB ph (b : Int) && besideB w (a : Int) (b : Int)
def stN (ph : List Int) (a b : Nat) : Int := stepI ph (a : Int) (b : Int)
theorem stepI_anti {ph : List Int} (a b : Nat) : stepI ph (b : Int) (a : Int) = -stepI ph (a : Int) (b : Int) := by
  unfold stepI
  by_cases h1 : a < b
  · rw [if_pos (by omega), if_neg (by omega)]
  · by_cases h2 : b < a
    · rw [if_neg (by omega), if_pos (by omega)]; omega
    · have : a = b := by omega
      subst this
      rw [if_neg (by omega), Int.sub_self]; rfl
theorem grid_gr (w : Int) (ph : List Int) : Gr ph.length (thN ph) (edN w ph) (stN ph) := by
  refine ⟨fun a b => ?_, fun a b _ => stepI_anti a b, fun a b h => ?_⟩
  · unfold edN
    rw [besideB_symm w (b : Int) (a : Int), Bool.and_comm (thereB ph (a : Int))]
  · unfold edN at h
    simp only [Bool.and_eq_true] at h
    have := thereB_r h.1.1
    exact ⟨by omega, h.1.1⟩
def czN (L : List Nat) : List Int := mk L.length fun j => ((L.getD j 0 : Nat) : Int)
/-- the loop that does not close is accepted -/
theorem loop_chk {w : Int} {ph : List Int} {X Y : List Nat} {t : Nat} {o : List Nat} {h fr : Nat → Int} {P : Nat → Int} (hn : ph.length ≤ 144) (hf : Fo ph.length (thN ph) (edN w ph) (stN ph) P o h fr)
    (hX : Ch (thN ph) (edN w ph) (stN ph) o h fr X) (hY : Ch (thN ph) (edN w ph) (stN ph) o h fr Y) (hx : t < X.length) (hy : t < Y.length) (hc : X.getD (X.length - 1 - t) 0 = Y.getD (Y.length - 1 - t) 0)
    (hexit : ¬(1 < X.length - t ∧ 1 < Y.length - t ∧ X.getD (X.length - t - 2) 0 = Y.getD (Y.length - t - 2) 0)) (he : edN w ph (X.getD 0 0) (Y.getD 0 0) = true) (hbad : h (Y.getD 0 0) - h (X.getD 0 0) ≠ stN ph (X.getD 0 0) (Y.getD 0 0)) :
    (lpL X Y t).length ≤ ph.length ∧ (chkLp w ph (czN (lpL X Y t))).2 = 0 := by
  obtain ⟨⟨h1, h2⟩, h3, h4, h5⟩ := loop_ok (grid_gr w ph) hf hX hY hx hy hc hexit he hbad
  refine ⟨h2, ?_⟩
  generalize lpL X Y t = L at *
  have hg : ∀ k, k < L.length → (czN L).getD k 0 = (L.getD k 0 : Nat) := fun k hk => mk_get hk
  have hll : (czN L).length = L.length := mk_len ..
  have hth : ∀ k, k < (czN L).length → thereB ph ((czN L).getD k 0) = true := fun k hk => by
    rw [hll] at hk; rw [hg k hk]; exact (h3 k hk).2
  have hbe : ∀ k, k < (czN L).length → besL w (czN L) k = true := fun k hk => by
    rw [hll] at hk
    unfold besL
    rw [hll, hg k hk, hg _ (Nat.mod_lt _ (by omega))]
    have := h4 k hk
    unfold edN at this
    simp only [Bool.and_eq_true] at this
    exact this.2
  have hsum : ∀ k, k ≤ L.length → sumL ph (czN L) k = sm (fun k => stN ph (L.getD k 0) (L.getD ((k + 1) % L.length) 0)) k := fun k => by
    induction k with
    | zero => intro _; rfl
    | succ k ih =>
      intro hk
      show sumL ph _ k + stepI ph _ _ = sm _ k + _
      rw [ih (by omega), hll, hg k (by omega), hg _ (Nat.mod_lt _ (by omega))]; rfl
  have hls : loopSum w ph (czN L) = (sumL ph (czN L) L.length, 0) := by
    unfold loopSum
    rw [if_neg (fun h => h (by rw [hll]; omega)), if_neg (fun h => h hth), if_neg (fun h => h hbe), hll]
  unfold chkLp
  rw [hls, if_neg]
  intro h
  exact h5 (by rw [← hsum _ (Nat.le_refl _)]; exact h.2)
end Go.Abs
