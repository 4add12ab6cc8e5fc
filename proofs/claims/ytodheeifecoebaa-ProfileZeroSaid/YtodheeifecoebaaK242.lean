import Derived.Test.YtodheeifecoebaaK200
set_option linter.all false
set_option linter.unusedVariables false
set_option linter.unusedSimpArgs false
set_option linter.unusedSectionVars false
namespace Go.Abs
/-! THE SAME MIRROR FOR EVERY ZERO: the plain law -/
/-- the maps that a mirror and an instrument make -/
def mv (M I : Nat → Int) (s n t i : Nat) : Int := M ((i + n - t * s) % n) + I i
theorem per_mod {n : Nat} (M : Nat → Int) (a s k : Nat) (hks : k * s = n) : ∀ u, (fun u => M ((a + u * s) % n)) (u + k) = (fun u => M ((a + u * s) % n)) u := fun u => by
  show M ((a + (u + k) * s) % n) = M ((a + u * s) % n)
  rw [Nat.add_mul, hks, ← Nat.add_assoc, Nat.add_mod_right]
/-- what all turns show of the mirror at a sector -/
def ms (M : Nat → Int) (k s n j : Nat) : Int := sm (fun u => M ((j + u * s) % n)) k
theorem ms_turn {n : Nat} {M : Nat → Int} {k s : Nat} (hks : k * s = n) (j t : Nat) : ms M k s n ((j + t * s) % n) = ms M k s n j := by
  have h := sm_per (f := fun u => M ((j + u * s) % n)) (n := k) (per_mod M j s k hks) t
  unfold ms
  rw [← h]
  refine sm_congr k fun u _ => ?_
  show M (((j + t * s) % n + u * s) % n) = M ((j + (u + t) * s) % n)
  rw [Nat.mod_add_mod, Nat.add_mul]
  congr 2; omega
theorem ms_back {n : Nat} {M : Nat → Int} {k s : Nat} (hks : k * s = n) {i : Nat} (hi : i < n) : sm (fun t => M ((i + n - t * s) % n)) k = ms M k s n i := by
  cases k with
  | zero => rfl
  | succ k =>
  have h1 := sm_rev (fun u => M ((i + (u + 1) * s) % n)) (k + 1)
  have h2 := sm_per (f := fun u => M ((i + u * s) % n)) (n := k + 1) (per_mod M i s (k + 1) hks) 1
  unfold ms
  rw [← h2, ← h1]
  refine sm_congr (k + 1) fun t ht => ?_
  show M ((i + n - t * s) % n) = M ((i + (k + 1 - 1 - t + 1) * s) % n)
  have e : (k + 1 - 1 - t + 1) * s = n - t * s := by
    rw [show k + 1 - 1 - t + 1 = (k + 1) - t by omega, Nat.sub_mul, hks]
  have hts : t * s ≤ n := by have := Nat.mul_le_mul_right s (Nat.le_of_lt ht); omega
  rw [e]
  congr 2; omega
theorem rst_mv {M I : Nat → Int} {k s n i : Nat} (hks : k * s = n) (hi : i < n) : rst (mv M I s n) k i = ms M k s n i + k * I i := by
  unfold rst mv
  rw [sm_add, sm_const, ms_back hks hi]
theorem mv_at {M I : Nat → Int} {k s n t j : Nat} (hks : k * s = n) (ht : t < k) (hj : j < n) : mv M I s n t ((j + t * s) % n) = M j + I ((j + t * s) % n) := by
  have hts : t * s ≤ n := by have := Nat.mul_le_mul_right s (Nat.le_of_lt ht); omega
  have hi : (j + t * s) % n < n := Nat.mod_lt _ (by omega)
  unfold mv
  rw [← (at_iff hi hj hts).1 rfl]
/-- the instrument falls out -/
theorem mir_mv {M I : Nat → Int} {k s n j : Nat} (hks : k * s = n) (hj : j < n) : mir (mv M I s n) k s n j = k * (k * M j - ms M k s n j) := by
  unfold mir mirp
  rw [← sm_const]
  refine sm_congr k fun t ht => ?_
  have hi : (j + t * s) % n < n := Nat.mod_lt _ (by omega)
  rw [mv_at hks ht hj, rst_mv hks hi, ms_turn hks]
  grind
/-- no misfit -/
theorem misfit_mv {M I : Nat → Int} {k s n t i : Nat} (hks : k * s = n) (ht : t < k) (hi : i < n) : (k : Int) * k * mv M I s n t i - mir (mv M I s n) k s n ((i + n - t * s) % n) - k * rst (mv M I s n) k i = 0 := by
  have hts : t * s ≤ n := by have := Nat.mul_le_mul_right s (Nat.le_of_lt ht); omega
  have hj : (i + n - t * s) % n < n := Nat.mod_lt _ (by omega)
  rw [mir_mv hks hj, rst_mv hks hi]
  have e : ms M k s n i = ms M k s n ((i + n - t * s) % n) := by
    rw [← ms_turn hks ((i + n - t * s) % n) t, at_inv hi hts]
  rw [e]
  unfold mv
  grind
/-- begun one turn later -/
theorem mir_later {V V' : Nat → Nat → Int} {k s n : Nat} (hk : 1 ≤ k) (hks : k * s = n) (hV : ∀ t i, t < k → i < n → V' t i = V (if t + 1 < k then t + 1 else 0) i) {i : Nat} (hi : i < n) : mir V' k s n i = mir V k s n ((i + n - s) % n) := by
  obtain ⟨m, rfl⟩ : ∃ m, k = m + 1 := ⟨k - 1, by omega⟩
  have hn : 0 < n := by omega
  have hsn : s ≤ n := by have := Nat.mul_le_mul_right s hk; omega
  have hrst : ∀ j, j < n → rst V' (m + 1) j = rst V (m + 1) j := fun j hj => by
    unfold rst
    refine sm_cyc (fun t => V t j) (fun t => V' t j) m ?_ fun t ht => ?_
    · show V' m j = V 0 j
      rw [hV m j (by omega) hj, if_neg (by omega)]
    · show V' t j = V (t + 1) j
      rw [hV t j (by omega) hj, if_pos (by omega)]
  have hsub : ∀ u, ((i + n - s) % n + u * s) % n = (i + n - s + u * s) % n := fun u => Nat.mod_add_mod ..
  unfold mir mirp
  refine sm_cyc (fun t => ((m + 1 : Nat) : Int) * V t (((i + n - s) % n + t * s) % n) - rst V (m + 1) (((i + n - s) % n + t * s) % n)) (fun t => ((m + 1 : Nat) : Int) * V' t ((i + t * s) % n) - rst V' (m + 1) ((i + t * s) % n)) m ?_ fun t ht => ?_
  · have e : (i + m * s) % n = ((i + n - s) % n + 0 * s) % n := by
      rw [hsub, Nat.zero_mul]
      congr 1
      rw [Nat.add_mul] at hks; omega
    show _ * V' m ((i + m * s) % n) - rst V' (m + 1) ((i + m * s) % n) = _
    rw [hrst _ (Nat.mod_lt _ hn), hV m _ (by omega) (Nat.mod_lt _ hn), if_neg (by omega), e]
  · have e : (i + t * s) % n = ((i + n - s) % n + (t + 1) * s) % n := by
      rw [hsub, Nat.add_mul, Nat.one_mul, show i + n - s + (t * s + s) = i + t * s + n by omega, Nat.add_mod_right]
    show _ * V' t ((i + t * s) % n) - rst V' (m + 1) ((i + t * s) % n) = _
    rw [hrst _ (Nat.mod_lt _ hn), hV t _ (by omega) (Nat.mod_lt _ hn), if_pos (by omega), e]
end Go.Abs
