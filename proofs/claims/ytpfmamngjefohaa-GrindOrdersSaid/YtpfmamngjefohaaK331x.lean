import Derived.Test.YtpfmamngjefohaaK315x
import Derived.Test.YtpfmamngjefohaaK330x
import Derived.Test.YtpfmamngjefohaaK373x
set_option linter.all false
set_option linter.unusedVariables false
set_option linter.unusedSimpArgs false
set_option linter.unusedSectionVars false
namespace Go.Abs
open Go.Proofs
/-! the wear of a plan -/
/-- right minutes -/
structure POk (l : List Sk) (mi : List Int) (den : Int) : Prop where
  len : mi.length = l.length
  den : 1 ≤ den ∧ den ≤ 10000000
  mn : ∀ k, k < mi.length → 0 ≤ mi.getD k 0 ∧ mi.getD k 0 ≤ 1000000000
end Go.Abs
namespace Go.Abs
open Go.Proofs
/-! wear -/
end Go.Abs
namespace Go.Abs
open Go.Proofs
/-! CheckPlan -/
structure DOk (n : Nat) (lo hi : List Int) : Prop where
  l1 : lo.length = n
  l2 : hi.length = n
  r1 : ∀ z, z < n → 0 ≤ lo.getD z 0 ∧ lo.getD z 0 ≤ 10000
  r2 : ∀ z, z < n → 0 ≤ hi.getD z 0 ∧ hi.getD z 0 ≤ 10000
  le : ∀ z, z < n → lo.getD z 0 ≤ hi.getD z 0
theorem dmE_ok {n : Nat} {lo hi : List Int} (h : dmE n lo hi = 0) : DOk n lo hi := by
  unfold dmE at h
  split at h
  · simp at h
  rename_i h1
  have each : ∀ z, z < n → (0 ≤ lo.getD z 0 ∧ lo.getD z 0 ≤ 10000) ∧ (0 ≤ hi.getD z 0 ∧ hi.getD z 0 ≤ 10000) ∧ lo.getD z 0 ≤ hi.getD z 0 := fun z hz => by
    have := fe_all h z hz
    unfold dEr at this
    split at this
    · simp at this
    rename_i g1
    split at this
    · simp at this
    rename_i g2
    unfold inD at g1
    simp only [Bool.not_eq_false, Bool.and_eq_true, decide_eq_true_eq] at g1
    simp only [decide_eq_true_eq] at g2
    omega
  simp only [Bool.or_eq_true, bne_iff_ne, not_or, Decidable.not_not] at h1
  exact ⟨by omega, by omega, fun z hz => (each z hz).1, fun z hz => (each z hz).2.1, fun z hz => (each z hz).2.2⟩
end Go.Abs
namespace Go.Abs
open Go.Proofs
/-! LeftFor of the reference: a round -/
abbrev fB (W : List Int) : Blk := .cells false false 1 (W.map fun x => [i64 x])
end Go.Abs
namespace Go.Abs
open Go.Proofs
/-! LeftFor of the reference, whole -/
theorem rb_of {l : List Sk} {s : List Ss} {b : ByteArray} {lo hi : List Int} (hS : SOk l) (hZ : ZOk l s) (hD : DOk (l.getD 0 sk0).wr.length lo hi) : RB lo hi (wrL l s b) (l.getD 0 sk0).wr.length := by
  have hz := hS.zon
  have hf := hZ.few
  refine ⟨by omega, hD.l1, hD.l2, fL_len _ _, fun k hk => ?_⟩
  have h1 := hD.r1 k hk
  have h2 := hD.r2 k hk
  have h3 : (wrL l s b).getD k 0 = wz l s b s.length k := fL_get _ hk
  have h4 := wz_bd hS hZ b hk s.length (Nat.le_refl _)
  omega
theorem lids_take (h : Nat → Blk) (d : Nat) (xs : List Int) (n : Nat) : List.flatMap (fun r => List.flatMap (lids h d) r) (List.take n (xs.map fun x => [i64 x])) = [] := by
  rw [List.flatMap_eq_nil_iff]
  intro r hr
  obtain ⟨x, _, rfl⟩ := List.mem_map.1 (List.mem_of_mem_take hr)
  cases d <;> rfl
end Go.Abs
