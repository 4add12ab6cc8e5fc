import Derived.Test.YtpfmamngjefohaaK30x
set_option linter.all false
set_option linter.unusedVariables false
set_option linter.unusedSimpArgs false
set_option linter.unusedSectionVars false
namespace Go.Abs
open Go.Proofs
/-! not by rfl: simp takes a rule that holds by rfl twice, and a run of skipped operations then doubles its time with each -/
/-! a block may be frozen at any time -/
theorem freeze1_of {H : List Blk} {id : Nat} {o n : Bool} {z : Nat} {els : List (List AV)} (h : H[id]? = some (.cells o n z els)) : (freeze1 H id)[id]? = some (.cells false n z els) := by
  unfold freeze1
  split
  · rename_i n2 s2 e2 h2
    rw [h] at h2
    simp at h2
    obtain ⟨_, rfl, rfl, rfl⟩ := h2
    exact List.getElem?_set_self (List.getElem?_eq_some_iff.1 h).1
  · rename_i h2
    cases o with
    | false => exact h
    | true => exact (h2 n z els h).elim
theorem freeze1_ne {H : List Blk} {id k : Nat} (h : k ≠ id) : (freeze1 H id)[k]? = H[k]? := by
  unfold freeze1
  split
  · exact List.getElem?_set_ne (Ne.symm h)
  · rfl
/-- blocks but for one are as they were, or frozen -/
structure Kp (id : Nat) (H H' : List Blk) : Prop where
  len : H.length ≤ H'.length
  cell : ∀ k n z els, k ≠ id → (∃ o, H[k]? = some (.cells o n z els)) → ∃ o, H'[k]? = some (.cells o n z els)
theorem Kp.refl (id : Nat) (H : List Blk) : Kp id H H := ⟨Nat.le_refl _, fun _ _ _ _ _ h => h⟩
theorem Kp.trans {id : Nat} {H H' H'' : List Blk} (h : Kp id H H') (h' : Kp id H' H'') : Kp id H H'' := ⟨Nat.le_trans h.len h'.len, fun k n z els hk hc => h'.cell k n z els hk (h.cell k n z els hk hc)⟩
theorem Kp.app (id : Nat) (H X : List Blk) : Kp id H (H ++ X) := ⟨by simp, fun k n z els _ ⟨o, h⟩ => ⟨o, by rw [List.getElem?_append_left (List.getElem?_eq_some_iff.1 h).1]; exact h⟩⟩
theorem Kp.set (id : Nat) (H : List Blk) (v : Blk) : Kp id H (H.set id v) := ⟨by simp, fun k n z els hk ⟨o, h⟩ => ⟨o, by rw [List.getElem?_set_ne (Ne.symm hk)]; exact h⟩⟩
theorem Kp.fr (id j : Nat) (H : List Blk) : Kp id H (freeze1 H j) := by
  refine ⟨by rw [freeze1_len]; exact Nat.le_refl _, fun k n z els hk ⟨o, h⟩ => ?_⟩
  by_cases hkj : k = j
  · subst hkj; exact ⟨false, freeze1_of h⟩
  · exact ⟨o, by rw [freeze1_ne hkj]; exact h⟩
/-- the best so far, in memory -/
def SB (id : Nat) (o : Pol) (H : List Blk) : Prop := match o with
  | none => H[id]? = some (.cells true false 3 [[.sl true 0 [], i64 0, bl false]])
  | some x => ∃ j b, H[id]? = some (.cells true false 3 [[.lsl j 0 x.1.length, i64 x.2, bl true]]) ∧ H[j]? = some (.cells b false 1 (x.1.map fun x => [i64 x]))
end Go.Abs
