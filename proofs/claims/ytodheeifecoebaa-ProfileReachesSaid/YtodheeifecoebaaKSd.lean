import Derived.Test.YtodheeifecoebaaK97x
import Derived.Test.YtodheeifecoebaaK53
set_option linter.all false
set_option linter.unusedVariables false
set_option linter.unusedSimpArgs false
set_option linter.unusedSectionVars false
namespace Go.Abs
open Go.Proofs
/-! the table of readings that agree -/
theorem leave_tabQ2 {z : Nat} {M : List (List Int)} (hs : Sq z M) (s : List (Nat × AV)) (h4 : look s 4 = .lsl 0 0 z) (h5 : look s 5 = i64 0) : leave 0 [ARes.tmp 4, ARes.tmp 5] (fun r' H' => r' = AV.tup [AV.lsl 0 0 z, i64 0] ∧ H' = tabB M z) .ret ⟨s, tabB M z⟩ := by
  have hH : IsQ z M (tabB M z) := ⟨rfl, fun i hi => by
    rw [show 1 + i = i + 1 by omega]
    show (M.map rowB)[i]? = _
    simp [List.getD, hs.hl, hi, rowB]⟩
  refine leave_ids (.inr rfl) [.lsl 0 0 z, i64 0] (List.range (z + 1)) ?_ (fun id hid => ?_) List.nodup_range ⟨?_, leave_tq hH hs⟩
  · simp [resL, resAV, St.get, h4, h5]
  · have := List.mem_range.1 hid
    show id < (tabB M z).length
    simp [tabB, hs.hl]; omega
  · have : keepρ 0 (List.range (z + 1)) 0 = some 0 := by
      unfold keepρ
      rw [if_neg (by omega), pos_rng (by omega)]
      rfl
    simp [tupOf, ren, renL, this]
end Go.Abs
namespace Go.Abs
open Go.Proofs
/-- a table in memory, from block o on -/
structure IsTo (o z : Nat) (M : List (List Int)) (H : List Blk) : Prop where
  t : ∃ own, H[o]? = some (.cells own false 1 ((List.range z).map fun i => [AV.lsl (o + 1 + i) 0 z]))
  r : ∀ i, i < z → ∃ own, H[o + 1 + i]? = some (.cells own false 1 ((M.getD i []).map fun x => [i64 x]))
theorem IsTo.freeze {o z : Nat} {M : List (List Int)} {H : List Blk} (h : IsTo o z M H) (ids : List Nat) : IsTo o z M (freeze H ids) := by
  obtain ⟨w, h1⟩ := h.t
  refine ⟨freeze_at ids H o h1, fun i hi => ?_⟩
  obtain ⟨w2, h2⟩ := h.r i hi
  exact freeze_at ids H (o + 1 + i) h2
theorem IsTo.app {o z : Nat} {M : List (List Int)} {H : List Blk} (h : IsTo o z M H) (X : List Blk) : IsTo o z M (H ++ X) := by
  obtain ⟨w, h1⟩ := h.t
  refine ⟨⟨w, at_app h1 X⟩, fun i hi => ?_⟩
  obtain ⟨w2, h2⟩ := h.r i hi
  exact ⟨w2, at_app h2 X⟩
theorem IsTo.set {o z : Nat} {M : List (List Int)} {H : List Blk} (h : IsTo o z M H) {j : Nat} (hj : j < o ∨ o + z < j) (b : Blk) : IsTo o z M (H.set j b) := by
  obtain ⟨w, h1⟩ := h.t
  refine ⟨⟨w, by rw [List.getElem?_set_ne (by omega)]; exact h1⟩, fun i hi => ?_⟩
  obtain ⟨w2, h2⟩ := h.r i hi
  exact ⟨w2, by rw [List.getElem?_set_ne (by omega)]; exact h2⟩
theorem tab_at {z : Nat} {M : List (List Int)} (hM : M.length = z) (X : List Blk) : IsTo X.length z M (X ++ (tabB M z).map (renB (shiftρ X.length))) := by
  have e : (tabB M z).map (renB (shiftρ X.length)) = .cells true false 1 ((List.range z).map fun i => [AV.lsl (X.length + 1 + i) 0 z]) :: M.map rowB := by
    unfold tabB
    simp only [List.map_cons, List.map_map]
    have h1 : renB (shiftρ X.length) (.cells true false 1 ((List.range z).map fun i => [AV.lsl (1 + i) 0 z])) = .cells true false 1 ((List.range z).map fun i => [AV.lsl (X.length + 1 + i) 0 z]) := by
      simp only [renB]
      refine congrArg (Blk.cells true false 1) ?_
      induction (List.range z) with
      | nil => rfl
      | cons x l ih =>
        have hx : 1 + x + X.length = X.length + 1 + x := by omega
        simp only [List.map_cons, renR, renL, ren, shiftρ, ih, hx]
    rw [h1]
    refine congrArg (_ :: ·) (List.map_congr_left fun r _ => by simp only [Function.comp, rowB, renB, renR_ints])
  rw [e]
  refine ⟨⟨true, by rw [List.getElem?_append_right (Nat.le_refl _), Nat.sub_self]; rfl⟩, fun i hi => ⟨true, ?_⟩⟩
  rw [List.getElem?_append_right (by omega), show X.length + 1 + i - X.length = i + 1 by omega]
  show (M.map rowB)[i]? = _
  simp [List.getD, hM, hi, rowB]
theorem to_rfy {o z : Nat} {M : List (List Int)} {H : List Blk} (h : IsTo o z M H) (hM : Sq z M) : rfy (hget H) 6 (.lsl o 0 z) = tblV M := by
  obtain ⟨w, h1⟩ := h.t
  have e : hget H o = .cells w false 1 ((List.range z).map fun i => [AV.lsl (o + 1 + i) 0 z]) := by unfold hget; rw [h1]; rfl
  unfold rfy
  rw [e]
  dsimp only
  rw [if_pos (by simp), List.drop_zero, List.take_of_length_le (by simp), List.map_map]
  refine congrArg (AV.sl false 1) ?_
  refine List.ext_getElem (by simp [hM.hl]) fun i h2 h3 => ?_
  simp only [List.length_map, List.length_range] at h2
  obtain ⟨w2, h4⟩ := h.r i h2
  have h5 := rfy_row (d := 3) h4 (hM.hr i h2)
  simp only [List.getElem_map, List.getElem_range, Function.comp, List.map_cons, List.map_nil, h5]
  refine congrArg (fun r => [ints false r]) ?_
  simp [List.getD, hM.hl, h2]
theorem to_lids {o z : Nat} {M : List (List Int)} {H : List Blk} (h : IsTo o z M H) (j : Nat) (hj : j ∈ lids (hget H) 6 (.lsl o 0 z)) : o ≤ j ∧ j ≤ o + z := by
  obtain ⟨w, h1⟩ := h.t
  have e : hget H o = .cells w false 1 ((List.range z).map fun i => [AV.lsl (o + 1 + i) 0 z]) := by unfold hget; rw [h1]; rfl
  unfold lids at hj
  rw [e] at hj
  simp only [List.mem_cons, List.mem_flatMap] at hj
  rcases hj with rfl | ⟨r, hr, v, hv, hjv⟩
  · omega
  · have hr2 : r ∈ (List.range z).map fun i => [AV.lsl (o + 1 + i) 0 z] := List.mem_of_mem_drop (List.mem_of_mem_take hr)
    obtain ⟨i, hi, rfl⟩ := List.mem_map.1 hr2
    have hi2 := List.mem_range.1 hi
    simp only [List.mem_cons, List.not_mem_nil, or_false] at hv
    subst hv
    obtain ⟨w2, h4⟩ := h.r i hi2
    rw [lids_row (d := 3) h4] at hjv
    simp at hjv
    omega
end Go.Abs
