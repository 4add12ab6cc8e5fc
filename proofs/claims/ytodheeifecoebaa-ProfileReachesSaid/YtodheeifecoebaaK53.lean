import Derived.Test.YtodheeifecoebaaK51x
import Derived.Test.YtodheeifecoebaaK52x
set_option linter.all false
set_option linter.unusedVariables false
set_option linter.unusedSimpArgs false
set_option linter.unusedSectionVars false
namespace Go.Abs
open Go.Proofs
/-- a table in memory, owned or not -/
structure IsTb (z : Nat) (M : List (List Int)) (H : List Blk) : Prop where
  t : ∃ own, H[0]? = some (.cells own false 1 ((List.range z).map fun i => [AV.lsl (1 + i) 0 z]))
  r : ∀ i, i < z → ∃ own, H[1 + i]? = some (.cells own false 1 ((M.getD i []).map fun x => [i64 x]))
theorem freeze1_at (H : List Blk) (id j : Nat) {own nil : Bool} {sz : Nat} {els : List (List AV)} (h : H[j]? = some (.cells own nil sz els)) : ∃ own', (freeze1 H id)[j]? = some (.cells own' nil sz els) := by
  unfold freeze1
  split
  · rename_i n' s' e' h1
    by_cases hij : id = j
    · subst hij
      rw [h] at h1
      simp only [Option.some.injEq, Blk.cells.injEq] at h1
      obtain ⟨rfl, rfl, rfl, rfl⟩ := h1
      exact ⟨false, List.getElem?_set_self (List.getElem?_eq_some_iff.1 h).1⟩
    · exact ⟨own, by rw [List.getElem?_set_ne hij]; exact h⟩
  · exact ⟨own, h⟩
theorem freeze_at : ∀ (ids : List Nat) (H : List Blk) (j : Nat) {own nil : Bool} {sz : Nat} {els : List (List AV)}, H[j]? = some (.cells own nil sz els) → ∃ own', (freeze H ids)[j]? = some (.cells own' nil sz els)
  | [], H, j, own, _, _, _, h => ⟨own, h⟩
  | id :: r, H, j, _, _, _, _, h => by
    obtain ⟨o, h1⟩ := freeze1_at H id j h
    exact freeze_at r _ j h1
theorem freeze1_ne (H : List Blk) {id j : Nat} (h : id ≠ j) : (freeze1 H id)[j]? = H[j]? := by
  unfold freeze1
  split
  · rw [List.getElem?_set_ne h]
  · rfl
theorem freeze_ne : ∀ (ids : List Nat) (H : List Blk) {j : Nat}, j ∉ ids → (freeze H ids)[j]? = H[j]?
  | [], _, _, _ => rfl
  | id :: r, H, j, h => by
    simp only [List.mem_cons, not_or] at h
    show (freeze (freeze1 H id) r)[j]? = _
    rw [freeze_ne r _ h.2, freeze1_ne H (fun x => h.1 x.symm)]
theorem IsTb.freeze {z : Nat} {M : List (List Int)} {H : List Blk} (h : IsTb z M H) (ids : List Nat) : IsTb z M (freeze H ids) := by
  obtain ⟨o, h1⟩ := h.t
  refine ⟨freeze_at ids H 0 h1, fun i hi => ?_⟩
  obtain ⟨o2, h2⟩ := h.r i hi
  exact freeze_at ids H (1 + i) h2
theorem IsTb.app {z : Nat} {M : List (List Int)} {H : List Blk} (h : IsTb z M H) (X : List Blk) : IsTb z M (H ++ X) := by
  obtain ⟨o, h1⟩ := h.t
  refine ⟨⟨o, at_app h1 X⟩, fun i hi => ?_⟩
  obtain ⟨o2, h2⟩ := h.r i hi
  exact ⟨o2, at_app h2 X⟩
theorem IsTb.set {z : Nat} {M : List (List Int)} {H : List Blk} (h : IsTb z M H) {j : Nat} (hj : z < j) (b : Blk) : IsTb z M (H.set j b) := by
  obtain ⟨o, h1⟩ := h.t
  refine ⟨⟨o, by rw [List.getElem?_set_ne (by omega)]; exact h1⟩, fun i hi => ?_⟩
  obtain ⟨o2, h2⟩ := h.r i hi
  exact ⟨o2, by rw [List.getElem?_set_ne (by omega)]; exact h2⟩
theorem tabB_is {z : Nat} {M : List (List Int)} (hM : M.length = z) : IsTb z M (tabB M z) := by
  refine ⟨⟨true, rfl⟩, fun i hi => ⟨true, ?_⟩⟩
  rw [show 1 + i = i + 1 by omega]
  show (M.map rowB)[i]? = _
  simp [List.getD, hM, hi, rowB]
theorem tab_ren {z : Nat} {M : List (List Int)} : (tabB M z).map (renB (shiftρ 0)) = tabB M z := by
  unfold tabB
  simp only [List.map_cons, List.map_map]
  refine congrArg₂' ?_ ?_
  · simp only [renB]
    refine congrArg (Blk.cells true false 1) ?_
    induction (List.range z) with
    | nil => rfl
    | cons x l ih => simp only [List.map_cons, renR, renL, ren, shiftρ, Nat.add_zero, ih]
  · exact List.map_congr_left fun r _ => by simp only [Function.comp, rowB, renB, renR_ints]
where congrArg₂' {a b : Blk} {l m : List Blk} (h1 : a = b) (h2 : l = m) : a :: l = b :: m := by rw [h1, h2]
theorem rfy_row {H : List Blk} {id z d : Nat} {own : Bool} {xs : List Int} (h : H[id]? = some (.cells own false 1 (xs.map fun x => [i64 x]))) (hl : xs.length = z) : rfy (hget H) (d + 2) (.lsl id 0 z) = ints false xs := by
  have e : hget H id = .cells own false 1 (xs.map fun x => [i64 x]) := by unfold hget; rw [h]; rfl
  simp only [rfy, e]
  rw [if_pos (by simp; omega)]
  simp only [List.drop_zero]
  rw [List.take_of_length_le (by simp; omega), List.map_map]
  exact congrArg (AV.sl false 1) (List.map_congr_left fun x _ => rfl)
theorem tab_rfy {z : Nat} {M : List (List Int)} {H : List Blk} (h : IsTb z M H) (hM : Sq z M) : rfy (hget H) 6 (.lsl 0 0 z) = tblV M := by
  obtain ⟨o, h1⟩ := h.t
  have e : hget H 0 = .cells o false 1 ((List.range z).map fun i => [AV.lsl (1 + i) 0 z]) := by unfold hget; rw [h1]; rfl
  unfold rfy
  rw [e]
  dsimp only
  rw [if_pos (by simp), List.drop_zero, List.take_of_length_le (by simp), List.map_map]
  refine congrArg (AV.sl false 1) ?_
  refine List.ext_getElem (by simp [hM.hl]) fun i h2 h3 => ?_
  simp only [List.length_map, List.length_range] at h2
  obtain ⟨o2, h4⟩ := h.r i h2
  have h5 := rfy_row (d := 3) h4 (hM.hr i h2)
  simp only [List.getElem_map, List.getElem_range, Function.comp, List.map_cons, List.map_nil, h5]
  refine congrArg (fun r => [ints false r]) ?_
  simp [List.getD, hM.hl, h2]
theorem lids_row {H : List Blk} {id z d : Nat} {own : Bool} {xs : List Int} (h : H[id]? = some (.cells own false 1 (xs.map fun x => [i64 x]))) : lids (hget H) (d + 2) (.lsl id 0 z) = [id] := by
  have e : hget H id = .cells own false 1 (xs.map fun x => [i64 x]) := by unfold hget; rw [h]; rfl
  simp only [lids, e]
  refine congrArg (id :: ·) ?_
  rw [List.flatMap_eq_nil_iff]
  intro r hr
  obtain ⟨x, _, rfl⟩ := List.mem_map.1 (List.mem_of_mem_drop (List.mem_of_mem_take hr))
  rfl
theorem tab_lids {z : Nat} {M : List (List Int)} {H : List Blk} (h : IsTb z M H) (j : Nat) (hj : j ∈ lids (hget H) 6 (.lsl 0 0 z)) : j ≤ z := by
  obtain ⟨o, h1⟩ := h.t
  have e : hget H 0 = .cells o false 1 ((List.range z).map fun i => [AV.lsl (1 + i) 0 z]) := by unfold hget; rw [h1]; rfl
  unfold lids at hj
  rw [e] at hj
  simp only [List.mem_cons, List.mem_flatMap] at hj
  rcases hj with rfl | ⟨r, hr, v, hv, hjv⟩
  · omega
  · have hr2 : r ∈ (List.range z).map fun i => [AV.lsl (1 + i) 0 z] := List.mem_of_mem_drop (List.mem_of_mem_take hr)
    obtain ⟨i, hi, rfl⟩ := List.mem_map.1 hr2
    have hi2 := List.mem_range.1 hi
    simp only [List.mem_cons, List.not_mem_nil, or_false] at hv
    subst hv
    obtain ⟨o2, h4⟩ := h.r i hi2
    rw [lids_row (d := 3) h4] at hjv
    simp at hjv
    omega
end Go.Abs
