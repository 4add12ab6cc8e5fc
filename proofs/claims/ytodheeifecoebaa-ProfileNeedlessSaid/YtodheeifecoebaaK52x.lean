import Derived.Test.YtodheeifecoebaaK49x
import Derived.Test.YtodheeifecoebaaK51x
import Derived.Test.YtodheeifecoebaaK43x
set_option linter.all false
set_option linter.unusedVariables false
set_option linter.unusedSimpArgs false
set_option linter.unusedSectionVars false
namespace Go.Abs
open Go.Proofs
/-- a table as a value -/
abbrev tblV (M : List (List Int)) : AV := .sl false 1 (M.map fun r => [ints false r])
def isFar (n : Int) : Bool := n == far
set_option maxHeartbeats 8000000 in
theorem k144 (n : Int) : Fn Try.prog 144 [i64 n] (bl (isFar n)) [] := by
  refine fn_of e144 ?_
  unfold c144
  repeat' (first | (with_reducible first | refine T_seq ?_ | refine T_reg ?_ | refine T_skip ?_ | refine T_exit ?_ | refine T_block ?_ | refine T_cond_t rfl ?_ | refine T_cond_f rfl ?_ | refine T_ret ?_ | refine leave_of (.inr rfl) _ rfl ?_ | refine leave_of (.inl rfl) _ rfl ?_ | refine leaveA_of (.inr rfl) _ rfl ?_ | refine leaveA_of (.inl rfl) _ rfl ?_ | refine wif_intro ?_ (fun hc => ?_) | refine And.intro ?_ ?_ | intro hc) | simp (maxSteps := 4000000) only [wops_nil, wops_cons, wstep_none, wrun_mv, wrun_bin, get_mk, wop, aop, ev, look, put_some, writes, ores_some, binV, thenK, tupOf, List.map_cons, List.map_nil, List.length_nil, List.append_nil, List.replicate_zero, List.zipIdx_cons, List.zipIdx_nil, Option.map_some, if_true, if_false, Nat.reduceEqDiff, Nat.zero_add, reduceCtorEq, eq_self, ren, *] | simp (disch := omega) only [getD_ints, wrapI] | omega)
  exact rfl
theorem tbl_get {M : List (List Int)} {i : Nat} (h : i < M.length) : (M.map fun r => [ints false r]).getD i [] = [ints false (M.getD i [])] := by simp [List.getD, h]
set_option maxHeartbeats 8000000 in
theorem k97 {M : List (List Int)} {z : Nat} (hz : 1 ≤ z ∧ z ≤ 40) (hM : Sq z M) : Fn Try.prog 97 [tblV M] (bl (!((M.getD 0 []).any isFar))) [] := by
  refine fn_of e97 ?_
  have h1 : (M.map fun r => [ints false r]).getD (Int.toNat 0) [] = [ints false (M.getD 0 [])] := tbl_get (M := M) (i := 0) (by rw [hM.hl]; omega)
  have h2 := hM.hl
  have h90 := k90f k144 false (M.getD 0 []) (by rw [hM.hr 0 (by omega)]; omega)
  have h3 : (M.map fun r => [ints false r]).length = z := by rw [List.length_map]; exact h2
  have hz3 : 0 < z := hz.1
  clear hM
  unfold c97
  repeat' (first | (with_reducible first | refine T_seq ?_ | refine T_reg ?_ | refine T_skip ?_ | refine T_exit ?_ | refine T_block ?_ | refine T_cond_t rfl ?_ | refine T_cond_f rfl ?_ | refine T_ret ?_ | refine leave_of (.inr rfl) _ rfl ?_ | refine leave_of (.inl rfl) _ rfl ?_ | refine leaveA_of (.inr rfl) _ rfl ?_ | refine leaveA_of (.inl rfl) _ rfl ?_ | refine wif_intro ?_ (fun hc => ?_) | refine And.intro ?_ ?_ | intro hc) | simp (maxSteps := 4000000) only [wops_nil, wops_cons, wstep_none, wrun_call, wrun_mv, wrun_load, wrun_iaddrS, wop, aop, ev, look, put_some, writes, ores_some, ores_ite_none, thenK, value, cut, hget, mkAgg, List.map_cons, List.map_nil, List.length_cons, List.length_nil, List.take_succ_cons, List.take_nil, List.drop_zero, List.append_nil, List.replicate_zero, List.zipIdx_cons, List.zipIdx_nil, Option.map_some, if_true, if_false, Nat.reduceEqDiff, Nat.zero_add, reduceCtorEq, Bool.false_eq_true, eq_self, and_true, *] | simp (disch := omega) only [getD_ints, wrapI] | omega)
  · refine wcall_rawfn h90 (by simp [plainL, plain]) ?_
    repeat' (first | (with_reducible first | refine T_seq ?_ | refine T_reg ?_ | refine T_skip ?_ | refine T_exit ?_ | refine T_block ?_ | refine T_cond_t rfl ?_ | refine T_cond_f rfl ?_ | refine T_ret ?_ | refine leave_of (.inr rfl) _ rfl ?_ | refine leave_of (.inl rfl) _ rfl ?_ | refine leaveA_of (.inr rfl) _ rfl ?_ | refine leaveA_of (.inl rfl) _ rfl ?_ | refine wif_intro ?_ (fun hc => ?_) | refine And.intro ?_ ?_ | intro hc) | simp (maxSteps := 4000000) only [wops_nil, wops_cons, wstep_none, wrun_mv, wrun_not, get_mk, wop, aop, ev, look, put_some, writes, ores_some, thenK, boolV, tupOf, if_true, if_false, Nat.reduceEqDiff, reduceCtorEq, eq_self, ren, *] | simp (disch := omega) only [getD_ints, wrapI] | omega)
abbrev rgA (a b : Int) : AV := .lit (.agg #[.int .i64 a, .int .i64 b])
set_option maxHeartbeats 8000000 in
theorem k98 {M : List (List Int)} {z i j : Nat} (hz : 1 ≤ z ∧ z ≤ 40) (hM : Sq z M) (hi : i < z) (hj : j < z) (hb : -10000000000000 ≤ mget M j i ∧ mget M j i ≤ 10000000000000) : Fn Try.prog 98 [tblV M, i64 i, i64 j] (rgA (-(mget M j i)) (mget M i j)) [] := by
  refine fn_of e98 ?_
  have h2 := hM.hl
  have h3 : (M.map fun r => [ints false r]).length = z := by rw [List.length_map]; exact h2
  have h1 := tbl_get (M := M) (i := i) (by omega)
  have h4 := tbl_get (M := M) (i := j) (by omega)
  have h5 := hM.hr i hi
  have h6 := hM.hr j hj
  have g1 : ((M.getD j []).map fun x => [i64 x]).getD i [] = [i64 (mget M j i)] := getD_ints (by omega)
  have g2 : ((M.getD i []).map fun x => [i64 x]).getD j [] = [i64 (mget M i j)] := getD_ints (by omega)
  have e0 : ∀ x : Int, 0 - x = -x := fun x => by omega
  have e1 : ((M.getD j []).map fun x => [i64 x]).length = z := by rw [List.length_map]; exact h6
  have e2 : ((M.getD i []).map fun x => [i64 x]).length = z := by rw [List.length_map]; exact h5
  clear hM
  unfold c98
  repeat' (first | ((with_reducible refine T_calm ?_ ?_); rfl) | (with_reducible first | refine T_seq ?_ | refine T_reg ?_ | refine T_draw ?_ | refine T_skip ?_ | refine T_exit ?_ | refine T_block ?_ | refine T_cond_t rfl ?_ | refine T_cond_f rfl ?_ | refine wdW_cons rfl ?_ | refine T_ret ?_ | refine leave_of (.inr rfl) _ rfl ?_ | refine leave_of (.inl rfl) _ rfl ?_ | refine leaveA_of (.inr rfl) _ rfl ?_ | refine leaveA_of (.inl rfl) _ rfl ?_ | refine wif_intro ?_ (fun hc => ?_) | refine And.intro ?_ ?_ | intro hc) | simp (maxSteps := 4000000) only [wops_nil, wops_cons, wstep_none, wrun_mv, wrun_neg, wrun_build, wrun_load, wrun_store, wrun_iaddrS, wrun_alloc, wrunX_mv, wrunX_neg, wrunX_build, wrunX_load, wrunX_store, wrunX_iaddrS, wdW_nil, wstepX_none, wop, aop, ev, look, put_some, put_none, writes, ores_some, ores_ite_none, thenK, value, cut, hget, fillA, putCells, AV.parts, isOne, toLits, mkAgg, tupOf, ofValue_int, List.map_cons, List.map_nil, List.length_cons, List.length_nil, List.getElem?_cons_zero, List.set_cons_zero, List.take_succ_cons, List.take_zero, List.take_nil, List.drop_succ_cons, List.drop_zero, List.drop_nil, List.cons_append, List.nil_append, List.append_nil, List.replicate_zero, List.replicate_succ, List.getD_cons_zero, List.zipIdx_cons, List.zipIdx_nil, List.all_cons, List.all_nil, Option.getD_some, Option.map_some, if_true, if_false, Nat.reduceEqDiff, Nat.reduceAdd, Nat.reduceLeDiff, Nat.reduceLT, Nat.add_zero, Nat.zero_add, Nat.le_refl, Nat.zero_ne_one, reduceCtorEq, Bool.and_true, Bool.false_eq_true, eq_self, true_and, and_true, and_self, List.all_cons, ren, Int.toNat_natCast, *] | simp (disch := omega) only [wrapI] | omega)
end Go.Abs
namespace Go.Abs
open Go.Proofs
/-- a table in memory, owned or not -/
structure IsTb (z : Nat) (M : List (List Int)) (H : List Blk) : Prop where
  t : ∃ own, H[0]? = some (.cells own false 1 ((List.range z).map fun i => [AV.lsl (1 + i) 0 z]))
  r : ∀ i, i < z → ∃ own, H[1 + i]? = some (.cells own false 1 ((M.getD i []).map fun x => [i64 x]))
theorem freeze1_at (H : List Blk) (id j : Nat) {own nil : Bool} {sz : Nat} {els : List (List AV)} (h : H[j]? = some (.cells own nil sz els)) : ∃ own', (freeze1 H id)[j]? = some (.cells own' nil sz els) := by
  unfold freeze1
  split
  · rename_i n' s' e' h1
    by_cases hij : id = j
    · subst hij
      rw [h] at h1
      simp only [Option.some.injEq, Blk.cells.injEq] at h1
      obtain ⟨rfl, rfl, rfl, rfl⟩ := h1
      exact ⟨false, List.getElem?_set_self (List.getElem?_eq_some_iff.1 h).1⟩
    · exact ⟨own, by rw [List.getElem?_set_ne hij]; exact h⟩
  · exact ⟨own, h⟩
theorem freeze_at : ∀ (ids : List Nat) (H : List Blk) (j : Nat) {own nil : Bool} {sz : Nat} {els : List (List AV)}, H[j]? = some (.cells own nil sz els) → ∃ own', (freeze H ids)[j]? = some (.cells own' nil sz els)
  | [], H, j, own, _, _, _, h => ⟨own, h⟩
  | id :: r, H, j, _, _, _, _, h => by
    obtain ⟨o, h1⟩ := freeze1_at H id j h
    exact freeze_at r _ j h1
theorem freeze1_ne (H : List Blk) {id j : Nat} (h : id ≠ j) : (freeze1 H id)[j]? = H[j]? := by
  unfold freeze1
  split
  · rw [List.getElem?_set_ne h]
  · rfl
theorem freeze_ne : ∀ (ids : List Nat) (H : List Blk) {j : Nat}, j ∉ ids → (freeze H ids)[j]? = H[j]?
  | [], _, _, _ => rfl
  | id :: r, H, j, h => by
    simp only [List.mem_cons, not_or] at h
    show (freeze (freeze1 H id) r)[j]? = _
    rw [freeze_ne r _ h.2, freeze1_ne H (fun x => h.1 x.symm)]
theorem IsTb.freeze {z : Nat} {M : List (List Int)} {H : List Blk} (h : IsTb z M H) (ids : List Nat) : IsTb z M (freeze H ids) := by
  obtain ⟨o, h1⟩ := h.t
  refine ⟨freeze_at ids H 0 h1, fun i hi => ?_⟩
  obtain ⟨o2, h2⟩ := h.r i hi
  exact freeze_at ids H (1 + i) h2
theorem IsTb.app {z : Nat} {M : List (List Int)} {H : List Blk} (h : IsTb z M H) (X : List Blk) : IsTb z M (H ++ X) := by
  obtain ⟨o, h1⟩ := h.t
  refine ⟨⟨o, at_app h1 X⟩, fun i hi => ?_⟩
  obtain ⟨o2, h2⟩ := h.r i hi
  exact ⟨o2, at_app h2 X⟩
theorem IsTb.set {z : Nat} {M : List (List Int)} {H : List Blk} (h : IsTb z M H) {j : Nat} (hj : z < j) (b : Blk) : IsTb z M (H.set j b) := by
  obtain ⟨o, h1⟩ := h.t
  refine ⟨⟨o, by rw [List.getElem?_set_ne (by omega)]; exact h1⟩, fun i hi => ?_⟩
  obtain ⟨o2, h2⟩ := h.r i hi
  exact ⟨o2, by rw [List.getElem?_set_ne (by omega)]; exact h2⟩
theorem tabB_is {z : Nat} {M : List (List Int)} (hM : M.length = z) : IsTb z M (tabB M z) := by
  refine ⟨⟨true, rfl⟩, fun i hi => ⟨true, ?_⟩⟩
  rw [show 1 + i = i + 1 by omega]
  show (M.map rowB)[i]? = _
  simp [List.getD, hM, hi, rowB]
theorem tab_ren {z : Nat} {M : List (List Int)} : (tabB M z).map (renB (shiftρ 0)) = tabB M z := by
  unfold tabB
  simp only [List.map_cons, List.map_map]
  refine congrArg₂' ?_ ?_
  · simp only [renB]
    refine congrArg (Blk.cells true false 1) ?_
    induction (List.range z) with
    | nil => rfl
    | cons x l ih => simp only [List.map_cons, renR, renL, ren, shiftρ, Nat.add_zero, ih]
  · exact List.map_congr_left fun r _ => by simp only [Function.comp, rowB, renB, renR_ints]
where congrArg₂' {a b : Blk} {l m : List Blk} (h1 : a = b) (h2 : l = m) : a :: l = b :: m := by rw [h1, h2]
theorem rfy_row {H : List Blk} {id z d : Nat} {own : Bool} {xs : List Int} (h : H[id]? = some (.cells own false 1 (xs.map fun x => [i64 x]))) (hl : xs.length = z) : rfy (hget H) (d + 2) (.lsl id 0 z) = ints false xs := by
  have e : hget H id = .cells own false 1 (xs.map fun x => [i64 x]) := by unfold hget; rw [h]; rfl
  simp only [rfy, e]
  rw [if_pos (by simp; omega)]
  simp only [List.drop_zero]
  rw [List.take_of_length_le (by simp; omega), List.map_map]
  exact congrArg (AV.sl false 1) (List.map_congr_left fun x _ => rfl)
theorem tab_rfy {z : Nat} {M : List (List Int)} {H : List Blk} (h : IsTb z M H) (hM : Sq z M) : rfy (hget H) 6 (.lsl 0 0 z) = tblV M := by
  obtain ⟨o, h1⟩ := h.t
  have e : hget H 0 = .cells o false 1 ((List.range z).map fun i => [AV.lsl (1 + i) 0 z]) := by unfold hget; rw [h1]; rfl
  unfold rfy
  rw [e]
  dsimp only
  rw [if_pos (by simp), List.drop_zero, List.take_of_length_le (by simp), List.map_map]
  refine congrArg (AV.sl false 1) ?_
  refine List.ext_getElem (by simp [hM.hl]) fun i h2 h3 => ?_
  simp only [List.length_map, List.length_range] at h2
  obtain ⟨o2, h4⟩ := h.r i h2
  have h5 := rfy_row (d := 3) h4 (hM.hr i h2)
  simp only [List.getElem_map, List.getElem_range, Function.comp, List.map_cons, List.map_nil, h5]
  refine congrArg (fun r => [ints false r]) ?_
  simp [List.getD, hM.hl, h2]
theorem lids_row {H : List Blk} {id z d : Nat} {own : Bool} {xs : List Int} (h : H[id]? = some (.cells own false 1 (xs.map fun x => [i64 x]))) : lids (hget H) (d + 2) (.lsl id 0 z) = [id] := by
  have e : hget H id = .cells own false 1 (xs.map fun x => [i64 x]) := by unfold hget; rw [h]; rfl
  simp only [lids, e]
  refine congrArg (id :: ·) ?_
  rw [List.flatMap_eq_nil_iff]
  intro r hr
  obtain ⟨x, _, rfl⟩ := List.mem_map.1 (List.mem_of_mem_drop (List.mem_of_mem_take hr))
  rfl
theorem tab_lids {z : Nat} {M : List (List Int)} {H : List Blk} (h : IsTb z M H) (j : Nat) (hj : j ∈ lids (hget H) 6 (.lsl 0 0 z)) : j ≤ z := by
  obtain ⟨o, h1⟩ := h.t
  have e : hget H 0 = .cells o false 1 ((List.range z).map fun i => [AV.lsl (1 + i) 0 z]) := by unfold hget; rw [h1]; rfl
  unfold lids at hj
  rw [e] at hj
  simp only [List.mem_cons, List.mem_flatMap] at hj
  rcases hj with rfl | ⟨r, hr, v, hv, hjv⟩
  · omega
  · have hr2 : r ∈ (List.range z).map fun i => [AV.lsl (1 + i) 0 z] := List.mem_of_mem_drop (List.mem_of_mem_take hr)
    obtain ⟨i, hi, rfl⟩ := List.mem_map.1 hr2
    have hi2 := List.mem_range.1 hi
    simp only [List.mem_cons, List.not_mem_nil, or_false] at hv
    subst hv
    obtain ⟨o2, h4⟩ := h.r i hi2
    rw [lids_row (d := 3) h4] at hjv
    simp at hjv
    omega
end Go.Abs
