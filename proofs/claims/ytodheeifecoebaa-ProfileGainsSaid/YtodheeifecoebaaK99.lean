import Derived.Test.YtodheeifecoebaaK52x
import Derived.Test.YtodheeifecoebaaK98r
set_option linter.all false
set_option linter.unusedVariables false
set_option linter.unusedSimpArgs false
set_option linter.unusedSectionVars false
namespace Go.Abs
open Go.Proofs
/-- a table in memory, from block o on -/
structure IsTo (o z : Nat) (M : List (List Int)) (H : List Blk) : Prop where
  t : ∃ own, H[o]? = some (.cells own false 1 ((List.range z).map fun i => [AV.lsl (o + 1 + i) 0 z]))
  r : ∀ i, i < z → ∃ own, H[o + 1 + i]? = some (.cells own false 1 ((M.getD i []).map fun x => [i64 x]))
theorem IsTo.freeze {o z : Nat} {M : List (List Int)} {H : List Blk} (h : IsTo o z M H) (ids : List Nat) : IsTo o z M (freeze H ids) := by
  obtain ⟨w, h1⟩ := h.t
  refine ⟨freeze_at ids H o h1, fun i hi => ?_⟩
  obtain ⟨w2, h2⟩ := h.r i hi
  exact freeze_at ids H (o + 1 + i) h2
theorem IsTo.app {o z : Nat} {M : List (List Int)} {H : List Blk} (h : IsTo o z M H) (X : List Blk) : IsTo o z M (H ++ X) := by
  obtain ⟨w, h1⟩ := h.t
  refine ⟨⟨w, at_app h1 X⟩, fun i hi => ?_⟩
  obtain ⟨w2, h2⟩ := h.r i hi
  exact ⟨w2, at_app h2 X⟩
theorem IsTo.set {o z : Nat} {M : List (List Int)} {H : List Blk} (h : IsTo o z M H) {j : Nat} (hj : j < o ∨ o + z < j) (b : Blk) : IsTo o z M (H.set j b) := by
  obtain ⟨w, h1⟩ := h.t
  refine ⟨⟨w, by rw [List.getElem?_set_ne (by omega)]; exact h1⟩, fun i hi => ?_⟩
  obtain ⟨w2, h2⟩ := h.r i hi
  exact ⟨w2, by rw [List.getElem?_set_ne (by omega)]; exact h2⟩
theorem tab_at {z : Nat} {M : List (List Int)} (hM : M.length = z) (X : List Blk) : IsTo X.length z M (X ++ (tabB M z).map (renB (shiftρ X.length))) := by
  have e : (tabB M z).map (renB (shiftρ X.length)) = .cells true false 1 ((List.range z).map fun i => [AV.lsl (X.length + 1 + i) 0 z]) :: M.map rowB := by
    unfold tabB
    simp only [List.map_cons, List.map_map]
    have h1 : renB (shiftρ X.length) (.cells true false 1 ((List.range z).map fun i => [AV.lsl (1 + i) 0 z])) = .cells true false 1 ((List.range z).map fun i => [AV.lsl (X.length + 1 + i) 0 z]) := by
      simp only [renB]
      refine congrArg (Blk.cells true false 1) ?_
      induction (List.range z) with
      | nil => rfl
      | cons x l ih =>
        have hx : 1 + x + X.length = X.length + 1 + x := by omega
        simp only [List.map_cons, renR, renL, ren, shiftρ, ih, hx]
    rw [h1]
    refine congrArg (_ :: ·) (List.map_congr_left fun r _ => by simp only [Function.comp, rowB, renB, renR_ints])
  rw [e]
  refine ⟨⟨true, by rw [List.getElem?_append_right (Nat.le_refl _), Nat.sub_self]; rfl⟩, fun i hi => ⟨true, ?_⟩⟩
  rw [List.getElem?_append_right (by omega), show X.length + 1 + i - X.length = i + 1 by omega]
  show (M.map rowB)[i]? = _
  simp [List.getD, hM, hi, rowB]
theorem to_rfy {o z : Nat} {M : List (List Int)} {H : List Blk} (h : IsTo o z M H) (hM : Sq z M) : rfy (hget H) 6 (.lsl o 0 z) = tblV M := by
  obtain ⟨w, h1⟩ := h.t
  have e : hget H o = .cells w false 1 ((List.range z).map fun i => [AV.lsl (o + 1 + i) 0 z]) := by unfold hget; rw [h1]; rfl
  unfold rfy
  rw [e]
  dsimp only
  rw [if_pos (by simp), List.drop_zero, List.take_of_length_le (by simp), List.map_map]
  refine congrArg (AV.sl false 1) ?_
  refine List.ext_getElem (by simp [hM.hl]) fun i h2 h3 => ?_
  simp only [List.length_map, List.length_range] at h2
  obtain ⟨w2, h4⟩ := h.r i h2
  have h5 := rfy_row (d := 3) h4 (hM.hr i h2)
  simp only [List.getElem_map, List.getElem_range, Function.comp, List.map_cons, List.map_nil, h5]
  refine congrArg (fun r => [ints false r]) ?_
  simp [List.getD, hM.hl, h2]
theorem to_lids {o z : Nat} {M : List (List Int)} {H : List Blk} (h : IsTo o z M H) (j : Nat) (hj : j ∈ lids (hget H) 6 (.lsl o 0 z)) : o ≤ j ∧ j ≤ o + z := by
  obtain ⟨w, h1⟩ := h.t
  have e : hget H o = .cells w false 1 ((List.range z).map fun i => [AV.lsl (o + 1 + i) 0 z]) := by unfold hget; rw [h1]; rfl
  unfold lids at hj
  rw [e] at hj
  simp only [List.mem_cons, List.mem_flatMap] at hj
  rcases hj with rfl | ⟨r, hr, v, hv, hjv⟩
  · omega
  · have hr2 : r ∈ (List.range z).map fun i => [AV.lsl (o + 1 + i) 0 z] := List.mem_of_mem_drop (List.mem_of_mem_take hr)
    obtain ⟨i, hi, rfl⟩ := List.mem_map.1 hr2
    have hi2 := List.mem_range.1 hi
    simp only [List.mem_cons, List.not_mem_nil, or_false] at hv
    subst hv
    obtain ⟨w2, h4⟩ := h.r i hi2
    rw [lids_row (d := 3) h4] at hjv
    simp at hjv
    omega
end Go.Abs
namespace Go.Abs
open Go.Proofs
set_option maxHeartbeats 8000000 in
theorem k119c {z : Nat} {nil : Bool} {l : List Rd} (h : checkR z l = 0) (hcyc : ∀ r, r ≤ z → 0 ≤ (rnds (arcsL l l.length) z (r + 1)).at_) : Fn Try.prog 119 [i64 z, rdgs nil l] (.tup [.sl true 0 [], i64 13]) [] := by
  obtain ⟨hz, hl, hrd⟩ := checkR_ok h
  obtain ⟨hA, hN, hok⟩ := arcs_ok hrd
  have hn : (arcsL l l.length).length ≤ 200 := by have := arcsL_len l l.length; omega
  have hne : arcsL l l.length ≠ [] := fun e => by
    have := hcyc 0 (by omega)
    rw [e] at this
    exact absurd this (by show ¬ (0 : Int) ≤ -1; omega)
  obtain ⟨p, hp1, hp2, hp3, hp4, _⟩ := circle hA hN hn (by omega) (hcyc z (Nat.le_refl _))
  have h95 := k95 (nil := nil) (l := l) (A := arcsL l l.length) (z := z) hl hok (by omega) rfl hA hne (fun r hr hneg => by have := hcyc r hr; omega) (fun _ => ⟨p, hp1, hp2, hp3, hp4, rfl, rfl⟩)
  generalize (sgs (rnds (arcsL l l.length) z (z + 1)).by_ (bk (rnds (arcsL l l.length) z (z + 1)).by_ (rnds (arcsL l l.length) z (z + 1)).at_ z) p).reverse = xs at *
  have h89 := k89 z nil l (by omega)
  rw [h] at h89
  refine fn_of e119 ?_
  unfold c119
  clear hcyc hp3 hp4 hA hN hok hrd hne
  repeat' (first
    | with_reducible first
      | refine T_seq ?_
      | refine T_reg ?_
      | refine T_skip ?_
      | refine T_exit ?_
      | refine T_block ?_
      | refine T_cond_t rfl ?_
      | refine T_cond_f rfl ?_
      | (show wcall _ false (.lit (.func (.func 89) _ _)) _ _ _ _; refine wcall_fn (h89) rfl (by simp [plainL, plain]) ?_)
      | (show wcall _ false (.lit (.func (.func 95) _ _)) _ _ _ _; refine wcall_fn (h95) rfl (by simp [plainL, plain]) ?_)
      | ((first | refine T_cond rfl (fun hc => ?_) (fun hc => ?_) | refine wguard_split (fun hc => ?_) (fun hc => ?_)) <;> have hd := hc <;> (try simp (disch := omega) only [wrapI] at hd) <;> have hs := hd <;> (try simp only [Bool.not_eq_true', Bool.not_eq_false', Bool.and_eq_true, Bool.and_eq_false_iff, Bool.or_eq_true, Bool.or_eq_false_iff, decide_eq_true_eq, decide_eq_false_iff_not, beq_iff_eq, bne_iff_ne, beq_eq_false_iff_ne, bne_eq_false_iff_eq, Bool.not_true, Bool.not_false, gt_iff_lt, ge_iff_le, Int.not_lt, Int.not_le, ne_eq, Decidable.not_not] at hd) <;> (try simp at hs))
      | refine T_ret ?_
      | refine leave_of (.inr rfl) _ rfl ?_
      | refine leave_of (.inl rfl) _ rfl ?_
      | refine leaveA_of (.inr rfl) _ rfl ?_
      | refine leaveA_of (.inl rfl) _ rfl ?_
      | refine wif_intro ?_ (fun hc => ?_)
      | refine And.intro ?_ ?_
      | intro hc
    | simp (maxSteps := 4000000) only [wops_nil, wops_cons, wstep_none, wrun_call, wrun_mv, wrun_bin, wrun_eqNil, get_mk, wop, aop, ev, look, put_some, writes, ores_some, binV, thenK, boolV, hget, tupOf, List.map_cons, List.map_nil, List.length_cons, List.length_nil, List.getElem?_cons_zero, List.nil_append, List.append_nil, List.replicate_zero, List.zipIdx_cons, List.zipIdx_nil, Option.getD_some, Option.map_some, if_true, if_false, Nat.reduceEqDiff, Nat.reduceAdd, Nat.add_zero, Nat.zero_add, Nat.zero_ne_one, reduceCtorEq, Bool.not_false, eq_self, freeze, lidsL, lids, List.flatMap_cons, List.flatMap_nil, ren, renL, renR, renB, shiftρ, renR_ints, renR_ints, *]
    | simp (disch := omega) only [getD_ints, wrapI]
    | (with_reducible show wcall _ false (.lit (.func (.func 89) _ _)) _ _ _ _; refine wcall_fn (h89) ?_ ?_ ?_; (next => simp [rfyL, rfy, hget, ints, take_rfy, renR_ints]); (next => simp [plainL, plain, plainR, renR_ints]))
    | (with_reducible show wcall _ false (.lit (.func (.func 95) _ _)) _ _ _ _; refine wcall_fn (h95) ?_ ?_ ?_; (next => simp [rfyL, rfy, hget, ints, take_rfy, renR_ints]); (next => simp [plainL, plain, plainR, renR_ints]))
    | omega)
theorem to_frz {o z : Nat} {M : List (List Int)} {H : List Blk} (h : IsTo o z M H) (x y : Int) : IsTo o z M (freeze H (lidsL (hget H) [.lsl o 0 z, i64 x, i64 y])) ∧ ∀ j, (j < o ∨ o + z < j) → (freeze H (lidsL (hget H) [.lsl o 0 z, i64 x, i64 y]))[j]? = H[j]? := by
  refine ⟨h.freeze _, fun j hj => freeze_ne _ _ fun hm => ?_⟩
  simp only [lidsL, List.flatMap_cons, List.flatMap_nil, List.append_nil, List.mem_append] at hm
  rcases hm with hm | hm | hm
  · have := to_lids h j hm; omega
  · simp [lids] at hm
  · simp [lids] at hm
theorem to_re {o z : Nat} {M : List (List Int)} {H : List Blk} (h : IsTo o z M H) (hM : Sq z M) (x y : Int) : rfyL (hget H) [.lsl o 0 z, i64 x, i64 y] = [tblV M, i64 x, i64 y] := by
  simp only [rfyL, List.map_cons, List.map_nil, to_rfy h hM]; rfl
end Go.Abs
