import Derived.Test.YtodheeifecoebaaK52x
import Derived.Test.YtodheeifecoebaaK97x
set_option linter.all false
set_option linter.unusedVariables false
set_option linter.unusedSimpArgs false
set_option linter.unusedSectionVars false
namespace Go.Abs
open Go.Proofs
/-- a table in memory, from block o on -/
structure IsTo (o z : Nat) (M : List (List Int)) (H : List Blk) : Prop where
  t : ∃ own, H[o]? = some (.cells own false 1 ((List.range z).map fun i => [AV.lsl (o + 1 + i) 0 z]))
  r : ∀ i, i < z → ∃ own, H[o + 1 + i]? = some (.cells own false 1 ((M.getD i []).map fun x => [i64 x]))
theorem IsTo.freeze {o z : Nat} {M : List (List Int)} {H : List Blk} (h : IsTo o z M H) (ids : List Nat) : IsTo o z M (freeze H ids) := by
  obtain ⟨w, h1⟩ := h.t
  refine ⟨freeze_at ids H o h1, fun i hi => ?_⟩
  obtain ⟨w2, h2⟩ := h.r i hi
  exact freeze_at ids H (o + 1 + i) h2
theorem IsTo.app {o z : Nat} {M : List (List Int)} {H : List Blk} (h : IsTo o z M H) (X : List Blk) : IsTo o z M (H ++ X) := by
  obtain ⟨w, h1⟩ := h.t
  refine ⟨⟨w, at_app h1 X⟩, fun i hi => ?_⟩
  obtain ⟨w2, h2⟩ := h.r i hi
  exact ⟨w2, at_app h2 X⟩
theorem IsTo.set {o z : Nat} {M : List (List Int)} {H : List Blk} (h : IsTo o z M H) {j : Nat} (hj : j < o ∨ o + z < j) (b : Blk) : IsTo o z M (H.set j b) := by
  obtain ⟨w, h1⟩ := h.t
  refine ⟨⟨w, by rw [List.getElem?_set_ne (by omega)]; exact h1⟩, fun i hi => ?_⟩
  obtain ⟨w2, h2⟩ := h.r i hi
  exact ⟨w2, by rw [List.getElem?_set_ne (by omega)]; exact h2⟩
theorem tab_at {z : Nat} {M : List (List Int)} (hM : M.length = z) (X : List Blk) : IsTo X.length z M (X ++ (tabB M z).map (renB (shiftρ X.length))) := by
  have e : (tabB M z).map (renB (shiftρ X.length)) = .cells true false 1 ((List.range z).map fun i => [AV.lsl (X.length + 1 + i) 0 z]) :: M.map rowB := by
    unfold tabB
    simp only [List.map_cons, List.map_map]
    have h1 : renB (shiftρ X.length) (.cells true false 1 ((List.range z).map fun i => [AV.lsl (1 + i) 0 z])) = .cells true false 1 ((List.range z).map fun i => [AV.lsl (X.length + 1 + i) 0 z]) := by
      simp only [renB]
      refine congrArg (Blk.cells true false 1) ?_
      induction (List.range z) with
      | nil => rfl
      | cons x l ih =>
        have hx : 1 + x + X.length = X.length + 1 + x := by omega
        simp only [List.map_cons, renR, renL, ren, shiftρ, ih, hx]
    rw [h1]
    refine congrArg (_ :: ·) (List.map_congr_left fun r _ => by simp only [Function.comp, rowB, renB, renR_ints])
  rw [e]
  refine ⟨⟨true, by rw [List.getElem?_append_right (Nat.le_refl _), Nat.sub_self]; rfl⟩, fun i hi => ⟨true, ?_⟩⟩
  rw [List.getElem?_append_right (by omega), show X.length + 1 + i - X.length = i + 1 by omega]
  show (M.map rowB)[i]? = _
  simp [List.getD, hM, hi, rowB]
end Go.Abs
namespace Go.Abs
open Go.Proofs
/-! the table of readings that agree -/
theorem leave_tabQ2 {z : Nat} {M : List (List Int)} (hs : Sq z M) (s : List (Nat × AV)) (h4 : look s 4 = .lsl 0 0 z) (h5 : look s 5 = i64 0) : leave 0 [ARes.tmp 4, ARes.tmp 5] (fun r' H' => r' = AV.tup [AV.lsl 0 0 z, i64 0] ∧ H' = tabB M z) .ret ⟨s, tabB M z⟩ := by
  have hH : IsQ z M (tabB M z) := ⟨rfl, fun i hi => by
    rw [show 1 + i = i + 1 by omega]
    show (M.map rowB)[i]? = _
    simp [List.getD, hs.hl, hi, rowB]⟩
  refine leave_ids (.inr rfl) [.lsl 0 0 z, i64 0] (List.range (z + 1)) ?_ (fun id hid => ?_) List.nodup_range ⟨?_, leave_tq hH hs⟩
  · simp [resL, resAV, St.get, h4, h5]
  · have := List.mem_range.1 hid
    show id < (tabB M z).length
    simp [tabB, hs.hl]; omega
  · have : keepρ 0 (List.range (z + 1)) 0 = some 0 := by
      unfold keepρ
      rw [if_neg (by omega), pos_rng (by omega)]
      rfl
    simp [tupOf, ren, renL, this]
end Go.Abs
namespace Go.Abs
open Go.Proofs
end Go.Abs
namespace Go.Abs
open Go.Proofs
/-! the specification's enclosure -/
def erD (xs : List (Int × Int)) : List (List AV) := xs.map fun p => [i64 p.1, i64 p.2]
theorem erD_len (xs : List (Int × Int)) : (erD xs).length = xs.length := by simp [erD]
end Go.Abs
namespace Go.Abs
open Go.Proofs
theorem erD_get {xs : List (Int × Int)} {k : Nat} (h : k < xs.length) : (erD xs).getD k [] = [i64 (xs.getD k (0, 0)).1, i64 (xs.getD k (0, 0)).2] := by simp [erD, List.getD, h]
/-! two lists of ranges that are equal -/
set_option maxHeartbeats 8000000 in
theorem k50 (n1 n2 : Bool) (xs : List (Int × Int)) (hl : xs.length < 1000000) : Fn Try.prog 50 [.sl n1 2 (erD xs), .sl n2 2 (erD xs)] (bl true) [] := by
  refine fn_of e50 ?_
  have hel := erD_len xs
  unfold c50
  repeat' (first | ((with_reducible refine T_calm ?_ ?_); rfl) | (with_reducible first | refine T_seq ?_ | refine T_reg ?_ | refine T_draw ?_ | refine T_skip ?_ | refine T_exit ?_ | refine T_block ?_ | refine T_cond_t rfl ?_ | refine T_cond_f rfl ?_ | refine wdW_cons rfl ?_ | ((first | refine T_cond rfl (fun hc => ?_) (fun hc => ?_) | refine wguard_split (fun hc => ?_) (fun hc => ?_) | refine wguardX_split (fun hc => ?_) (fun hc => ?_)) <;> have hd := hc <;> (try simp (disch := omega) only [wrapI] at hd) <;> have hs := hd <;> (try simp only [bne_iff_ne, bne_eq_false_iff_eq, ne_eq] at hd) <;> (try simp at hs)) | refine T_ret ?_ | refine leave_of (.inr rfl) _ rfl ?_ | refine leave_of (.inl rfl) _ rfl ?_ | refine leaveA_of (.inr rfl) _ rfl ?_ | refine leaveA_of (.inl rfl) _ rfl ?_ | refine wif_intro ?_ (fun hc => ?_) | refine And.intro ?_ ?_ | intro hc) | simp (maxSteps := 4000000) only [wops_nil, wops_cons, wstep_none, wrun_mv, wrun_bin, wrun_len, wop, aop, ev, look, put_some, writes, ores_some, ores_map, ores_bind, binV, thenK, intV, lenOf, hget, List.map_cons, List.map_nil, List.length_nil, List.append_nil, List.replicate_zero, List.zipIdx_cons, List.zipIdx_nil, Option.pure_def, Option.bind_eq_bind, Option.map_some, if_true, if_false, Nat.reduceEqDiff, Nat.reduceAdd, Nat.zero_add, Nat.zero_ne_one, reduceCtorEq, eq_self, *] | simp (disch := omega) only [getD_ints, wrapI] | omega)
  refine T_for [0, 1, 5] (fun k => ⟨[(0, .sl n1 2 (erD xs)), (1, .sl n2 2 (erD xs)), (5, i64 k)], []⟩) xs.length (fun _ => True) 0 rfl trivial (Nat.zero_le _) ?_
  intro k hk _
  unfold c50l0
  by_cases hkz : k < xs.length
  · have hg := erD_get hkz
    repeat' (first | ((with_reducible refine T_calm ?_ ?_); rfl) | (with_reducible first | refine T_seq ?_ | refine T_reg ?_ | refine T_draw ?_ | refine T_skip ?_ | refine T_exit ?_ | refine T_block ?_ | refine T_cond_t rfl ?_ | refine T_cond_f rfl ?_ | refine wdW_cons rfl ?_ | ((first | refine T_cond rfl (fun hc => ?_) (fun hc => ?_) | refine wguard_split (fun hc => ?_) (fun hc => ?_) | refine wguardX_split (fun hc => ?_) (fun hc => ?_)) <;> have hd := hc <;> (try simp (disch := omega) only [wrapI] at hd) <;> have hs := hd <;> (try simp only [decide_eq_true_eq, decide_eq_false_iff_not, Int.not_lt] at hd) <;> (try simp at hs)) | refine T_ret ?_ | refine leave_of (.inr rfl) _ rfl ?_ | refine leave_of (.inl rfl) _ rfl ?_ | refine leaveA_of (.inr rfl) _ rfl ?_ | refine leaveA_of (.inl rfl) _ rfl ?_ | refine wif_intro ?_ (fun hc => ?_) | refine And.intro ?_ ?_ | intro hc) | simp (maxSteps := 4000000) only [wops_nil, wops_cons, wstep_none, wrun_mv, wrun_bin, wrun_eqAgg, wrun_load, wrun_iaddrS, wrun_len, get_mk, wop, aop, ev, look, put_some, writes, ores_some, ores_ite_none, ores_map, ores_bind, binV, thenK, blockK, boolV, intV, lenOf, value, cut, hget, toLits, mkAgg, tupOf, cellsEq, cellEq, List.map_cons, List.map_nil, List.length_cons, List.length_nil, List.take_succ_cons, List.take_nil, List.drop_zero, List.append_nil, List.replicate_zero, Option.pure_def, Option.bind_eq_bind, Option.map_some, if_true, if_false, Nat.reduceEqDiff, Nat.reduceAdd, Nat.zero_add, Nat.zero_ne_one, reduceCtorEq, Bool.not_true, eq_self, true_and, and_true, and_self, decide_true, beq_self_eq_true, ren, Int.toNat_natCast, *] | simp (disch := omega) only [wrapI] | omega)
    all_goals exact rfl
  · skip
    repeat' (first | ((with_reducible refine T_calm ?_ ?_); rfl) | (with_reducible first | refine T_seq ?_ | refine T_reg ?_ | refine T_draw ?_ | refine T_skip ?_ | refine T_exit ?_ | refine T_block ?_ | refine T_cond_t rfl ?_ | refine T_cond_f rfl ?_ | refine wdW_cons rfl ?_ | ((first | refine T_cond rfl (fun hc => ?_) (fun hc => ?_) | refine wguard_split (fun hc => ?_) (fun hc => ?_) | refine wguardX_split (fun hc => ?_) (fun hc => ?_)) <;> have hd := hc <;> (try simp (disch := omega) only [wrapI] at hd) <;> have hs := hd <;> (try simp only [decide_eq_true_eq, decide_eq_false_iff_not, Int.not_lt] at hd) <;> (try simp at hs)) | refine T_ret ?_ | refine leave_of (.inr rfl) _ rfl ?_ | refine leave_of (.inl rfl) _ rfl ?_ | refine leaveA_of (.inr rfl) _ rfl ?_ | refine leaveA_of (.inl rfl) _ rfl ?_ | refine wif_intro ?_ (fun hc => ?_) | refine And.intro ?_ ?_ | intro hc) | simp (maxSteps := 4000000) only [wops_nil, wops_cons, wstep_none, wrun_mv, wrun_bin, wrun_eqAgg, wrun_load, wrun_iaddrS, wrun_len, get_mk, wop, aop, ev, look, put_some, writes, ores_some, ores_none, ores_ite_none, ores_map, ores_bind, binV, thenK, blockK, boolV, intV, lenOf, value, cut, hget, mkAgg, tupOf, List.map_cons, List.map_nil, List.length_nil, List.drop_zero, List.append_nil, List.replicate_zero, Option.pure_def, Option.bind_eq_bind, Option.map_some, if_true, if_false, Nat.reduceEqDiff, Nat.zero_ne_one, reduceCtorEq, eq_self, and_true, and_self, false_and, decide_true, ren, *] | simp (disch := omega) only [getD_ints] | omega)
end Go.Abs
