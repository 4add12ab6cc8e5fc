import Derived.Test.YtodheeifecoebaaGreatDoorK703x
set_option linter.all false
set_option linter.unusedVariables false
set_option linter.unusedSimpArgs false
set_option linter.unusedSectionVars false
namespace Go.Abs
open Go.Proofs
theorem lenS_map {l : List ByteArray} : (l.map fun x => [strV x]).length = l.length := List.length_map _
theorem renR_txt (ρ : Nat → Option Nat) (l : List ByteArray) : renR ρ (l.map fun x => [strV x]) = l.map fun x => [strV x] := renR_plain ρ _ (plainR_map _ (fun _ => rfl) l)
set_option maxHeartbeats 8000000 in
theorem k13a {s : ByteArray} (h5 : (pieces s ⟨#[32]⟩).length ≠ 5) (hz : s.size ≤ 1000) : Fn Tryz.prog 13 [strV s] (.tup [mr0, i64 7]) [] := by
  refine fn_of e13 ?_
  have h32 := k32 s ⟨#[32]⟩ (by omega) (by rw [size_strlit]; omega)
  have hl := lenS_map (l := pieces s ⟨#[32]⟩)
  generalize pieces s ⟨#[32]⟩ = ps at *
  have hne : decide ((ps.length : Int) ≠ 5) = true := by simp; omega
  have hne2 : ((ps.length : Int) != 5) = true := by simp; omega
  unfold c13
  repeat' (first | ((with_reducible refine T_calm ?_ ?_); rfl) | (with_reducible first | refine T_seq ?_ | refine T_reg ?_ | refine T_draw ?_ | refine T_skip ?_ | refine T_exit ?_ | refine T_block ?_ | refine T_cond_t rfl ?_ | refine T_cond_f rfl ?_ | refine wdW_cons rfl ?_ | (show wcall _ false (.lit (.func (.func 32) _ _)) _ _ _ _; refine wcall_fn (h32) rfl (by simp [plainL, plain]) ?_) | (show wcallX _ false (.lit (.func (.func 32) _ _)) _ _ _ _; refine wcallX_fn (h32) rfl (by simp [plainL, plain, plainR, hl, renR_txt]) ?_) | refine T_ret ?_ | refine leave_of (.inr rfl) _ rfl ?_ | refine leave_of (.inl rfl) _ rfl ?_ | refine wif_intro ?_ (fun hc => ?_) | refine And.intro ?_ ?_ | intro hc) | simp (maxSteps := 4000000) only [wops_nil, wops_cons, wstep_none, wstep_some, wguard_tf, wrun_call, wrun_mv, wrun_pick, wrun_bin, wrun_build, wrun_store, wrun_len, wrun_alloc, get_mk, wop, aop, ev, look, put_some, put_none, writes, ores_some, ores_map, ores_bind, binV, thenK, intV, lenOf, cut, hget, fillA, putCells, AV.parts, isOne, toLits, mkAgg, tupOf, ofValue_int, ofValue_str, List.map_cons, List.map_nil, List.length_cons, List.length_nil, List.getElem?_cons_zero, List.set_cons_zero, List.take_succ_cons, List.take_zero, List.take_nil, List.drop_succ_cons, List.drop_zero, List.drop_nil, List.nil_append, List.append_nil, List.replicate_zero, List.replicate_succ, List.getD_cons_zero, List.zipIdx_cons, List.zipIdx_nil, List.all_cons, List.all_nil, Option.pure_def, Option.bind_eq_bind, Option.getD_some, Option.map_some, if_true, if_false, Nat.reduceEqDiff, Nat.reduceAdd, Nat.reduceLT, Nat.add_zero, Nat.zero_add, Nat.le_refl, reduceCtorEq, Bool.and_true, eq_self, true_and, and_self, freeze, lidsL, lids, List.flatMap_cons, List.flatMap_nil, List.all_cons, ren, renL, renR_txt, *] | simp (disch := omega) only [getD_ints, wrapI] | (with_reducible show wcall _ false (.lit (.func (.func 32) _ _)) _ _ _ _; refine wcall_fn (h32) ?_ ?_ ?_; (next => simp [rfyL, rfy, hget, ints, take_rfy, hl, renR_txt]); (next => simp [plainL, plain, plainR, hl, renR_txt])) | (with_reducible show wcallX _ false (.lit (.func (.func 32) _ _)) _ _ _ _; refine wcallX_fn (h32) ?_ ?_ ?_; (next => simp [rfyL, rfy, hget, ints, take_rfy, hl, renR_txt]); (next => simp [plainL, plain, plainR, hl, renR_txt])) | omega)
set_option maxHeartbeats 8000000 in
theorem k13b {s : ByteArray} (h5 : (pieces s ⟨#[32]⟩).length = 5) (hz : s.size ≤ 1000) (hn : decide (0 ≤ Lib.indexByte s.data.toList 10) = true) : Fn Tryz.prog 13 [strV s] (.tup [mr0, i64 7]) [] := by
  refine fn_of e13 ?_
  have h32 := k32 s ⟨#[32]⟩ (by omega) (by rw [size_strlit]; omega)
  have h33 := k33 s 10
  rw [hn] at h33
  have hl := lenS_map (l := pieces s ⟨#[32]⟩)
  rw [h5] at hl
  generalize pieces s ⟨#[32]⟩ = ps at *
  clear hn h5
  unfold c13
  repeat' (first | ((with_reducible refine T_calm ?_ ?_); rfl) | (with_reducible first | refine T_seq ?_ | refine T_reg ?_ | refine T_draw ?_ | refine T_skip ?_ | refine T_exit ?_ | refine T_block ?_ | refine T_cond_t rfl ?_ | refine T_cond_f rfl ?_ | refine wdW_cons rfl ?_ | (show wcall _ false (.lit (.func (.func 32) _ _)) _ _ _ _; refine wcall_fn (h32) rfl (by simp [plainL, plain]) ?_) | (show wcallX _ false (.lit (.func (.func 32) _ _)) _ _ _ _; refine wcallX_fn (h32) rfl (by simp [plainL, plain, plainR, hl, nc5, renR_txt]) ?_) | (show wcall _ false (.lit (.func (.func 33) _ _)) _ _ _ _; refine wcall_fn (h33) rfl (by simp [plainL, plain]) ?_) | (show wcallX _ false (.lit (.func (.func 33) _ _)) _ _ _ _; refine wcallX_fn (h33) rfl (by simp [plainL, plain, plainR, hl, nc5, renR_txt]) ?_) | ((first | refine T_cond rfl (fun hc => ?_) (fun hc => ?_) | refine wguard_split (fun hc => ?_) (fun hc => ?_) | refine wguardX_split (fun hc => ?_) (fun hc => ?_)) <;> have hd := hc <;> (try simp (disch := omega) only [wrapI] at hd) <;> have hs := hd <;> (try simp only [bne_iff_ne, bne_eq_false_iff_eq, Bool.not_false, ne_eq] at hd) <;> (try simp at hs)) | refine T_ret ?_ | refine leave_of (.inr rfl) _ rfl ?_ | refine leave_of (.inl rfl) _ rfl ?_ | refine wif_intro ?_ (fun hc => ?_) | refine And.intro ?_ ?_ | intro hc) | simp (maxSteps := 4000000) only [wops_nil, wops_cons, wstep_none, wstep_some, wguard_ff, wrun_call, wrun_mv, wrun_pick, wrun_bin, wrun_build, wrun_store, wrun_len, wrun_alloc, get_mk, wop, aop, ev, look, put_some, put_none, writes, ores_some, ores_map, ores_bind, binV, thenK, intV, lenOf, cut, hget, fillA, putCells, AV.parts, isOne, toLits, mkAgg, tupOf, ofValue_int, ofValue_str, List.map_cons, List.map_nil, List.length_cons, List.length_nil, List.getElem?_cons_zero, List.set_cons_zero, List.take_succ_cons, List.take_zero, List.take_nil, List.drop_succ_cons, List.drop_zero, List.drop_nil, List.nil_append, List.append_nil, List.replicate_zero, List.replicate_succ, List.getD_cons_zero, List.zipIdx_cons, List.zipIdx_nil, List.all_cons, List.all_nil, Option.pure_def, Option.bind_eq_bind, Option.getD_some, Option.map_some, if_true, if_false, Nat.reduceEqDiff, Nat.reduceAdd, Nat.reduceLT, Nat.add_zero, Nat.zero_add, Nat.le_refl, reduceCtorEq, Bool.and_true, Bool.false_eq_true, eq_self, true_and, and_self, freeze, lidsL, lids, List.flatMap_cons, List.flatMap_nil, List.all_cons, ren, renL, nc5, renR_txt, *] | simp (disch := omega) only [getD_ints, wrapI] | (with_reducible show wcall _ false (.lit (.func (.func 32) _ _)) _ _ _ _; refine wcall_fn (h32) ?_ ?_ ?_; (next => simp [rfyL, rfy, hget, ints, take_rfy, hl, nc5, renR_txt]); (next => simp [plainL, plain, plainR, hl, nc5, renR_txt])) | (with_reducible show wcallX _ false (.lit (.func (.func 32) _ _)) _ _ _ _; refine wcallX_fn (h32) ?_ ?_ ?_; (next => simp [rfyL, rfy, hget, ints, take_rfy, hl, nc5, renR_txt]); (next => simp [plainL, plain, plainR, hl, nc5, renR_txt])) | (with_reducible show wcall _ false (.lit (.func (.func 33) _ _)) _ _ _ _; refine wcall_fn (h33) ?_ ?_ ?_; (next => simp [rfyL, rfy, hget, ints, take_rfy, hl, nc5, renR_txt]); (next => simp [plainL, plain, plainR, hl, nc5, renR_txt])) | (with_reducible show wcallX _ false (.lit (.func (.func 33) _ _)) _ _ _ _; refine wcallX_fn (h33) ?_ ?_ ?_; (next => simp [rfyL, rfy, hget, ints, take_rfy, hl, nc5, renR_txt]); (next => simp [plainL, plain, plainR, hl, nc5, renR_txt])) | omega)
set_option maxHeartbeats 8000000 in
theorem k13 {s : ByteArray} (hz : s.size ≤ 1000) (hw : ∀ w ∈ pieces s ⟨#[32]⟩, w.size ≤ 1000) : Fn Tryz.prog 13 [strV s] (prsV (i64 0) (i64 7) (prsR s)) [] := by
  unfold prsR
  by_cases h5 : (pieces s ⟨#[32]⟩).length = 5
  · by_cases hn : 0 ≤ Lib.indexByte s.data.toList 10
    · rw [if_pos hn]
      exact k13b h5 hz (by simpa using hn)
    · rw [if_neg hn]
      obtain ⟨w0, w1, w2, w3, w4, hp⟩ := five h5
      rw [hp] at hw ⊢
      exact k13p (fun w hx => hw w (List.mem_cons_of_mem _ hx)) hp hz (by simpa using hn)
  · rw [prsL_len h5, ite_self]
    exact k13a h5 hz
end Go.Abs
