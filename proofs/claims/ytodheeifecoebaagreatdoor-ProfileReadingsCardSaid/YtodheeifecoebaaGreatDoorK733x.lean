import Derived.Test.YtodheeifecoebaaGreatDoorK721
import Derived.Test.YtodheeifecoebaaGreatDoorK731x
set_option linter.all false
set_option linter.unusedVariables false
set_option linter.unusedSimpArgs false
set_option linter.unusedSectionVars false
namespace Go.Abs
open Go.Proofs
theorem fmt_size {m : ByteArray} {r : Rd} (hm : m.size ≤ 500) (hr : okM r) : (Lib.join ((words m r).map (·.data.toList)) [32]).length ≤ 900 ∧ (fmtR m r).size ≤ 900 := by
  have h : ∀ n, okI n → (itoaB n).data.toList.length ≤ 21 := fun n hn => Lib.itoa_length_le n hn.1 hn.2
  have a := h _ hr.1
  have b := h _ hr.2.1
  have c := h _ hr.2.2.1
  have d := h _ hr.2.2.2
  have e : (Lib.join ((words m r).map (·.data.toList)) [32]).length ≤ 900 := by
    rw [show (words m r).map (·.data.toList) = m.data.toList :: [(itoaB r.a).data.toList, (itoaB r.b).data.toList, (itoaB r.lo).data.toList, (itoaB r.hi).data.toList] from rfl, Lib.join_cons]
    have := ba_len m
    simp only [itoaB] at a b c d
    simp only [Lib.joinTail, List.map_cons, List.map_nil, List.flatten_cons, List.flatten_nil, List.length_append, List.length_cons, List.length_nil]
    omega
  refine ⟨e, ?_⟩
  rw [← ba_len]
  exact e
theorem fmt_app {m : ByteArray} {r : Rd} : fmtR m r = (((((((m ++ ⟨#[32]⟩) ++ itoaB r.a) ++ ⟨#[32]⟩) ++ itoaB r.b) ++ ⟨#[32]⟩) ++ itoaB r.lo) ++ ⟨#[32]⟩) ++ itoaB r.hi := by
  refine ba_ext ?_
  show Lib.join ((words m r).map (·.data.toList)) [32] = _
  simp only [words, List.map_cons, List.map_nil]
  rw [Lib.join_cons]
  simp only [ba_app]
  simp [Lib.joinTail]
set_option maxHeartbeats 8000000 in
theorem k15 {m : ByteArray} {r : Rd} (hm : m.size ≤ 1000) (hr : okM r) : Fn Tryz.prog 15 [mrd m r] (strV (fmtR m r)) [] := by
  refine fn_of e15 ?_
  have h : ∀ n, okI n → (itoaB n).size ≤ 21 := fun n hn => by rw [← ba_len]; exact Lib.itoa_length_le n hn.1 hn.2
  have a := h _ hr.1
  have b := h _ hr.2.1
  have c := h _ hr.2.2.1
  have d := h _ hr.2.2.2
  have h38a := k38 hr.1
  have h38b := k38 hr.2.1
  have h38c := k38 hr.2.2.1
  have h38d := k38 hr.2.2.2
  rw [fmt_app]
  clear h hr
  unfold c15
  generalize itoaB r.a = A at *
  generalize itoaB r.b = B at *
  generalize itoaB r.lo = C at *
  generalize itoaB r.hi = D at *
  have f0 : ¬ (((m).size + 1 : Nat) : Int) > 9223372036854775807 := by (try simp only [ByteArray.size_append, size_strlit]); omega
  have f1 : ¬ (((m ++ ⟨#[32]⟩).size + A.size : Nat) : Int) > 9223372036854775807 := by (try simp only [ByteArray.size_append, size_strlit]); omega
  have f2 : ¬ ((((m ++ ⟨#[32]⟩) ++ A).size + 1 : Nat) : Int) > 9223372036854775807 := by (try simp only [ByteArray.size_append, size_strlit]); omega
  have f3 : ¬ (((((m ++ ⟨#[32]⟩) ++ A) ++ ⟨#[32]⟩).size + B.size : Nat) : Int) > 9223372036854775807 := by (try simp only [ByteArray.size_append, size_strlit]); omega
  have f4 : ¬ ((((((m ++ ⟨#[32]⟩) ++ A) ++ ⟨#[32]⟩) ++ B).size + 1 : Nat) : Int) > 9223372036854775807 := by (try simp only [ByteArray.size_append, size_strlit]); omega
  have f5 : ¬ (((((((m ++ ⟨#[32]⟩) ++ A) ++ ⟨#[32]⟩) ++ B) ++ ⟨#[32]⟩).size + C.size : Nat) : Int) > 9223372036854775807 := by (try simp only [ByteArray.size_append, size_strlit]); omega
  have f6 : ¬ ((((((((m ++ ⟨#[32]⟩) ++ A) ++ ⟨#[32]⟩) ++ B) ++ ⟨#[32]⟩) ++ C).size + 1 : Nat) : Int) > 9223372036854775807 := by (try simp only [ByteArray.size_append, size_strlit]); omega
  have f7 : ¬ (((((((((m ++ ⟨#[32]⟩) ++ A) ++ ⟨#[32]⟩) ++ B) ++ ⟨#[32]⟩) ++ C) ++ ⟨#[32]⟩).size + D.size : Nat) : Int) > 9223372036854775807 := by (try simp only [ByteArray.size_append, size_strlit]); omega
  repeat' (first | ((with_reducible refine T_calm ?_ ?_); rfl) | (with_reducible first | refine T_seq ?_ | refine T_reg ?_ | refine T_draw ?_ | refine T_skip ?_ | refine T_exit ?_ | refine T_block ?_ | refine T_cond_t rfl ?_ | refine T_cond_f rfl ?_ | refine wdW_cons rfl ?_ | (show wcall _ false (.lit (.func (.func 38) _ _)) _ _ _ _; refine wcall_fn (h38a) rfl (by simp [plainL, plain, plainR, i64max, size_strlit]) ?_) | (show wcallX _ false (.lit (.func (.func 38) _ _)) _ _ _ _; refine wcallX_fn (h38a) rfl (by simp [plainL, plain]) ?_) | (show wcall _ false (.lit (.func (.func 38) _ _)) _ _ _ _; refine wcall_fn (h38b) rfl (by simp [plainL, plain, plainR, i64max, size_strlit]) ?_) | (show wcallX _ false (.lit (.func (.func 38) _ _)) _ _ _ _; refine wcallX_fn (h38b) rfl (by simp [plainL, plain]) ?_) | (show wcall _ false (.lit (.func (.func 38) _ _)) _ _ _ _; refine wcall_fn (h38c) rfl (by simp [plainL, plain, plainR, i64max, size_strlit]) ?_) | (show wcallX _ false (.lit (.func (.func 38) _ _)) _ _ _ _; refine wcallX_fn (h38c) rfl (by simp [plainL, plain]) ?_) | (show wcall _ false (.lit (.func (.func 38) _ _)) _ _ _ _; refine wcall_fn (h38d) rfl (by simp [plainL, plain, plainR, i64max, size_strlit]) ?_) | (show wcallX _ false (.lit (.func (.func 38) _ _)) _ _ _ _; refine wcallX_fn (h38d) rfl (by simp [plainL, plain]) ?_) | refine T_ret ?_ | refine leave_of (.inr rfl) _ rfl ?_ | refine leave_of (.inl rfl) _ rfl ?_ | refine wif_intro ?_ (fun hc => ?_) | refine And.intro ?_ ?_ | intro hc) | simp (maxSteps := 4000000) only [wops_nil, wops_cons, wstep_none, wrun_mv, wrun_bin, wrun_load, wrun_store, wrun_faddr, wrun_alloc, wrun_box, wrunX_mv, wrunX_bin, wrunX_load, wrunX_faddr, wdW_nil, wstepX_none, wrunX_call, get_mk, wop, aop, ev, look, put_some, put_none, writes, ores_some, binV, thenK, value, cut, hget, putCells, AV.parts, isOne, toLits, mkAgg, tupOf, ofValue_int, ofValue_str, List.map_cons, List.map_nil, List.length_cons, List.length_nil, List.getElem?_cons_zero, List.getElem?_cons_succ, List.set_cons_zero, List.set_cons_succ, List.take_succ_cons, List.take_zero, List.take_nil, List.drop_succ_cons, List.drop_zero, List.drop_nil, List.cons_append, List.nil_append, List.append_nil, List.append_assoc, List.replicate_zero, List.replicate_succ, List.getD_cons_zero, List.zipIdx_cons, List.zipIdx_nil, List.all_cons, List.all_nil, Option.getD_some, Option.map_some, if_true, if_false, Nat.reduceEqDiff, Nat.reduceAdd, Nat.reduceLT, Nat.add_zero, Nat.zero_add, Nat.le_refl, Nat.zero_ne_one, reduceCtorEq, Bool.and_true, Bool.false_eq_true, eq_self, true_and, and_self, freeze, lidsL, lids, List.flatMap_cons, List.flatMap_nil, List.all_cons, ren, i64max, size_strlit, *] | simp (disch := omega) only [getD_ints, wrapI] | (with_reducible show wcall _ false (.lit (.func (.func 38) _ _)) _ _ _ _; refine wcall_fn (h38a) ?_ ?_ ?_; (next => simp [rfyL, rfy, hget, ints, take_rfy, i64max, size_strlit]); (next => simp [plainL, plain, plainR, i64max, size_strlit])) | (with_reducible show wcallX _ false (.lit (.func (.func 38) _ _)) _ _ _ _; refine wcallX_fn (h38a) ?_ ?_ ?_; (next => simp [rfyL, rfy, hget, ints, take_rfy, i64max, size_strlit]); (next => simp [plainL, plain, plainR, i64max, size_strlit])) | (with_reducible show wcall _ false (.lit (.func (.func 38) _ _)) _ _ _ _; refine wcall_fn (h38b) ?_ ?_ ?_; (next => simp [rfyL, rfy, hget, ints, take_rfy, i64max, size_strlit]); (next => simp [plainL, plain, plainR, i64max, size_strlit])) | (with_reducible show wcallX _ false (.lit (.func (.func 38) _ _)) _ _ _ _; refine wcallX_fn (h38b) ?_ ?_ ?_; (next => simp [rfyL, rfy, hget, ints, take_rfy, i64max, size_strlit]); (next => simp [plainL, plain, plainR, i64max, size_strlit])) | (with_reducible show wcall _ false (.lit (.func (.func 38) _ _)) _ _ _ _; refine wcall_fn (h38c) ?_ ?_ ?_; (next => simp [rfyL, rfy, hget, ints, take_rfy, i64max, size_strlit]); (next => simp [plainL, plain, plainR, i64max, size_strlit])) | (with_reducible show wcallX _ false (.lit (.func (.func 38) _ _)) _ _ _ _; refine wcallX_fn (h38c) ?_ ?_ ?_; (next => simp [rfyL, rfy, hget, ints, take_rfy, i64max, size_strlit]); (next => simp [plainL, plain, plainR, i64max, size_strlit])) | (with_reducible show wcall _ false (.lit (.func (.func 38) _ _)) _ _ _ _; refine wcall_fn (h38d) ?_ ?_ ?_; (next => simp [rfyL, rfy, hget, ints, take_rfy, i64max, size_strlit]); (next => simp [plainL, plain, plainR, i64max, size_strlit])) | (with_reducible show wcallX _ false (.lit (.func (.func 38) _ _)) _ _ _ _; refine wcallX_fn (h38d) ?_ ?_ ?_; (next => simp [rfyL, rfy, hget, ints, take_rfy, i64max, size_strlit]); (next => simp [plainL, plain, plainR, i64max, size_strlit])) | omega)
  all_goals first | omega | rfl
end Go.Abs
