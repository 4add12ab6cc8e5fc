import Derived.Test.YtodheeifecoebaaK222x
set_option linter.all false
set_option linter.unusedVariables false
set_option linter.unusedSimpArgs false
set_option linter.unusedSectionVars false
namespace Go.Abs
open Go.Proofs
section
variable {n s : Nat} {nil : Bool} {rows : List (Bool × List Int)}
set_option maxHeartbeats 8000000 in
theorem k22l1 (h : TmOk n s rows) (K : Exit → St → Prop) (t : Nat) (ht : t < rows.length) :
    T none Try.prog muts 85 0 c22l1 (S22o n s nil rows t) (thenK (fun s' => (t < rows.length ∧ True) ∧ s'.only [1, 2, 5, 6, 7, 8, 9, 32, 33, 34] = S22o n s nil rows (t + 1)) K) := by
  have h1 := rws_get ht
  have hlr : (rows.map fun r => [ints r.1 r.2]).length = rows.length := by simp
  have h2 := h.hr t ht
  have hl0 := fun K i hi => k22l0 (nil := nil) h K t ht i hi
  have hmo := mxO_bd (f := mf (V rows) rows.length s n) (n := n) (B := 100000000) (by omega) t fun u j hu hj => mf_bd h (by omega) hj
  have e : mxO (mf (V rows) rows.length s n) n (t + 1) = mxI (mf (V rows) rows.length s n t) (mxO (mf (V rows) rows.length s n) n t) n := rfl
  have e0 : mxI (mf (V rows) rows.length s n t) (mxO (mf (V rows) rows.length s n) n t) 0 = mxO (mf (V rows) rows.length s n) n t := rfl
  have hk := h.hk
  replace hl0 := And.intro hl0 trivial
  clear h
  unfold c22l1 S22o
  repeat' (first
    | ((with_reducible refine T_calm ?_ ?_); rfl)
    | with_reducible first
      | refine T_seq ?_
      | refine T_reg ?_
      | refine T_draw ?_
      | refine T_skip ?_
      | refine T_exit ?_
      | refine T_block ?_
      | refine T_cond_t rfl ?_
      | refine T_cond_f rfl ?_
      | refine wdW_cons rfl ?_
      | ((first | refine T_cond rfl (fun hc => ?_) (fun hc => ?_) | refine wguard_split (fun hc => ?_) (fun hc => ?_) | refine wguardX_split (fun hc => ?_) (fun hc => ?_)) <;> have hd := hc <;> (try simp (disch := omega) only [wrapI] at hd) <;> have hs := hd <;> (try simp only [decide_eq_true_eq, decide_eq_false_iff_not, Int.not_lt] at hd) <;> (try simp at hs))
      | refine T_ret ?_
      | refine leave_of (.inr rfl) _ rfl ?_
      | refine leave_of (.inl rfl) _ rfl ?_
      | refine leaveA_of (.inr rfl) _ rfl ?_
      | refine leaveA_of (.inl rfl) _ rfl ?_
      | refine wif_intro ?_ (fun hc => ?_)
      | refine And.intro ?_ ?_
      | intro hc
    | simp (maxSteps := 4000000) only [wops_nil, wops_cons, wstep_none, wrun_mv, wrun_bin, wrun_load, wrun_iaddrS, wrun_len, wop, aop, ev, look, put_some, writes, ores_some, ores_ite_none, ores_map, ores_bind, binV, thenK, intV, lenOf, value, cut, hget, mkAgg, List.length_cons, List.length_nil, List.take_succ_cons, List.take_nil, List.drop_zero, List.append_nil, List.replicate_zero, List.length_map, Option.pure_def, Option.bind_eq_bind, Option.map_some, if_true, if_false, Nat.reduceEqDiff, Nat.reduceAdd, Nat.zero_add, reduceCtorEq, Bool.false_eq_true, eq_self, true_and, and_true, and_self, decide_true, Int.toNat_natCast, *]
    | simp (disch := omega) only [getD_ints, wrapI]
    | omega)
  refine T_for [1, 2, 5, 6, 7, 8, 9, 10, 32, 33, 34, 39, 40, 41] (S22i n s nil rows t) n (fun _ => True) 0 ?_ trivial (Nat.zero_le _) ?_
  · unfold S22i; rw [e0]; simp [St.only, get_mk, look]
  intro i hi _
  by_cases hin : i < n
  · exact hl0.1 _ i hin
  · have hie : i = n := by omega
    subst hie
    clear hl0
    unfold c22l0 S22i
    rw [← e]
    repeat' (first
      | ((with_reducible refine T_calm ?_ ?_); rfl)
      | with_reducible first
        | refine T_seq ?_
        | refine T_reg ?_
        | refine T_draw ?_
        | refine T_skip ?_
        | refine T_exit ?_
        | refine T_block ?_
        | refine T_cond_t rfl ?_
        | refine T_cond_f rfl ?_
        | refine wdW_cons rfl ?_
        | ((first | refine T_cond rfl (fun hc => ?_) (fun hc => ?_) | refine wguard_split (fun hc => ?_) (fun hc => ?_) | refine wguardX_split (fun hc => ?_) (fun hc => ?_)) <;> have hd := hc <;> (try simp (disch := omega) only [wrapI] at hd) <;> have hs := hd <;> (try simp only [decide_eq_true_eq, decide_eq_false_iff_not, Int.not_lt] at hd) <;> (try simp at hs))
        | refine T_ret ?_
        | refine leave_of (.inr rfl) _ rfl ?_
        | refine leave_of (.inl rfl) _ rfl ?_
        | refine leaveA_of (.inr rfl) _ rfl ?_
        | refine leaveA_of (.inl rfl) _ rfl ?_
        | refine wif_intro ?_ (fun hc => ?_)
        | refine And.intro ?_ ?_
        | intro hc
      | simp (maxSteps := 4000000) only [wops_nil, wops_cons, wstep_none, wrun_mv, wrun_bin, wop, aop, ev, look, put_some, writes, ores_some, binV, thenK, blockK, List.length_cons, List.length_nil, List.append_nil, List.replicate_zero, Option.map_some, if_true, if_false, Nat.reduceEqDiff, Nat.reduceAdd, Nat.zero_add, reduceCtorEq, eq_self, and_true, false_and, Int.toNat_natCast, *]
      | simp (disch := omega) only [wrapI]
      | omega)
    all_goals first | (simp [St.only, get_mk, look]; done)
set_option maxHeartbeats 8000000 in
theorem k22 (h : TmOk n s rows) (h0 : checkT n rows = 0) : Fn Try.prog 22 [tmV n nil rows] (.tup [frV (lowD (mxO (mf (V rows) rows.length s n) n rows.length) (rows.length * rows.length)), i64 0]) [] := by
  refine fn_of e22 ?_
  have hl0 := fun K t ht => k22l1 (nil := nil) h K t ht
  have hmo := mxO_bd (f := mf (V rows) rows.length s n) (n := n) (B := 100000000) (by omega) rows.length fun u j hu hj => mf_bd h (by omega) hj
  obtain ⟨hk, hn, hn2, hr, hb⟩ := h
  have h37 := k37 (S := (n : Int)) (nil := nil) (rows := rows) (by omega) (fun t ht => by rw [hr t ht]; omega)
  rw [h0] at h37
  have h86 := k86 (nil := nil) hk hn hn2 hr hb
  have hkk : 1 ≤ (rows.length : Int) * (rows.length : Int) ∧ (rows.length : Int) * (rows.length : Int) ≤ 144 := by
    have h1 := Nat.mul_le_mul hk.1 hk.1
    have h2 := Nat.mul_le_mul hk.2 hk.2
    rw [← Int.natCast_mul]; omega
  have ew : IntKind.i64.wrap ((rows.length : Int) * (rows.length : Int)) = (rows.length : Int) * (rows.length : Int) := wrapI (by omega) (by omega)
  have hlr : (rows.map fun r => [ints r.1 r.2]).length = rows.length := by simp
  have h88 := k88 (mxO (mf (V rows) rows.length s n) n rows.length) (rows.length * rows.length) (by omega) (by omega)
  have e0 : mxO (mf (V rows) rows.length s n) n 0 = 0 := rfl
  clear hr hb h0 hmo
  replace h37 := And.intro h37 trivial
  replace h86 := And.intro h86 trivial
  replace hl0 := And.intro hl0 trivial
  generalize hq : lowD (mxO (mf (V rows) rows.length s n) n rows.length) (rows.length * rows.length) = q at *
  unfold c22
  repeat' (first
    | ((with_reducible refine T_calm ?_ ?_); rfl)
    | with_reducible first
      | refine T_seq ?_
      | refine T_reg ?_
      | refine T_draw ?_
      | refine T_skip ?_
      | refine T_exit ?_
      | refine T_block ?_
      | refine T_cond_t rfl ?_
      | refine T_cond_f rfl ?_
      | refine wdW_cons rfl ?_
      | (show wcall _ false (.lit (.func (.func 37) _ _)) _ _ _ _; refine wcall_fn (h37.1) rfl (by simp [plainL, plain, plain_rws]) ?_)
      | (show wcallX _ false (.lit (.func (.func 37) _ _)) _ _ _ _; refine wcallX_fn (h37.1) rfl (by simp [plainL, plain, plainR, renR_rws, plain_rws, renR_ints]) ?_)
      | (show wcall _ false (.lit (.func (.func 86) _ _)) _ _ _ _; refine wcall_fn (h86.1) rfl (by simp [plainL, plain, plain_rws]) ?_)
      | (show wcallX _ false (.lit (.func (.func 86) _ _)) _ _ _ _; refine wcallX_fn (h86.1) rfl (by simp [plainL, plain, plainR, renR_rws, plain_rws, renR_ints]) ?_)
      | ((first | refine T_cond rfl (fun hc => ?_) (fun hc => ?_) | refine wguard_split (fun hc => ?_) (fun hc => ?_) | refine wguardX_split (fun hc => ?_) (fun hc => ?_)) <;> have hd := hc <;> (try simp (disch := omega) only [wrapI] at hd) <;> have hs := hd <;> (try simp only [Bool.not_eq_true', Bool.not_eq_false', Bool.and_eq_true, Bool.and_eq_false_iff, Bool.or_eq_true, Bool.or_eq_false_iff, decide_eq_true_eq, decide_eq_false_iff_not, beq_iff_eq, bne_iff_ne, beq_eq_false_iff_ne, bne_eq_false_iff_eq, Bool.not_true, Bool.not_false, gt_iff_lt, ge_iff_le, Int.not_lt, Int.not_le, ne_eq, Decidable.not_not] at hd) <;> (try simp at hs))
      | refine T_ret ?_
      | refine leave_of (.inr rfl) _ rfl ?_
      | refine leave_of (.inl rfl) _ rfl ?_
      | refine leaveA_of (.inr rfl) _ rfl ?_
      | refine leaveA_of (.inl rfl) _ rfl ?_
      | refine wif_intro ?_ (fun hc => ?_)
      | refine And.intro ?_ ?_
      | intro hc
    | simp (maxSteps := 4000000) only [wops_nil, wops_cons, wstep_none, wrun_call, wrun_mv, wrun_bin, wrun_ext, wrun_load, wrun_faddr, wrun_len, wrun_alloc, wrun_box, wop, aop, ev, look, put_some, writes, ores_some, ores_map, ores_bind, binV, thenK, intV, lenOf, value, cut, hget, AV.parts, isOne, toLits, mkAgg, List.map_cons, List.map_nil, List.length_cons, List.length_nil, List.getElem?_cons_zero, List.getElem?_cons_succ, List.set_cons_zero, List.set_cons_succ, List.take_succ_cons, List.take_zero, List.take_nil, List.drop_succ_cons, List.drop_zero, List.cons_append, List.nil_append, List.append_nil, List.replicate_zero, List.replicate_succ, List.getD_cons_zero, List.zipIdx_cons, List.zipIdx_nil, List.all_cons, List.all_nil, Option.pure_def, Option.bind_eq_bind, Option.getD_some, Option.map_some, Option.map_none, if_true, if_false, Nat.reduceEqDiff, Nat.reduceAdd, Nat.add_zero, Nat.zero_add, Nat.zero_ne_one, reduceCtorEq, Bool.and_true, Bool.false_eq_true, eq_self, true_and, and_self, freeze, lidsL, lids, List.flatMap_cons, List.flatMap_nil, List.all_cons, ren, renL, renB, shiftρ, renR_ints, renR_ints, *]
    | simp (disch := omega) only [getD_ints, wrapI]
    | (with_reducible show wcall _ false (.lit (.func (.func 37) _ _)) _ _ _ _; refine wcall_fn (h37.1) ?_ ?_ ?_; (next => simp [rfyL, rfy, hget, ints, take_rfy, renR_rws, plain_rws, renR_ints]); (next => simp [plainL, plain, plainR, renR_rws, plain_rws, renR_ints]))
    | (with_reducible show wcallX _ false (.lit (.func (.func 37) _ _)) _ _ _ _; refine wcallX_fn (h37.1) ?_ ?_ ?_; (next => simp [rfyL, rfy, hget, ints, take_rfy, renR_rws, plain_rws, renR_ints]); (next => simp [plainL, plain, plainR, renR_rws, plain_rws, renR_ints]))
    | (with_reducible show wcall _ false (.lit (.func (.func 86) _ _)) _ _ _ _; refine wcall_fn (h86.1) ?_ ?_ ?_; (next => simp [rfyL, rfy, hget, ints, take_rfy, renR_rws, plain_rws, renR_ints]); (next => simp [plainL, plain, plainR, renR_rws, plain_rws, renR_ints]))
    | (with_reducible show wcallX _ false (.lit (.func (.func 86) _ _)) _ _ _ _; refine wcallX_fn (h86.1) ?_ ?_ ?_; (next => simp [rfyL, rfy, hget, ints, take_rfy, renR_rws, plain_rws, renR_ints]); (next => simp [plainL, plain, plainR, renR_rws, plain_rws, renR_ints]))
    | omega)
  refine T_for [1, 2, 5, 6, 7, 8, 9, 32, 33, 34] (S22o n s nil rows) rows.length (fun _ => True) 0 ?_ trivial (Nat.zero_le _) ?_
  · unfold S22o; rw [e0]; simp [St.only, get_mk, look]
  intro t ht _
  by_cases htn : t < rows.length
  · exact hl0.1 _ t htn
  · have hte : t = rows.length := by omega
    subst hte
    clear hl0 hq
    unfold c22l1 S22o
    repeat' (first
      | ((with_reducible refine T_calm ?_ ?_); rfl)
      | with_reducible first
        | refine T_seq ?_
        | refine T_reg ?_
        | refine T_draw ?_
        | refine T_skip ?_
        | refine T_exit ?_
        | refine T_block ?_
        | refine T_cond_t rfl ?_
        | refine T_cond_f rfl ?_
        | refine wdW_cons rfl ?_
        | (show wcall _ false (.lit (.func (.func 88) _ _)) _ _ _ _; refine wcall_fn (h88) rfl (by simp [plainL, plain]) ?_)
        | (show wcallX _ false (.lit (.func (.func 88) _ _)) _ _ _ _; refine wcallX_fn (h88) rfl (by simp [plainL, plain, plainR, renR_rws, plain_rws]) ?_)
        | ((first | refine T_cond rfl (fun hc => ?_) (fun hc => ?_) | refine wguard_split (fun hc => ?_) (fun hc => ?_) | refine wguardX_split (fun hc => ?_) (fun hc => ?_)) <;> have hd := hc <;> (try simp (disch := omega) only [wrapI] at hd) <;> have hs := hd <;> (try simp only [decide_eq_true_eq, decide_eq_false_iff_not, Int.not_lt] at hd) <;> (try simp at hs))
        | refine T_ret ?_
        | refine leave_of (.inr rfl) _ rfl ?_
        | refine leave_of (.inl rfl) _ rfl ?_
        | refine leaveA_of (.inr rfl) _ rfl ?_
        | refine leaveA_of (.inl rfl) _ rfl ?_
        | refine wif_intro ?_ (fun hc => ?_)
        | refine And.intro ?_ ?_
        | intro hc
      | simp (maxSteps := 4000000) only [wops_nil, wops_cons, wstep_none, wrun_call, wrun_mv, wrun_bin, wrun_store, get_mk, wop, aop, ev, look, put_some, put_none, writes, ores_some, binV, thenK, blockK, cut, hget, putCells, AV.parts, isOne, toLits, mkAgg, tupOf, ofValue_int, List.map_cons, List.map_nil, List.length_cons, List.length_nil, List.getElem?_cons_zero, List.getElem?_cons_succ, List.set_cons_zero, List.set_cons_succ, List.take_succ_cons, List.take_zero, List.take_nil, List.drop_succ_cons, List.drop_zero, List.drop_nil, List.nil_append, List.append_nil, List.replicate_zero, List.getD_cons_zero, List.all_cons, List.all_nil, Option.getD_some, Option.map_some, if_true, if_false, Nat.reduceEqDiff, Nat.reduceAdd, Nat.reduceLT, Nat.zero_add, Nat.le_refl, reduceCtorEq, Bool.and_true, eq_self, and_true, and_self, false_and, freeze, lidsL, lids, List.flatMap_cons, List.flatMap_nil, List.all_cons, ren, renL, *]
      | simp (disch := omega) only [getD_ints, wrapI]
      | (with_reducible show wcall _ false (.lit (.func (.func 88) _ _)) _ _ _ _; refine wcall_fn (h88) ?_ ?_ ?_; (next => simp [rfyL, rfy, hget, ints, take_rfy, renR_rws, plain_rws]); (next => simp [plainL, plain, plainR, renR_rws, plain_rws]))
      | (with_reducible show wcallX _ false (.lit (.func (.func 88) _ _)) _ _ _ _; refine wcallX_fn (h88) ?_ ?_ ?_; (next => simp [rfyL, rfy, hget, ints, take_rfy, renR_rws, plain_rws]); (next => simp [plainL, plain, plainR, renR_rws, plain_rws]))
      | omega)
    all_goals first | rfl
end
end Go.Abs
