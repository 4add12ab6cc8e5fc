import Derived.Test.YtdedhipkncagjaaK503x
import Derived.Test.YtdedhipkncagjaaK500x
set_option linter.all false
set_option linter.unusedVariables false
set_option linter.unusedSimpArgs false
set_option linter.unusedSectionVars false
namespace Go.Abs
open Go.Proofs
/-! judge -/
def szI (n : Int) : Int := if -n > n then -n else n
set_option maxHeartbeats 8000000 in
theorem k31 (n : Int) (h : -1000000 ≤ n ∧ n ≤ 1000000) : Fn Try.prog 31 [i64 n] (i64 (szI n)) [] := by
  refine fn_of e31 ?_
  have ew : IntKind.i64.wrap (0 - n) = -n := by rw [wrapI (by omega) (by omega)]; omega
  unfold szI
  by_cases hn : -n > n
  · rw [if_pos hn]
    clear h
    unfold c31
    repeat' (first | (with_reducible first | refine T_seq ?_ | refine T_reg ?_ | refine T_skip ?_ | refine T_exit ?_ | refine T_block ?_ | refine T_cond_t rfl ?_ | refine T_cond_f rfl ?_ | refine T_ret ?_ | refine leave_of (.inr rfl) _ rfl ?_ | refine leave_of (.inl rfl) _ rfl ?_ | refine leaveA_of (.inr rfl) _ rfl ?_ | refine leaveA_of (.inl rfl) _ rfl ?_ | refine wif_intro ?_ (fun hc => ?_) | refine And.intro ?_ ?_ | intro hc) | simp (maxSteps := 4000000) only [wops_nil, wops_cons, wstep_none, wrun_mv, wrun_neg, wrun_minmax, get_mk, wop, aop, ev, look, put_some, writes, ores_some, thenK, tupOf, List.map_cons, List.map_nil, List.length_nil, List.append_nil, List.replicate_zero, List.zipIdx_cons, List.zipIdx_nil, if_true, if_false, Nat.reduceEqDiff, Nat.zero_add, reduceCtorEq, eq_self, ren, *] | simp (disch := omega) only [getD_ints, wrapI] | omega)
    all_goals first | rfl
  · rw [if_neg hn]
    clear h
    unfold c31
    repeat' (first | (with_reducible first | refine T_seq ?_ | refine T_reg ?_ | refine T_skip ?_ | refine T_exit ?_ | refine T_block ?_ | refine T_cond_t rfl ?_ | refine T_cond_f rfl ?_ | refine T_ret ?_ | refine leave_of (.inr rfl) _ rfl ?_ | refine leave_of (.inl rfl) _ rfl ?_ | refine leaveA_of (.inr rfl) _ rfl ?_ | refine leaveA_of (.inl rfl) _ rfl ?_ | refine wif_intro ?_ (fun hc => ?_) | refine And.intro ?_ ?_ | intro hc) | simp (maxSteps := 4000000) only [wops_nil, wops_cons, wstep_none, wrun_mv, wrun_neg, wrun_minmax, get_mk, wop, aop, ev, look, put_some, writes, ores_some, thenK, tupOf, List.map_cons, List.map_nil, List.length_nil, List.append_nil, List.replicate_zero, List.zipIdx_cons, List.zipIdx_nil, if_true, if_false, Nat.reduceEqDiff, Nat.zero_add, reduceCtorEq, eq_self, ren, *] | simp (disch := omega) only [getD_ints, wrapI] | omega)
    all_goals first | rfl
def bdI (pk sl : Int) (i k : Int) : Int := if sl * szI (i - k) < pk then sl * szI (i - k) else pk
abbrev tlV (pk sl : Int) : AV := .lit (.agg #[.int .i64 pk, .int .i64 sl])
theorem szI_bd {i k : Int} (hi : 0 ≤ i ∧ i ≤ 1000) (hk : 0 ≤ k ∧ k ≤ 1000) : 0 ≤ szI (i - k) ∧ szI (i - k) ≤ 1000 := by
  unfold szI; split <;> omega
set_option maxHeartbeats 8000000 in
theorem k32 (pk sl i k : Int) (hsl : 0 ≤ sl ∧ sl ≤ 200000) (hi : 0 ≤ i ∧ i ≤ 1000) (hk : 0 ≤ k ∧ k ≤ 1000) : Fn Try.prog 32 [tlV pk sl, i64 i, i64 k] (i64 (bdI pk sl i k)) [] := by
  refine fn_of e32 ?_
  have h31 := k31 (i - k) (by omega)
  have hb := szI_bd hi hk
  have hm := Int.mul_le_mul hsl.2 hb.2 hb.1 (by omega)
  have hm0 := Int.mul_nonneg hsl.1 hb.1
  have ew1 : IntKind.i64.wrap (i - k) = i - k := wrapI (by omega) (by omega)
  have ew2 : IntKind.i64.wrap (sl * szI (i - k)) = sl * szI (i - k) := wrapI (by omega) (by omega)
  unfold bdI
  generalize szI (i - k) = z at *
  by_cases hlt : sl * z < pk
  · rw [if_pos hlt]
    clear hb hm hm0 hsl hi hk
    generalize hp : sl * z = p at *
    replace hp := PLift.up hp
    unfold c32
    repeat' (first | ((with_reducible refine T_calm ?_ ?_); rfl) | (with_reducible first | refine T_seq ?_ | refine T_reg ?_ | refine T_draw ?_ | refine T_skip ?_ | refine T_exit ?_ | refine T_block ?_ | refine T_cond_t rfl ?_ | refine T_cond_f rfl ?_ | refine wdW_cons rfl ?_ | (show wcall _ false (.lit (.func (.func 31) _ _)) _ _ _ _; refine wcall_fn (h31) rfl (by simp [plainL, plain, plainR, hp.down]) ?_) | (show wcallX _ false (.lit (.func (.func 31) _ _)) _ _ _ _; refine wcallX_fn (h31) rfl (by simp [plainL, plain]) ?_) | refine T_ret ?_ | refine leave_of (.inr rfl) _ rfl ?_ | refine leave_of (.inl rfl) _ rfl ?_ | refine leaveA_of (.inr rfl) _ rfl ?_ | refine leaveA_of (.inl rfl) _ rfl ?_ | refine wif_intro ?_ (fun hc => ?_) | refine And.intro ?_ ?_ | intro hc) | simp (maxSteps := 4000000) only [wops_nil, wops_cons, wstep_none, wrun_mv, wrun_bin, wrun_load, wrun_faddr, wrun_minmax, wrun_box, wrunX_mv, wrunX_bin, wrunX_load, wrunX_faddr, wrunX_minmax, wdW_nil, wstepX_none, wrunX_call, get_mk, wop, aop, ev, look, put_some, writes, ores_some, binV, thenK, value, cut, hget, AV.parts, isOne, toLits, mkAgg, tupOf, ofValue_int, List.map_cons, List.map_nil, List.length_cons, List.length_nil, List.getElem?_cons_zero, List.set_cons_zero, List.take_succ_cons, List.take_zero, List.take_nil, List.drop_succ_cons, List.drop_zero, List.nil_append, List.append_nil, List.replicate_zero, List.replicate_succ, List.getD_cons_zero, List.zipIdx_cons, List.zipIdx_nil, List.all_cons, List.all_nil, Option.getD_some, Option.map_some, if_true, if_false, Nat.reduceEqDiff, Nat.reduceAdd, Nat.add_zero, Nat.zero_add, Nat.zero_ne_one, reduceCtorEq, Bool.and_true, Bool.false_eq_true, eq_self, true_and, and_self, freeze, lidsL, lids, List.flatMap_cons, List.flatMap_nil, List.all_cons, ren, hp.down, *] | simp (disch := omega) only [getD_ints, wrapI] | (with_reducible show wcall _ false (.lit (.func (.func 31) _ _)) _ _ _ _; refine wcall_fn (h31) ?_ ?_ ?_; (next => simp [rfyL, rfy, hget, ints, take_rfy, hp.down]); (next => simp [plainL, plain, plainR, hp.down])) | (with_reducible show wcallX _ false (.lit (.func (.func 31) _ _)) _ _ _ _; refine wcallX_fn (h31) ?_ ?_ ?_; (next => simp [rfyL, rfy, hget, ints, take_rfy, hp.down]); (next => simp [plainL, plain, plainR, hp.down])) | omega)
    all_goals first | rfl
  · rw [if_neg hlt]
    clear hb hm hm0 hsl hi hk
    generalize hp : sl * z = p at *
    replace hp := PLift.up hp
    unfold c32
    repeat' (first | ((with_reducible refine T_calm ?_ ?_); rfl) | (with_reducible first | refine T_seq ?_ | refine T_reg ?_ | refine T_draw ?_ | refine T_skip ?_ | refine T_exit ?_ | refine T_block ?_ | refine T_cond_t rfl ?_ | refine T_cond_f rfl ?_ | refine wdW_cons rfl ?_ | (show wcall _ false (.lit (.func (.func 31) _ _)) _ _ _ _; refine wcall_fn (h31) rfl (by simp [plainL, plain, plainR, hp.down]) ?_) | (show wcallX _ false (.lit (.func (.func 31) _ _)) _ _ _ _; refine wcallX_fn (h31) rfl (by simp [plainL, plain]) ?_) | refine T_ret ?_ | refine leave_of (.inr rfl) _ rfl ?_ | refine leave_of (.inl rfl) _ rfl ?_ | refine leaveA_of (.inr rfl) _ rfl ?_ | refine leaveA_of (.inl rfl) _ rfl ?_ | refine wif_intro ?_ (fun hc => ?_) | refine And.intro ?_ ?_ | intro hc) | simp (maxSteps := 4000000) only [wops_nil, wops_cons, wstep_none, wrun_mv, wrun_bin, wrun_load, wrun_faddr, wrun_minmax, wrun_box, wrunX_mv, wrunX_bin, wrunX_load, wrunX_faddr, wrunX_minmax, wdW_nil, wstepX_none, wrunX_call, get_mk, wop, aop, ev, look, put_some, writes, ores_some, binV, thenK, value, cut, hget, AV.parts, isOne, toLits, mkAgg, tupOf, ofValue_int, List.map_cons, List.map_nil, List.length_cons, List.length_nil, List.getElem?_cons_zero, List.set_cons_zero, List.take_succ_cons, List.take_zero, List.take_nil, List.drop_succ_cons, List.drop_zero, List.nil_append, List.append_nil, List.replicate_zero, List.replicate_succ, List.getD_cons_zero, List.zipIdx_cons, List.zipIdx_nil, List.all_cons, List.all_nil, Option.getD_some, Option.map_some, if_true, if_false, Nat.reduceEqDiff, Nat.reduceAdd, Nat.add_zero, Nat.zero_add, Nat.zero_ne_one, reduceCtorEq, Bool.and_true, Bool.false_eq_true, eq_self, true_and, and_self, freeze, lidsL, lids, List.flatMap_cons, List.flatMap_nil, List.all_cons, ren, hp.down, *] | simp (disch := omega) only [getD_ints, wrapI] | (with_reducible show wcall _ false (.lit (.func (.func 31) _ _)) _ _ _ _; refine wcall_fn (h31) ?_ ?_ ?_; (next => simp [rfyL, rfy, hget, ints, take_rfy, hp.down]); (next => simp [plainL, plain, plainR, hp.down])) | (with_reducible show wcallX _ false (.lit (.func (.func 31) _ _)) _ _ _ _; refine wcallX_fn (h31) ?_ ?_ ?_; (next => simp [rfyL, rfy, hget, ints, take_rfy, hp.down]); (next => simp [plainL, plain, plainR, hp.down])) | omega)
    all_goals first | rfl
def rgR (L : List (Int × Int)) : List (List AV) := L.map fun r => [i64 r.1, i64 r.2]
theorem rgR_len (L : List (Int × Int)) : (rgR L).length = L.length := by simp [rgR]
theorem rgR_get {L : List (Int × Int)} {k : Nat} (h : k < L.length) : (rgR L).getD k [] = [i64 (L.getD k (0, 0)).1, i64 (L.getD k (0, 0)).2] := by simp [rgR, List.getD_eq_getElem?_getD, h]
theorem plainR_rg (L : List (Int × Int)) : plainR (rgR L) = true := plainR_map _ (fun _ => rfl) L
def jdg (L : List (Int × Int)) (pk sl : Int) : List (Nat × Nat) → Int → Int × Int × Int
  | [], a => (a, 0, 0)
  | (i, k) :: r, a => if (L.getD i (0, 0)).1 - (L.getD k (0, 0)).2 > bdI pk sl i k then (-1, i, k) else jdg L pk sl r (if (L.getD i (0, 0)).2 - (L.getD k (0, 0)).1 > bdI pk sl i k then 0 else a)
theorem prs_lt {n : Nat} {p : Nat × Nat} (h : p ∈ prs n) : p.1 < n ∧ p.2 < n := by
  unfold prs restO restI at h
  simp at h
  obtain ⟨a, ha, b, hb, rfl⟩ := h
  exact ⟨ha, hb.1⟩
abbrev H27 (nb : Bool) (L : List (Int × Int)) (pk sl r a i k : Int) (t : List Blk) : List Blk := .cells true false 2 [[i64 pk, i64 sl]] :: .cells true false 1 [[.sl nb 2 (rgR L)]] :: .cells true false 1 [[i64 r]] :: .cells true false 2 [[i64 i, i64 k]] :: .cells true false 1 [[i64 a]] :: .cells true false 1 [[i64 L.length]] :: t
set_option maxHeartbeats 8000000 in
theorem k30 (n : Int) : Fn Try.prog 30 [i64 n] (.clo (.func 59) [] [.loc 0 0 0]) [.cells true false 1 [[i64 n]]] := by
  refine fn_of e30 ?_
  unfold c30
  repeat' (first | (with_reducible first | refine T_seq ?_ | refine T_reg ?_ | refine T_skip ?_ | refine T_exit ?_ | refine T_block ?_ | refine T_cond_t rfl ?_ | refine T_cond_f rfl ?_ | refine T_ret ?_ | refine leave_ids (.inr rfl) _ [0] rfl (by simp) (by simp) ?_ | refine leave_ids (.inl rfl) _ [0] rfl (by simp) (by simp) ?_ | refine leaveA_of (.inr rfl) _ rfl ?_ | refine leaveA_of (.inl rfl) _ rfl ?_ | refine wif_intro ?_ (fun hc => ?_) | refine And.intro ?_ ?_ | intro hc) | simp (maxSteps := 4000000) only [wops_nil, wops_cons, wstep_none, wrun_mv, wrun_mkf, wrun_box, get_mk, wop, aop, ev, look, put_some, writes, ores_some, thenK, hget, AV.parts, isOne, tupOf, List.map_cons, List.map_nil, List.length_cons, List.length_nil, List.getElem?_cons_zero, List.set_cons_zero, List.nil_append, List.append_nil, List.replicate_zero, List.replicate_succ, List.zipIdx_cons, List.zipIdx_nil, List.all_cons, List.all_nil, Option.getD_some, Option.map_some, Option.map_none, if_true, if_false, Nat.reduceEqDiff, Nat.add_zero, Nat.zero_add, Nat.zero_ne_one, reduceCtorEq, Bool.and_true, eq_self, true_and, and_self, List.all_cons, ren, renL, renR, renB, renO, keepρ, pos, Nat.not_lt_zero, *] | simp (disch := omega) only [getD_ints, wrapI] | omega)
  all_goals first | rfl
set_option maxHeartbeats 8000000 in
theorem k27b {nb : Bool} {L : List (Int × Int)} {pk sl a : Int} {i k : Nat} {l : Nat} {sl0 : List (Nat × AV)} (hi : i < L.length) (hk : k < L.length) (hn : L.length ≤ 1000) (hL : ∀ j, j < L.length → (-100000 ≤ (L.getD j (0, 0)).1 ∧ (L.getD j (0, 0)).1 ≤ 100000) ∧ (-100000 ≤ (L.getD j (0, 0)).2 ∧ (L.getD j (0, 0)).2 ≤ 100000)) (hsl : 0 ≤ sl ∧ sl ≤ 200000) (K : Exit → St → Prop)
    (hX : (L.getD i (0, 0)).1 - (L.getD k (0, 0)).2 > bdI pk sl i k → ∀ τ : St, τ.heap = H27 nb L pk sl (-1) a i k [.obj .lpx] → K .ret τ)
    (hN : ¬(L.getD i (0, 0)).1 - (L.getD k (0, 0)).2 > bdI pk sl i k → ∀ τ : St, τ.heap = H27 nb L pk sl 0 (if (L.getD i (0, 0)).2 - (L.getD k (0, 0)).1 > bdI pk sl i k then 0 else a) 0 0 [.obj .lpx] → K .normal τ) :
    T (some l) Try.prog muts 50 7 c27r0 ⟨[(8, i64 k), (7, i64 i), (2, .loc 0 0 0), (3, .loc 1 0 0), (4, .loc 2 0 0), (5, .loc 3 0 0), (6, .loc 4 0 0)], H27 nb L pk sl 0 a 0 0 [.obj .lpx]⟩ K := by
  have h32 := k32 pk sl i k hsl (by omega) (by omega)
  have gi := rgR_get hi
  have gk := rgR_get hk
  have hll := rgR_len L
  have hLi := hL i hi
  have hLk := hL k hk
  have ew1 : IntKind.i64.wrap ((L.getD i (0, 0)).1 - (L.getD k (0, 0)).2) = (L.getD i (0, 0)).1 - (L.getD k (0, 0)).2 := wrapI (by omega) (by omega)
  have ew2 : IntKind.i64.wrap ((L.getD i (0, 0)).2 - (L.getD k (0, 0)).1) = (L.getD i (0, 0)).2 - (L.getD k (0, 0)).1 := wrapI (by omega) (by omega)
  have ei : (i : Int) < (L.length : Int) := by omega
  have ek : (k : Int) < (L.length : Int) := by omega
  clear hL hLi hLk hsl
  generalize bdI pk sl i k = B at *
  generalize (L.getD i (0, 0)).1 = li at *
  generalize (L.getD i (0, 0)).2 = ui at *
  generalize (L.getD k (0, 0)).1 = lk at *
  generalize (L.getD k (0, 0)).2 = uk at *
  by_cases h1 : li - uk > B
  · have f := PLift.up (hX h1)
    have d1 : decide (li - uk > B) = true := decide_eq_true h1
    clear hX hN h1
    unfold c27r0
    repeat' (first | ((with_reducible refine T_calm ?_ ?_); rfl) | (with_reducible first | refine T_seq ?_ | refine T_reg ?_ | refine T_draw ?_ | refine T_skip ?_ | refine T_exit ?_ | refine T_block ?_ | refine T_cond_t rfl ?_ | refine T_cond_f rfl ?_ | refine wdW_cons rfl ?_ | (show wcall _ false (.lit (.func (.func 32) _ _)) _ _ _ _; refine wcall_fn (h32) rfl (by simp [plainL, plain]) ?_) | (show wcallX _ false (.lit (.func (.func 32) _ _)) _ _ _ _; refine wcallX_fn (h32) rfl (by simp [plainL, plain, plainR, Int.toNat_natCast, plainR_rg]) ?_) | refine T_ret ?_ | refine wif_intro ?_ (fun hc => ?_) | refine And.intro ?_ ?_ | intro hc) | simp (maxSteps := 4000000) only [wops_nil, wops_cons, wstep_none, wrun_call, wrun_mv, wrun_bin, wrun_build, wrun_load, wrun_store, wrun_faddr, wrun_iaddrS, wop, aop, ev, look, put_some, put_none, writes, ores_some, ores_ite_none, ores_map, wif_true, binV, thenK, blockK, value, cut, hget, fillA, putCells, AV.parts, isOne, toLits, mkAgg, ofValue_int, List.map_cons, List.map_nil, List.length_cons, List.length_nil, List.getElem?_cons_zero, List.getElem?_cons_succ, List.set_cons_zero, List.set_cons_succ, List.take_succ_cons, List.take_zero, List.take_nil, List.drop_succ_cons, List.drop_zero, List.drop_nil, List.cons_append, List.nil_append, List.append_nil, List.append_assoc, List.replicate_zero, List.getD_cons_zero, List.all_cons, List.all_nil, List.length_append, Option.getD_some, Option.map_some, if_true, if_false, Nat.reduceEqDiff, Nat.reduceAdd, Nat.reduceLeDiff, Nat.reduceLT, Nat.add_zero, Nat.zero_add, Nat.le_refl, reduceCtorEq, Bool.and_true, Bool.false_eq_true, eq_self, true_and, and_true, and_self, Int.reduceNeg, freeze, lidsL, lids, List.flatMap_cons, List.flatMap_nil, List.all_cons, ren, Int.toNat_natCast, *] | simp (disch := omega) only [getD_ints, wrapI] | (with_reducible show wcall _ false (.lit (.func (.func 32) _ _)) _ _ _ _; refine wcall_fn (h32) ?_ ?_ ?_; (next => simp [rfyL, rfy, hget, ints, take_rfy, Int.toNat_natCast, plainR_rg]); (next => simp [plainL, plain, plainR, Int.toNat_natCast, plainR_rg])) | (with_reducible show wcallX _ false (.lit (.func (.func 32) _ _)) _ _ _ _; refine wcallX_fn (h32) ?_ ?_ ?_; (next => simp [rfyL, rfy, hget, ints, take_rfy, Int.toNat_natCast, plainR_rg]); (next => simp [plainL, plain, plainR, Int.toNat_natCast, plainR_rg])) | omega)
    all_goals first | exact f.down _ rfl
  · have f := hN h1
    have d1 : decide (li - uk > B) = false := decide_eq_false h1
    clear hX hN
    by_cases h2 : ui - lk > B
    · rw [if_pos h2] at f
      have d2 : decide (ui - lk > B) = true := decide_eq_true h2
      replace f := PLift.up f
      clear h1 h2
      unfold c27r0
      repeat' (first | ((with_reducible refine T_calm ?_ ?_); rfl) | (with_reducible first | refine T_seq ?_ | refine T_reg ?_ | refine T_draw ?_ | refine T_skip ?_ | refine T_exit ?_ | refine T_block ?_ | refine T_cond_t rfl ?_ | refine T_cond_f rfl ?_ | refine wdW_cons rfl ?_ | (show wcall _ false (.lit (.func (.func 32) _ _)) _ _ _ _; refine wcall_fn (h32) rfl (by simp [plainL, plain]) ?_) | (show wcallX _ false (.lit (.func (.func 32) _ _)) _ _ _ _; refine wcallX_fn (h32) rfl (by simp [plainL, plain, plainR, Int.toNat_natCast, plainR_rg]) ?_) | refine T_ret ?_ | refine wif_intro ?_ (fun hc => ?_) | refine And.intro ?_ ?_ | intro hc) | simp (maxSteps := 4000000) only [wops_nil, wops_cons, wstep_none, wrun_call, wrun_mv, wrun_bin, wrun_load, wrun_store, wrun_faddr, wrun_iaddrS, wop, aop, ev, look, put_some, put_none, writes, ores_some, ores_ite_none, binV, thenK, blockK, value, cut, hget, putCells, AV.parts, isOne, toLits, mkAgg, List.map_cons, List.map_nil, List.length_cons, List.length_nil, List.getElem?_cons_zero, List.getElem?_cons_succ, List.set_cons_zero, List.set_cons_succ, List.take_succ_cons, List.take_zero, List.take_nil, List.drop_succ_cons, List.drop_zero, List.drop_nil, List.nil_append, List.append_nil, List.replicate_zero, List.getD_cons_zero, List.all_cons, List.all_nil, Option.getD_some, Option.map_some, if_true, if_false, Nat.reduceEqDiff, Nat.reduceAdd, Nat.reduceLT, Nat.add_zero, Nat.zero_add, Nat.le_refl, reduceCtorEq, Bool.and_true, Bool.false_eq_true, eq_self, true_and, and_true, and_self, Int.reduceNeg, freeze, lidsL, lids, List.flatMap_cons, List.flatMap_nil, List.all_cons, ren, Int.toNat_natCast, *] | simp (disch := omega) only [getD_ints, wrapI] | (with_reducible show wcall _ false (.lit (.func (.func 32) _ _)) _ _ _ _; refine wcall_fn (h32) ?_ ?_ ?_; (next => simp [rfyL, rfy, hget, ints, take_rfy, Int.toNat_natCast, plainR_rg]); (next => simp [plainL, plain, plainR, Int.toNat_natCast, plainR_rg])) | (with_reducible show wcallX _ false (.lit (.func (.func 32) _ _)) _ _ _ _; refine wcallX_fn (h32) ?_ ?_ ?_; (next => simp [rfyL, rfy, hget, ints, take_rfy, Int.toNat_natCast, plainR_rg]); (next => simp [plainL, plain, plainR, Int.toNat_natCast, plainR_rg])) | omega)
      all_goals first | exact f.down _ rfl
    · rw [if_neg h2] at f
      have d2 : decide (ui - lk > B) = false := decide_eq_false h2
      replace f := PLift.up f
      clear h1 h2
      unfold c27r0
      repeat' (first | ((with_reducible refine T_calm ?_ ?_); rfl) | (with_reducible first | refine T_seq ?_ | refine T_reg ?_ | refine T_draw ?_ | refine T_skip ?_ | refine T_exit ?_ | refine T_block ?_ | refine T_cond_t rfl ?_ | refine T_cond_f rfl ?_ | refine wdW_cons rfl ?_ | (show wcall _ false (.lit (.func (.func 32) _ _)) _ _ _ _; refine wcall_fn (h32) rfl (by simp [plainL, plain]) ?_) | (show wcallX _ false (.lit (.func (.func 32) _ _)) _ _ _ _; refine wcallX_fn (h32) rfl (by simp [plainL, plain, plainR, Int.toNat_natCast, plainR_rg]) ?_) | refine T_ret ?_ | refine wif_intro ?_ (fun hc => ?_) | refine And.intro ?_ ?_ | intro hc) | simp (maxSteps := 4000000) only [wops_nil, wops_cons, wstep_none, wrun_call, wrun_mv, wrun_bin, wrun_load, wrun_faddr, wrun_iaddrS, wop, aop, ev, look, put_some, writes, ores_some, ores_ite_none, binV, thenK, blockK, value, cut, hget, toLits, mkAgg, List.map_cons, List.map_nil, List.length_cons, List.length_nil, List.getElem?_cons_zero, List.getElem?_cons_succ, List.take_succ_cons, List.take_zero, List.take_nil, List.drop_succ_cons, List.drop_zero, List.append_nil, List.replicate_zero, List.getD_cons_zero, Option.getD_some, Option.map_some, if_true, if_false, Nat.reduceEqDiff, Nat.reduceAdd, Nat.add_zero, Nat.zero_add, reduceCtorEq, Bool.false_eq_true, eq_self, true_and, and_true, and_self, Int.reduceNeg, freeze, lidsL, lids, List.flatMap_cons, List.flatMap_nil, ren, Int.toNat_natCast, *] | simp (disch := omega) only [getD_ints, wrapI] | (with_reducible show wcall _ false (.lit (.func (.func 32) _ _)) _ _ _ _; refine wcall_fn (h32) ?_ ?_ ?_; (next => simp [rfyL, rfy, hget, ints, take_rfy, Int.toNat_natCast, plainR_rg]); (next => simp [plainL, plain, plainR, Int.toNat_natCast, plainR_rg])) | (with_reducible show wcallX _ false (.lit (.func (.func 32) _ _)) _ _ _ _; refine wcallX_fn (h32) ?_ ?_ ?_; (next => simp [rfyL, rfy, hget, ints, take_rfy, Int.toNat_natCast, plainR_rg]); (next => simp [plainL, plain, plainR, Int.toNat_natCast, plainR_rg])) | omega)
      all_goals first | exact f.down _ rfl
end Go.Abs
