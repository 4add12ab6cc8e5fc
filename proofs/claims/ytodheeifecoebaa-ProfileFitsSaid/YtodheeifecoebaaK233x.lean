import Derived.Test.YtodheeifecoebaaK232x
set_option linter.all false
set_option linter.unusedVariables false
set_option linter.unusedSimpArgs false
set_option linter.unusedSectionVars false
namespace Go.Abs
open Go.Proofs
/-! which fits are accepted -/
def rmF (rows : List (Bool × List Int)) (h nums : List Int) (den : Int) (k u : Nat) : Int := den * fQ rows h k - sm (fun m => nums.getD m 0 * fP rows h.length k m) u
def chkF (rows : List (Bool × List Int)) (h nums : List Int) (den : Int) : Int :=
  if nums.length ≠ rows.length then 10 else if ¬(1 ≤ den ∧ den ≤ 100000000000) then 2 else if nums.any (outB 10000000000000) = true then 2
  else if gfP nums den nums.length ≠ 1 then 3 else if (List.range rows.length).any (fun k => rmF rows h nums den k rows.length != 0) = true then 22 else 0
theorem sm_zero : ∀ n, sm (fun _ => (0 : Int)) n = 0 := fun n => by rw [sm_const]; simp
theorem fit_sum (r h : Nat → Int) (R : Nat → Nat → Int) (N : Nat → Int) (d : Int) (K n : Nat) :
    sm (fun i => r i * (h i * d - sm (fun m => N m * R m i) K)) n = d * sm (fun i => r i * h i) n - sm (fun m => N m * sm (fun i => r i * R m i) n) K := by
  have e1 : ∀ i, r i * (h i * d - sm (fun m => N m * R m i) K) = d * (r i * h i) - sm (fun m => N m * (r i * R m i)) K := fun i => by
    rw [Int.mul_sub, ← sm_mul]
    have : sm (fun m => r i * (N m * R m i)) K = sm (fun m => N m * (r i * R m i)) K := sm_congr K fun m _ => by rw [← Int.mul_assoc, Int.mul_comm (r i), Int.mul_assoc]
    rw [this]
    have : r i * (h i * d) = d * (r i * h i) := by rw [← Int.mul_assoc, Int.mul_comm]
    rw [this]
  rw [sm_congr n fun i _ => e1 i, sm_sub, sm_mul]
  congr 1
  rw [sm_swap (fun i m => N m * (r i * R m i)) K n]
  exact sm_congr K fun m _ => sm_mul _ _ n
section
variable {nil hn fn : Bool} {rows : List (Bool × List Int)} {h nums : List Int} {den : Int}
structure FfOk (rows : List (Bool × List Int)) (h nums : List Int) (den : Int) : Prop where
  o : FtOk rows h
  hl : nums.length = rows.length
  hd : 1 ≤ den ∧ den ≤ 100000000000
  hN : ∀ k, k < nums.length → -10000000000000 ≤ nums.getD k 0 ∧ nums.getD k 0 ≤ 10000000000000
theorem rmF_bd (f : FfOk rows h nums den) {k u : Nat} (hk : k < rows.length) (hu : u ≤ rows.length) : -5000000000000000000 ≤ rmF rows h nums den k u ∧ rmF rows h nums den k u ≤ 5000000000000000000 := by
  have hk2 := f.o.hk
  obtain ⟨_, _, q⟩ := f.o.Q hk false false
  have m1 := mul_bd (x := den) (y := fQ rows h k) (A := 100000000000) (B := 10000000) (by have := f.hd; omega) q (by omega)
  have h2 : ∀ m, m < u → -2000000000000000000 ≤ nums.getD m 0 * fP rows h.length k m ∧ nums.getD m 0 * fP rows h.length k m ≤ 2000000000000000000 := fun m hm => by
    obtain ⟨_, _, p⟩ := f.o.P (i := k) (j := m) hk (by omega) false false
    have := mul_bd (x := nums.getD m 0) (y := fP rows h.length k m) (A := 10000000000000) (B := 200000) (f.hN m (by have := f.hl; omega)) p (by omega)
    omega
  have h3 := sm_bd (B := 2000000000000000000) u h2
  unfold rmF
  have : (u : Int) ≤ 2 := by omega
  omega
set_option maxHeartbeats 8000000 in
theorem k79e {b : Bool} {n : Nat} {E : List (List AV)} {e : Int} (hE : plainR E = true) (h135 : Fn Try.prog 135 [.sl b n E, ints hn h] (i64 e) []) (he : e ≠ 0) : Fn Try.prog 79 [.sl b n E, ints hn h, .agg [ints fn nums, i64 den]] (i64 e) [] := by
  refine fn_of e79 ?_
  have hd1 : (e != 0) = true := by simp only [bne_iff_ne]; exact he
  unfold c79
  repeat' (first
    | ((with_reducible refine T_calm ?_ ?_); rfl)
    | with_reducible first
      | refine T_seq ?_
      | refine T_reg ?_
      | refine T_draw ?_
      | refine T_skip ?_
      | refine T_exit ?_
      | refine T_block ?_
      | refine T_cond_t rfl ?_
      | refine T_cond_f rfl ?_
      | refine wdW_cons rfl ?_
      | (show wcall _ false (.lit (.func (.func 135) _ _)) _ _ _ _; refine wcall_fn (h135) rfl (by simp [plainL, plain, hE]) ?_)
      | (show wcallX _ false (.lit (.func (.func 135) _ _)) _ _ _ _; refine wcallX_fn (h135) rfl (by simp [plainL, plain, plainR, hE]) ?_)
      | ((first | refine T_cond rfl (fun hc => ?_) (fun hc => ?_) | refine wguard_split (fun hc => ?_) (fun hc => ?_) | refine wguardX_split (fun hc => ?_) (fun hc => ?_)) <;> have hd := hc <;> (try simp (disch := omega) only [wrapI] at hd) <;> have hs := hd <;> (try simp only [Bool.not_eq_true', Bool.not_eq_false', Bool.and_eq_true, Bool.and_eq_false_iff, Bool.or_eq_true, Bool.or_eq_false_iff, decide_eq_true_eq, decide_eq_false_iff_not, beq_iff_eq, bne_iff_ne, beq_eq_false_iff_ne, bne_eq_false_iff_eq, Bool.not_true, Bool.not_false, gt_iff_lt, ge_iff_le, Int.not_lt, Int.not_le, ne_eq, Decidable.not_not] at hd) <;> (try simp at hs))
      | refine T_ret ?_
      | refine leave_of (.inr rfl) _ rfl ?_
      | refine leave_of (.inl rfl) _ rfl ?_
      | refine leaveA_of (.inr rfl) _ rfl ?_
      | refine leaveA_of (.inl rfl) _ rfl ?_
      | refine wif_intro ?_ (fun hc => ?_)
      | refine And.intro ?_ ?_
      | intro hc
    | simp (maxSteps := 4000000) only [wops_nil, wops_cons, wstep_none, wrun_call, wrun_mv, wrun_bin, wrun_box, get_mk, wop, aop, ev, look, put_some, writes, ores_some, binV, thenK, AV.parts, isOne, tupOf, List.map_cons, List.map_nil, List.length_cons, List.length_nil, List.getElem?_cons_zero, List.set_cons_zero, List.nil_append, List.append_nil, List.replicate_zero, List.replicate_succ, List.zipIdx_cons, List.zipIdx_nil, List.all_cons, List.all_nil, Option.map_some, if_true, if_false, Nat.reduceEqDiff, Nat.reduceAdd, Nat.add_zero, Nat.zero_add, Nat.zero_ne_one, reduceCtorEq, Bool.and_true, eq_self, true_and, and_self, freeze, lidsL, lids, List.flatMap_cons, List.flatMap_nil, List.all_cons, ren, *]
    | simp (disch := omega) only [getD_ints, wrapI]
    | (with_reducible show wcall _ false (.lit (.func (.func 135) _ _)) _ _ _ _; refine wcall_fn (h135) ?_ ?_ ?_; (next => simp [rfyL, rfy, hget, ints, take_rfy, hE]); (next => simp [plainL, plain, plainR, hE]))
    | (with_reducible show wcallX _ false (.lit (.func (.func 135) _ _)) _ _ _ _; refine wcallX_fn (h135) ?_ ?_ ?_; (next => simp [rfyL, rfy, hget, ints, take_rfy, hE]); (next => simp [plainL, plain, plainR, hE]))
    | omega)
  all_goals first | rfl
set_option maxHeartbeats 8000000 in
theorem k77e {b : Bool} {n : Nat} {E : List (List AV)} {e : Int} (hE : plainR E = true) (h135 : Fn Try.prog 135 [.sl b n E, ints hn h] (i64 e) []) (he : e ≠ 0) : Gv 2 Try.prog 77 [.sl b n E, ints hn h] [.agg [.sl true 0 [], i64 0], i64 e] := by
  refine gv_of e77 ?_
  have hd1 : (e != 0) = true := by simp only [bne_iff_ne]; exact he
  unfold c77
  repeat' (first
    | ((with_reducible refine T_calm ?_ ?_); rfl)
    | with_reducible first
      | refine T_seq ?_
      | refine T_reg ?_
      | refine T_draw ?_
      | refine T_skip ?_
      | refine T_exit ?_
      | refine T_block ?_
      | refine T_cond_t rfl ?_
      | refine T_cond_f rfl ?_
      | refine wdW_cons rfl ?_
      | (show wcall _ false (.lit (.func (.func 135) _ _)) _ _ _ _; refine wcall_fn (h135) rfl (by simp [plainL, plain, hE]) ?_)
      | (show wcallX _ false (.lit (.func (.func 135) _ _)) _ _ _ _; refine wcallX_fn (h135) rfl (by simp [plainL, plain, plainR, hE]) ?_)
      | ((first | refine T_cond rfl (fun hc => ?_) (fun hc => ?_) | refine wguard_split (fun hc => ?_) (fun hc => ?_) | refine wguardX_split (fun hc => ?_) (fun hc => ?_)) <;> have hd := hc <;> (try simp (disch := omega) only [wrapI] at hd) <;> have hs := hd <;> (try simp only [Bool.not_eq_true', Bool.not_eq_false', Bool.and_eq_true, Bool.and_eq_false_iff, Bool.or_eq_true, Bool.or_eq_false_iff, decide_eq_true_eq, decide_eq_false_iff_not, beq_iff_eq, bne_iff_ne, beq_eq_false_iff_ne, bne_eq_false_iff_eq, Bool.not_true, Bool.not_false, gt_iff_lt, ge_iff_le, Int.not_lt, Int.not_le, ne_eq, Decidable.not_not] at hd) <;> (try simp at hs))
      | refine T_ret ?_
      | refine wif_intro ?_ (fun hc => ?_)
      | refine And.intro ?_ ?_
      | intro hc
    | simp (maxSteps := 4000000) only [wops_nil, wops_cons, wstep_none, wrun_call, wrun_mv, wrun_bin, wrun_build, wrun_store, wrun_alloc, wop, aop, ev, look, put_some, put_none, writes, ores_some, binV, thenK, hget, fillA, putCells, AV.parts, isOne, toLits, mkAgg, List.map_cons, List.map_nil, List.length_cons, List.length_nil, List.getElem?_cons_zero, List.set_cons_zero, List.take_zero, List.drop_succ_cons, List.drop_nil, List.nil_append, List.append_nil, List.replicate_zero, List.replicate_succ, List.getD_cons_zero, List.zipIdx_cons, List.zipIdx_nil, List.all_cons, List.all_nil, Option.getD_some, Option.map_some, if_true, if_false, Nat.reduceEqDiff, Nat.reduceAdd, Nat.reduceLT, Nat.add_zero, Nat.zero_add, Nat.le_refl, Nat.zero_ne_one, reduceCtorEq, Bool.and_true, eq_self, true_and, and_self, freeze, lidsL, lids, List.flatMap_cons, List.flatMap_nil, List.all_cons, ren, *]
    | simp (disch := omega) only [getD_ints, wrapI]
    | (with_reducible show wcall _ false (.lit (.func (.func 135) _ _)) _ _ _ _; refine wcall_fn (h135) ?_ ?_ ?_; (next => simp [rfyL, rfy, hget, ints, take_rfy, hE]); (next => simp [plainL, plain, plainR, hE]))
    | (with_reducible show wcallX _ false (.lit (.func (.func 135) _ _)) _ _ _ _; refine wcallX_fn (h135) ?_ ?_ ?_; (next => simp [rfyL, rfy, hget, ints, take_rfy, hE]); (next => simp [plainL, plain, plainR, hE]))
    | omega)
  all_goals first | exact leave_g (.inr rfl) [.agg [.sl true 0 [], i64 0], i64 e] rfl rfl rfl
theorem any_range_t {p : Nat → Bool} {n k : Nat} (hk : k < n) (h : p k = true) : (List.range n).any p = true := by
  rw [List.any_eq_true]; exact ⟨k, List.mem_range.2 hk, h⟩
theorem any_range_f {p : Nat → Bool} {n : Nat} (h : ∀ k, k < n → p k = false) : (List.range n).any p = false := by
  rw [List.any_eq_false]; intro k hk; rw [h k (List.mem_range.1 hk)]; simp
def S79 (nil hn fn : Bool) (rows : List (Bool × List Int)) (h nums : List Int) (den : Int) (k : Nat) : St := ⟨[(0, .sl nil 1 (rows.map fun r => [ints r.1 r.2])), (1, ints hn h), (5, .loc 0 0 0), (52, .sl nil 1 (rows.map fun r => [ints r.1 r.2])), (53, i64 rows.length), (54, i64 k)], [.cells true false 2 [[ints fn nums, i64 den]]]⟩
set_option maxHeartbeats 8000000 in
theorem k79 (h0 : checkF rows h = 0) (hln : nums.length < 1000000) : Fn Try.prog 79 [.sl nil 1 (rows.map fun r => [ints r.1 r.2]), ints hn h, .agg [ints fn nums, i64 den]] (i64 (chkF rows h nums den)) [] := by
  refine fn_of e79 ?_
  have o := checkF_ok h0
  have hk := o.hk
  have hlh := o.hn
  have h135 := k135 (nil := nil) (hn := hn) (rows := rows) (ht0 := h) (by omega) (fun t ht => by rw [o.hr t ht]; omega) (by omega)
  rw [h0] at h135
  have hp := plain_rws rows
  have hl2 : (rows.map fun r => [ints r.1 r.2]).length = rows.length := by simp
  have h90 := k90g k138 fn nums (by omega)
  unfold chkF
  by_cases h1 : nums.length ≠ rows.length
  · rw [if_pos h1]
    have hd1 : ((nums.length : Int) != (rows.length : Int)) = true := by simp only [bne_iff_ne]; omega
    clear h90 o
    unfold c79
    repeat' (first
      | ((with_reducible refine T_calm ?_ ?_); rfl)
      | with_reducible first
        | refine T_seq ?_
        | refine T_reg ?_
        | refine T_draw ?_
        | refine T_skip ?_
        | refine T_exit ?_
        | refine T_block ?_
        | refine T_cond_t rfl ?_
        | refine T_cond_f rfl ?_
        | refine wdW_cons rfl ?_
        | (show wcall _ false (.lit (.func (.func 135) _ _)) _ _ _ _; refine wcall_fn (h135) rfl (by simp [plainL, plain, plain_rws]) ?_)
        | (show wcallX _ false (.lit (.func (.func 135) _ _)) _ _ _ _; refine wcallX_fn (h135) rfl (by simp [plainL, plain, plainR, renR_rws, plain_rws]) ?_)
        | ((first | refine T_cond rfl (fun hc => ?_) (fun hc => ?_) | refine wguard_split (fun hc => ?_) (fun hc => ?_) | refine wguardX_split (fun hc => ?_) (fun hc => ?_)) <;> have hd := hc <;> (try simp (disch := omega) only [wrapI] at hd) <;> have hs := hd <;> (try simp only [Bool.not_eq_true', Bool.not_eq_false', Bool.and_eq_true, Bool.and_eq_false_iff, Bool.or_eq_true, Bool.or_eq_false_iff, decide_eq_true_eq, decide_eq_false_iff_not, beq_iff_eq, bne_iff_ne, beq_eq_false_iff_ne, bne_eq_false_iff_eq, Bool.not_true, Bool.not_false, gt_iff_lt, ge_iff_le, Int.not_lt, Int.not_le, ne_eq, Decidable.not_not] at hd) <;> (try simp at hs))
        | refine T_ret ?_
        | refine leave_of (.inr rfl) _ rfl ?_
        | refine leave_of (.inl rfl) _ rfl ?_
        | refine leaveA_of (.inr rfl) _ rfl ?_
        | refine leaveA_of (.inl rfl) _ rfl ?_
        | refine wif_intro ?_ (fun hc => ?_)
        | refine And.intro ?_ ?_
        | intro hc
      | simp (maxSteps := 4000000) only [wops_nil, wops_cons, wstep_none, wrun_call, wrun_mv, wrun_bin, wrun_load, wrun_faddr, wrun_len, wrun_box, get_mk, wop, aop, ev, look, put_some, writes, ores_some, ores_map, ores_bind, binV, thenK, intV, lenOf, value, cut, hget, AV.parts, isOne, mkAgg, tupOf, List.map_cons, List.map_nil, List.length_cons, List.length_nil, List.getElem?_cons_zero, List.set_cons_zero, List.take_succ_cons, List.take_zero, List.drop_zero, List.nil_append, List.append_nil, List.replicate_zero, List.replicate_succ, List.getD_cons_zero, List.zipIdx_cons, List.zipIdx_nil, List.all_cons, List.all_nil, List.length_map, Option.pure_def, Option.bind_eq_bind, Option.getD_some, Option.map_some, if_true, if_false, Nat.reduceEqDiff, Nat.reduceAdd, Nat.add_zero, Nat.zero_add, Nat.zero_ne_one, reduceCtorEq, Bool.and_true, Bool.false_eq_true, eq_self, true_and, and_self, freeze, lidsL, lids, List.flatMap_cons, List.flatMap_nil, List.all_cons, ren, *]
      | simp (disch := omega) only [getD_ints, wrapI]
      | (with_reducible show wcall _ false (.lit (.func (.func 135) _ _)) _ _ _ _; refine wcall_fn (h135) ?_ ?_ ?_; (next => simp [rfyL, rfy, hget, ints, take_rfy, renR_rws, plain_rws]); (next => simp [plainL, plain, plainR, renR_rws, plain_rws]))
      | (with_reducible show wcallX _ false (.lit (.func (.func 135) _ _)) _ _ _ _; refine wcallX_fn (h135) ?_ ?_ ?_; (next => simp [rfyL, rfy, hget, ints, take_rfy, renR_rws, plain_rws]); (next => simp [plainL, plain, plainR, renR_rws, plain_rws]))
      | omega)
    all_goals first | rfl
  rw [if_neg h1]
  replace h1 := And.intro h1 trivial
  have hd1 : ((nums.length : Int) != (rows.length : Int)) = false := by simp only [bne_eq_false_iff_eq]; have := h1.1; omega
  have hle : id (nums.length = rows.length) := by have := h1.1; show nums.length = rows.length; omega
  clear h1
  by_cases h2 : ¬(1 ≤ den ∧ den ≤ 100000000000)
  · rw [if_pos h2]
    clear h90 o
    unfold c79
    repeat' (first
      | ((with_reducible refine T_calm ?_ ?_); rfl)
      | with_reducible first
        | refine T_seq ?_
        | refine T_reg ?_
        | refine T_draw ?_
        | refine T_skip ?_
        | refine T_exit ?_
        | refine T_block ?_
        | refine T_cond_t rfl ?_
        | refine T_cond_f rfl ?_
        | refine wdW_cons rfl ?_
        | (show wcall _ false (.lit (.func (.func 135) _ _)) _ _ _ _; refine wcall_fn (h135) rfl (by simp [plainL, plain, plain_rws]) ?_)
        | (show wcallX _ false (.lit (.func (.func 135) _ _)) _ _ _ _; refine wcallX_fn (h135) rfl (by simp [plainL, plain, plainR, renR_rws, plain_rws]) ?_)
        | (show wcall _ false (.lit (.func (.func 92) _ _)) _ _ _ _; refine wcall_fn (k92 _ _ _) rfl (by simp [plainL, plain]) ?_)
        | (show wcallX _ false (.lit (.func (.func 92) _ _)) _ _ _ _; refine wcallX_fn (k92 _ _ _) rfl (by simp [plainL, plain, plainR, renR_rws, plain_rws]) ?_)
        | ((first | refine T_cond rfl (fun hc => ?_) (fun hc => ?_) | refine wguard_split (fun hc => ?_) (fun hc => ?_) | refine wguardX_split (fun hc => ?_) (fun hc => ?_)) <;> have hd := hc <;> (try simp (disch := omega) only [wrapI] at hd) <;> have hs := hd <;> (try simp only [Bool.not_eq_true', Bool.not_eq_false', Bool.and_eq_true, Bool.and_eq_false_iff, decide_eq_true_eq, decide_eq_false_iff_not, Bool.not_false, Int.not_le] at hd) <;> (try simp at hs))
        | refine T_ret ?_
        | refine leave_of (.inr rfl) _ rfl ?_
        | refine leave_of (.inl rfl) _ rfl ?_
        | refine leaveA_of (.inr rfl) _ rfl ?_
        | refine leaveA_of (.inl rfl) _ rfl ?_
        | refine wif_intro ?_ (fun hc => ?_)
        | refine And.intro ?_ ?_
        | intro hc
      | simp (maxSteps := 4000000) only [wops_nil, wops_cons, wstep_none, wstep_some, wguard_ff, wguard_tf, wrun_call, wrun_mv, wrun_pick, wrun_bin, wrun_not, wrun_load, wrun_faddr, wrun_len, wrun_box, get_mk, wop, aop, ev, look, put_some, writes, ores_some, ores_map, ores_bind, binV, thenK, boolV, intV, lenOf, value, cut, hget, AV.parts, isOne, mkAgg, tupOf, List.map_cons, List.map_nil, List.length_cons, List.length_nil, List.getElem?_cons_zero, List.set_cons_zero, List.take_succ_cons, List.take_zero, List.take_nil, List.drop_succ_cons, List.drop_zero, List.nil_append, List.append_nil, List.replicate_zero, List.replicate_succ, List.getD_cons_zero, List.zipIdx_cons, List.zipIdx_nil, List.all_cons, List.all_nil, List.length_map, Option.pure_def, Option.bind_eq_bind, Option.getD_some, Option.map_some, if_true, if_false, Nat.reduceEqDiff, Nat.reduceAdd, Nat.add_zero, Nat.zero_add, Nat.zero_ne_one, reduceCtorEq, Bool.not_true, Bool.not_false, Bool.and_true, Bool.false_eq_true, eq_self, true_and, and_self, decide_true, freeze, lidsL, lids, List.flatMap_cons, List.flatMap_nil, List.all_cons, ren, *]
      | simp (disch := omega) only [getD_ints, wrapI]
      | (with_reducible show wcall _ false (.lit (.func (.func 135) _ _)) _ _ _ _; refine wcall_fn (h135) ?_ ?_ ?_; (next => simp [rfyL, rfy, hget, ints, take_rfy, renR_rws, plain_rws]); (next => simp [plainL, plain, plainR, renR_rws, plain_rws]))
      | (with_reducible show wcallX _ false (.lit (.func (.func 135) _ _)) _ _ _ _; refine wcallX_fn (h135) ?_ ?_ ?_; (next => simp [rfyL, rfy, hget, ints, take_rfy, renR_rws, plain_rws]); (next => simp [plainL, plain, plainR, renR_rws, plain_rws]))
      | (with_reducible show wcall _ false (.lit (.func (.func 92) _ _)) _ _ _ _; refine wcall_fn (k92 _ _ _) ?_ ?_ ?_; (next => simp [rfyL, rfy, hget, ints, take_rfy, renR_rws, plain_rws]); (next => simp [plainL, plain, plainR, renR_rws, plain_rws]))
      | (with_reducible show wcallX _ false (.lit (.func (.func 92) _ _)) _ _ _ _; refine wcallX_fn (k92 _ _ _) ?_ ?_ ?_; (next => simp [rfyL, rfy, hget, ints, take_rfy, renR_rws, plain_rws]); (next => simp [plainL, plain, plainR, renR_rws, plain_rws]))
      | omega)
    all_goals first | rfl
  rw [if_neg h2]
  by_cases h3 : nums.any (outB 10000000000000) = true
  · rw [if_pos h3]
    rw [h3] at h90
    clear o h3
    replace h90 := And.intro h90 trivial
    unfold c79
    repeat' (first
      | ((with_reducible refine T_calm ?_ ?_); rfl)
      | with_reducible first
        | refine T_seq ?_
        | refine T_reg ?_
        | refine T_draw ?_
        | refine T_skip ?_
        | refine T_exit ?_
        | refine T_block ?_
        | refine T_cond_t rfl ?_
        | refine T_cond_f rfl ?_
        | refine wdW_cons rfl ?_
        | (show wcall _ false (.lit (.func (.func 135) _ _)) _ _ _ _; refine wcall_fn (h135) rfl (by simp [plainL, plain, plain_rws]) ?_)
        | (show wcallX _ false (.lit (.func (.func 135) _ _)) _ _ _ _; refine wcallX_fn (h135) rfl (by simp [plainL, plain, plainR, renR_rws, plain_rws]) ?_)
        | (show wcall _ false (.lit (.func (.func 92) _ _)) _ _ _ _; refine wcall_fn (k92 _ _ _) rfl (by simp [plainL, plain]) ?_)
        | (show wcallX _ false (.lit (.func (.func 92) _ _)) _ _ _ _; refine wcallX_fn (k92 _ _ _) rfl (by simp [plainL, plain, plainR, renR_rws, plain_rws]) ?_)
        | ((first | refine T_cond rfl (fun hc => ?_) (fun hc => ?_) | refine wguard_split (fun hc => ?_) (fun hc => ?_) | refine wguardX_split (fun hc => ?_) (fun hc => ?_)) <;> have hd := hc <;> (try simp (disch := omega) only [wrapI] at hd) <;> have hs := hd <;> (try simp only [Bool.not_eq_true', Bool.not_eq_false', Bool.and_eq_true, Bool.and_eq_false_iff, decide_eq_true_eq, decide_eq_false_iff_not, Bool.not_false, Int.not_le] at hd) <;> (try simp at hs))
        | refine T_ret ?_
        | refine leave_of (.inr rfl) _ rfl ?_
        | refine leave_of (.inl rfl) _ rfl ?_
        | refine leaveA_of (.inr rfl) _ rfl ?_
        | refine leaveA_of (.inl rfl) _ rfl ?_
        | refine wif_intro ?_ (fun hc => ?_)
        | refine And.intro ?_ ?_
        | intro hc
      | simp (maxSteps := 4000000) only [wops_nil, wops_cons, wstep_none, wstep_some, wguard_ff, wguard_tf, wrun_call, wrun_mv, wrun_pick, wrun_bin, wrun_not, wrun_load, wrun_faddr, wrun_len, wrun_box, get_mk, wop, aop, ev, look, put_some, writes, ores_some, ores_map, ores_bind, binV, thenK, boolV, intV, lenOf, value, cut, hget, AV.parts, isOne, mkAgg, tupOf, List.map_cons, List.map_nil, List.length_cons, List.length_nil, List.getElem?_cons_zero, List.set_cons_zero, List.take_succ_cons, List.take_zero, List.take_nil, List.drop_succ_cons, List.drop_zero, List.nil_append, List.append_nil, List.replicate_zero, List.replicate_succ, List.getD_cons_zero, List.zipIdx_cons, List.zipIdx_nil, List.all_cons, List.all_nil, List.length_map, Option.pure_def, Option.bind_eq_bind, Option.getD_some, Option.map_some, if_true, if_false, Nat.reduceEqDiff, Nat.reduceAdd, Nat.add_zero, Nat.zero_add, Nat.zero_ne_one, reduceCtorEq, Bool.not_true, Bool.not_false, Bool.and_true, Bool.false_eq_true, eq_self, true_and, and_self, decide_true, freeze, lidsL, lids, List.flatMap_cons, List.flatMap_nil, List.all_cons, ren, *]
      | simp (disch := omega) only [getD_ints, wrapI]
      | (with_reducible show wcall _ false (.lit (.func (.func 135) _ _)) _ _ _ _; refine wcall_fn (h135) ?_ ?_ ?_; (next => simp [rfyL, rfy, hget, ints, take_rfy, renR_rws, plain_rws]); (next => simp [plainL, plain, plainR, renR_rws, plain_rws]))
      | (with_reducible show wcallX _ false (.lit (.func (.func 135) _ _)) _ _ _ _; refine wcallX_fn (h135) ?_ ?_ ?_; (next => simp [rfyL, rfy, hget, ints, take_rfy, renR_rws, plain_rws]); (next => simp [plainL, plain, plainR, renR_rws, plain_rws]))
      | (with_reducible show wcall _ false (.lit (.func (.func 92) _ _)) _ _ _ _; refine wcall_fn (k92 _ _ _) ?_ ?_ ?_; (next => simp [rfyL, rfy, hget, ints, take_rfy, renR_rws, plain_rws]); (next => simp [plainL, plain, plainR, renR_rws, plain_rws]))
      | (with_reducible show wcallX _ false (.lit (.func (.func 92) _ _)) _ _ _ _; refine wcallX_fn (k92 _ _ _) ?_ ?_ ?_; (next => simp [rfyL, rfy, hget, ints, take_rfy, renR_rws, plain_rws]); (next => simp [plainL, plain, plainR, renR_rws, plain_rws]))
      | omega)
    refine wcall_rawfn h90.1 (by simp [plainL, plain]) ?_
    clear h90
    repeat' (first
      | ((with_reducible refine T_calm ?_ ?_); rfl)
      | with_reducible first
        | refine T_seq ?_
        | refine T_reg ?_
        | refine T_draw ?_
        | refine T_skip ?_
        | refine T_exit ?_
        | refine T_block ?_
        | refine T_cond_t rfl ?_
        | refine T_cond_f rfl ?_
        | refine wdW_cons rfl ?_
        | ((first | refine T_cond rfl (fun hc => ?_) (fun hc => ?_) | refine wguard_split (fun hc => ?_) (fun hc => ?_) | refine wguardX_split (fun hc => ?_) (fun hc => ?_)) <;> have hd := hc <;> (try simp (disch := omega) only [wrapI] at hd) <;> have hs := hd <;> (try simp only [Bool.not_eq_true', Bool.not_eq_false', Bool.and_eq_true, Bool.and_eq_false_iff, Bool.or_eq_true, Bool.or_eq_false_iff, decide_eq_true_eq, decide_eq_false_iff_not, beq_iff_eq, bne_iff_ne, beq_eq_false_iff_ne, bne_eq_false_iff_eq, Bool.not_true, Bool.not_false, gt_iff_lt, ge_iff_le, Int.not_lt, Int.not_le, ne_eq, Decidable.not_not] at hd) <;> (try simp at hs))
        | refine T_ret ?_
        | refine leave_of (.inr rfl) _ rfl ?_
        | refine leave_of (.inl rfl) _ rfl ?_
        | refine leaveA_of (.inr rfl) _ rfl ?_
        | refine leaveA_of (.inl rfl) _ rfl ?_
        | refine wif_intro ?_ (fun hc => ?_)
        | refine And.intro ?_ ?_
        | intro hc
      | simp (maxSteps := 4000000) only [wops_nil, wops_cons, wstep_none, wrun_mv, wrun_pick, get_mk, wop, aop, ev, look, put_some, writes, ores_some, thenK, tupOf, List.length_cons, List.length_nil, List.append_nil, List.replicate_zero, if_true, if_false, Nat.reduceEqDiff, Nat.zero_add, reduceCtorEq, Bool.false_eq_true, eq_self, ren, *]
      | simp (disch := omega) only [getD_ints, wrapI]
      | omega)
    all_goals first | rfl
  rw [if_neg h3]
  simp only [Bool.not_eq_true] at h3
  have f : FfOk rows h nums den := ⟨o, hle, by omega, fun k hk => any_out h3 hk⟩
  rw [h3] at h90
  clear h3 o
  have hg := fun k => gfP_bd (N := nums) (D := den) (by omega) k
  replace h90 := And.intro h90 trivial
  replace f := And.intro f trivial
  replace hg := And.intro hg trivial
  unfold c79
  repeat' (first
    | ((with_reducible refine T_calm ?_ ?_); rfl)
    | with_reducible first
      | refine T_seq ?_
      | refine T_reg ?_
      | refine T_draw ?_
      | refine T_skip ?_
      | refine T_exit ?_
      | refine T_block ?_
      | refine T_cond_t rfl ?_
      | refine T_cond_f rfl ?_
      | refine wdW_cons rfl ?_
      | (show wcall _ false (.lit (.func (.func 135) _ _)) _ _ _ _; refine wcall_fn (h135) rfl (by simp [plainL, plain, plain_rws]) ?_)
      | (show wcallX _ false (.lit (.func (.func 135) _ _)) _ _ _ _; refine wcallX_fn (h135) rfl (by simp [plainL, plain, plainR, renR_rws, plain_rws]) ?_)
      | (show wcall _ false (.lit (.func (.func 92) _ _)) _ _ _ _; refine wcall_fn (k92 _ _ _) rfl (by simp [plainL, plain]) ?_)
      | (show wcallX _ false (.lit (.func (.func 92) _ _)) _ _ _ _; refine wcallX_fn (k92 _ _ _) rfl (by simp [plainL, plain, plainR, renR_rws, plain_rws]) ?_)
      | ((first | refine T_cond rfl (fun hc => ?_) (fun hc => ?_) | refine wguard_split (fun hc => ?_) (fun hc => ?_) | refine wguardX_split (fun hc => ?_) (fun hc => ?_)) <;> have hd := hc <;> (try simp (disch := omega) only [wrapI] at hd) <;> have hs := hd <;> (try simp only [Bool.not_eq_true', Bool.not_eq_false', Bool.and_eq_true, Bool.and_eq_false_iff, decide_eq_true_eq, decide_eq_false_iff_not, Bool.not_false, Int.not_le] at hd) <;> (try simp at hs))
      | refine T_ret ?_
      | refine leave_of (.inr rfl) _ rfl ?_
      | refine leave_of (.inl rfl) _ rfl ?_
      | refine leaveA_of (.inr rfl) _ rfl ?_
      | refine leaveA_of (.inl rfl) _ rfl ?_
      | refine wif_intro ?_ (fun hc => ?_)
      | refine And.intro ?_ ?_
      | intro hc
    | simp (maxSteps := 4000000) only [wops_nil, wops_cons, wstep_none, wstep_some, wguard_ff, wguard_tf, wrun_call, wrun_mv, wrun_pick, wrun_bin, wrun_not, wrun_load, wrun_faddr, wrun_len, wrun_box, get_mk, wop, aop, ev, look, put_some, writes, ores_some, ores_map, ores_bind, binV, thenK, boolV, intV, lenOf, value, cut, hget, AV.parts, isOne, mkAgg, tupOf, List.map_cons, List.map_nil, List.length_cons, List.length_nil, List.getElem?_cons_zero, List.set_cons_zero, List.take_succ_cons, List.take_zero, List.take_nil, List.drop_succ_cons, List.drop_zero, List.nil_append, List.append_nil, List.replicate_zero, List.replicate_succ, List.getD_cons_zero, List.zipIdx_cons, List.zipIdx_nil, List.all_cons, List.all_nil, List.length_map, Option.pure_def, Option.bind_eq_bind, Option.getD_some, Option.map_some, if_true, if_false, Nat.reduceEqDiff, Nat.reduceAdd, Nat.add_zero, Nat.zero_add, Nat.zero_ne_one, reduceCtorEq, Bool.not_true, Bool.not_false, Bool.and_true, Bool.false_eq_true, eq_self, true_and, and_self, decide_true, ne_eq, freeze, lidsL, lids, List.flatMap_cons, List.flatMap_nil, List.all_cons, ren, *]
    | simp (disch := omega) only [getD_ints, wrapI]
    | (with_reducible show wcall _ false (.lit (.func (.func 135) _ _)) _ _ _ _; refine wcall_fn (h135) ?_ ?_ ?_; (next => simp [rfyL, rfy, hget, ints, take_rfy, renR_rws, plain_rws]); (next => simp [plainL, plain, plainR, renR_rws, plain_rws]))
    | (with_reducible show wcallX _ false (.lit (.func (.func 135) _ _)) _ _ _ _; refine wcallX_fn (h135) ?_ ?_ ?_; (next => simp [rfyL, rfy, hget, ints, take_rfy, renR_rws, plain_rws]); (next => simp [plainL, plain, plainR, renR_rws, plain_rws]))
    | (with_reducible show wcall _ false (.lit (.func (.func 92) _ _)) _ _ _ _; refine wcall_fn (k92 _ _ _) ?_ ?_ ?_; (next => simp [rfyL, rfy, hget, ints, take_rfy, renR_rws, plain_rws]); (next => simp [plainL, plain, plainR, renR_rws, plain_rws]))
    | (with_reducible show wcallX _ false (.lit (.func (.func 92) _ _)) _ _ _ _; refine wcallX_fn (k92 _ _ _) ?_ ?_ ?_; (next => simp [rfyL, rfy, hget, ints, take_rfy, renR_rws, plain_rws]); (next => simp [plainL, plain, plainR, renR_rws, plain_rws]))
    | omega)
  refine wcall_rawfn h90.1 (by simp [plainL, plain]) ?_
  clear h90
  repeat' (first
    | ((with_reducible refine T_calm ?_ ?_); rfl)
    | with_reducible first
      | refine T_seq ?_
      | refine T_reg ?_
      | refine T_draw ?_
      | refine T_skip ?_
      | refine T_exit ?_
      | refine T_block ?_
      | refine T_cond_t rfl ?_
      | refine T_cond_f rfl ?_
      | refine wdW_cons rfl ?_
      | ((first | refine T_cond rfl (fun hc => ?_) (fun hc => ?_) | refine wguard_split (fun hc => ?_) (fun hc => ?_) | refine wguardX_split (fun hc => ?_) (fun hc => ?_)) <;> have hd := hc <;> (try simp (disch := omega) only [wrapI] at hd) <;> have hs := hd <;> (try simp only [Bool.not_eq_true', Bool.not_eq_false', Bool.and_eq_true, Bool.and_eq_false_iff, Bool.or_eq_true, Bool.or_eq_false_iff, decide_eq_true_eq, decide_eq_false_iff_not, beq_iff_eq, bne_iff_ne, beq_eq_false_iff_ne, bne_eq_false_iff_eq, Bool.not_true, Bool.not_false, gt_iff_lt, ge_iff_le, Int.not_lt, Int.not_le, ne_eq, Decidable.not_not] at hd) <;> (try simp at hs))
      | refine T_ret ?_
      | refine leave_of (.inr rfl) _ rfl ?_
      | refine leave_of (.inl rfl) _ rfl ?_
      | refine leaveA_of (.inr rfl) _ rfl ?_
      | refine leaveA_of (.inl rfl) _ rfl ?_
      | refine wif_intro ?_ (fun hc => ?_)
      | refine And.intro ?_ ?_
      | intro hc
    | simp (maxSteps := 4000000) only [wops_nil, wops_cons, wstep_none, wrun_mv, wrun_pick, wrun_load, wrun_faddr, wrun_len, wop, aop, ev, look, put_some, writes, ores_some, ores_map, ores_bind, thenK, intV, lenOf, value, cut, hget, mkAgg, List.length_cons, List.length_nil, List.getElem?_cons_zero, List.take_succ_cons, List.take_zero, List.take_nil, List.drop_succ_cons, List.drop_zero, List.append_nil, List.replicate_zero, List.getD_cons_zero, List.length_map, Option.pure_def, Option.bind_eq_bind, Option.getD_some, Option.map_some, if_true, if_false, Nat.reduceEqDiff, Nat.add_zero, Nat.zero_add, reduceCtorEq, Bool.false_eq_true, eq_self, *]
    | simp (disch := omega) only [getD_ints, wrapI]
    | omega)
  refine T_for [0, 1, 5, 8, 40, 41, 42] (fun k => ⟨[(0, .sl nil 1 (rows.map fun r => [ints r.1 r.2])), (1, ints hn h), (5, .loc 0 0 0), (8, i64 (gfP nums den k)), (40, ints fn nums), (41, i64 nums.length), (42, i64 k)], [.cells true false 2 [[ints fn nums, i64 den]]]⟩) nums.length (fun _ => True) 0 ?_ trivial (Nat.zero_le _) ?_
  · simp [St.only, get_mk, look, gfP]
  intro k hk _
  by_cases hkn : k < nums.length
  · have g1 : (nums.map fun x => [i64 x]).getD k [] = [i64 (nums.getD k 0)] := getD_ints hkn
    have b1 := f.1.hN k hkn
    have b2 := hg.1 k
    have h137 := k137 (nums.getD k 0) (gfP nums den k) (by omega) (by omega)
    have e : gfP nums den (k + 1) = Int.gcd (nums.getD k 0) (gfP nums den k) := rfl
    rw [e]
    clear hg f e
    unfold c79l0
    repeat' (first
      | ((with_reducible refine T_calm ?_ ?_); rfl)
      | with_reducible first
        | refine T_seq ?_
        | refine T_reg ?_
        | refine T_draw ?_
        | refine T_skip ?_
        | refine T_exit ?_
        | refine T_block ?_
        | refine T_cond_t rfl ?_
        | refine T_cond_f rfl ?_
        | refine wdW_cons rfl ?_
        | (show wcall _ false (.lit (.func (.func 137) _ _)) _ _ _ _; refine wcall_fn (h137) rfl (by simp [plainL, plain]) ?_)
        | (show wcallX _ false (.lit (.func (.func 137) _ _)) _ _ _ _; refine wcallX_fn (h137) rfl (by simp [plainL, plain, plainR, Int.toNat_natCast]) ?_)
        | ((first | refine T_cond rfl (fun hc => ?_) (fun hc => ?_) | refine wguard_split (fun hc => ?_) (fun hc => ?_) | refine wguardX_split (fun hc => ?_) (fun hc => ?_)) <;> have hd := hc <;> (try simp (disch := omega) only [wrapI] at hd) <;> have hs := hd <;> (try simp only [decide_eq_true_eq, decide_eq_false_iff_not, bne_iff_ne, bne_eq_false_iff_eq, Int.not_lt, ne_eq] at hd) <;> (try simp at hs))
        | refine T_ret ?_
        | refine leave_of (.inr rfl) _ rfl ?_
        | refine leave_of (.inl rfl) _ rfl ?_
        | refine leaveA_of (.inr rfl) _ rfl ?_
        | refine leaveA_of (.inl rfl) _ rfl ?_
        | refine wif_intro ?_ (fun hc => ?_)
        | refine And.intro ?_ ?_
        | intro hc
      | simp (maxSteps := 4000000) only [wops_nil, wops_cons, wstep_none, wrun_call, wrun_mv, wrun_bin, wrun_load, wrun_iaddrS, wrun_len, get_mk, wop, aop, ev, look, put_some, writes, ores_some, ores_ite_none, ores_map, ores_bind, binV, thenK, blockK, intV, lenOf, value, cut, hget, mkAgg, tupOf, List.map_cons, List.map_nil, List.length_cons, List.length_nil, List.take_succ_cons, List.take_nil, List.drop_zero, List.append_nil, List.replicate_zero, List.length_map, Option.pure_def, Option.bind_eq_bind, Option.map_some, if_true, if_false, Nat.reduceEqDiff, Nat.zero_add, reduceCtorEq, Bool.false_eq_true, eq_self, true_and, and_true, and_self, decide_true, freeze, lidsL, lids, List.flatMap_cons, List.flatMap_nil, ren, Int.toNat_natCast, *]
      | simp (disch := omega) only [wrapI]
      | (with_reducible show wcall _ false (.lit (.func (.func 137) _ _)) _ _ _ _; refine wcall_fn (h137) ?_ ?_ ?_; (next => simp [rfyL, rfy, hget, ints, take_rfy, Int.toNat_natCast]); (next => simp [plainL, plain, plainR, Int.toNat_natCast]))
      | (with_reducible show wcallX _ false (.lit (.func (.func 137) _ _)) _ _ _ _; refine wcallX_fn (h137) ?_ ?_ ?_; (next => simp [rfyL, rfy, hget, ints, take_rfy, Int.toNat_natCast]); (next => simp [plainL, plain, plainR, Int.toNat_natCast]))
      | omega)
    all_goals first | (simp [St.only, get_mk, look]; done)
  · have hke : k = nums.length := by omega
    subst hke
    have b2 := hg.1 nums.length
    clear hg
    by_cases hg1 : gfP nums den nums.length ≠ 1
    · rw [if_pos hg1]
      have hd3 : (gfP nums den nums.length != 1) = true := by simp only [bne_iff_ne]; exact hg1
      clear f
      generalize gfP nums den nums.length = g at *
      unfold c79l0
      repeat' (first
        | ((with_reducible refine T_calm ?_ ?_); rfl)
        | with_reducible first
          | refine T_seq ?_
          | refine T_reg ?_
          | refine T_draw ?_
          | refine T_skip ?_
          | refine T_exit ?_
          | refine T_block ?_
          | refine T_cond_t rfl ?_
          | refine T_cond_f rfl ?_
          | refine wdW_cons rfl ?_
          | ((first | refine T_cond rfl (fun hc => ?_) (fun hc => ?_) | refine wguard_split (fun hc => ?_) (fun hc => ?_) | refine wguardX_split (fun hc => ?_) (fun hc => ?_)) <;> have hd := hc <;> (try simp (disch := omega) only [wrapI] at hd) <;> have hs := hd <;> (try simp only [decide_eq_true_eq, decide_eq_false_iff_not, Int.not_lt] at hd) <;> (try simp at hs))
          | refine T_ret ?_
          | refine leave_of (.inr rfl) _ rfl ?_
          | refine leave_of (.inl rfl) _ rfl ?_
          | refine leaveA_of (.inr rfl) _ rfl ?_
          | refine leaveA_of (.inl rfl) _ rfl ?_
          | refine wif_intro ?_ (fun hc => ?_)
          | refine And.intro ?_ ?_
          | intro hc
        | simp (maxSteps := 4000000) only [wops_nil, wops_cons, wstep_none, wrun_mv, wrun_bin, get_mk, wop, aop, ev, look, put_some, writes, ores_some, binV, thenK, blockK, tupOf, List.length_cons, List.length_nil, List.append_nil, List.replicate_zero, Option.map_some, if_true, if_false, Nat.reduceEqDiff, Nat.zero_add, reduceCtorEq, eq_self, and_true, false_and, ren, Int.toNat_natCast, *]
        | simp (disch := omega) only [getD_ints, wrapI]
        | omega)
      all_goals first | rfl
    rw [if_neg hg1]
    have hd3 : (gfP nums den nums.length != 1) = false := by simp only [bne_eq_false_iff_eq]; omega
    clear hg1
    generalize gfP nums den nums.length = g at *
    unfold c79l0
    repeat' (first
      | ((with_reducible refine T_calm ?_ ?_); rfl)
      | with_reducible first
        | refine T_seq ?_
        | refine T_reg ?_
        | refine T_draw ?_
        | refine T_skip ?_
        | refine T_exit ?_
        | refine T_block ?_
        | refine T_cond_t rfl ?_
        | refine T_cond_f rfl ?_
        | refine wdW_cons rfl ?_
        | ((first | refine T_cond rfl (fun hc => ?_) (fun hc => ?_) | refine wguard_split (fun hc => ?_) (fun hc => ?_) | refine wguardX_split (fun hc => ?_) (fun hc => ?_)) <;> have hd := hc <;> (try simp (disch := omega) only [wrapI] at hd) <;> have hs := hd <;> (try simp only [decide_eq_true_eq, decide_eq_false_iff_not, Int.not_lt] at hd) <;> (try simp at hs))
        | refine T_ret ?_
        | refine leave_of (.inr rfl) _ rfl ?_
        | refine leave_of (.inl rfl) _ rfl ?_
        | refine leaveA_of (.inr rfl) _ rfl ?_
        | refine leaveA_of (.inl rfl) _ rfl ?_
        | refine wif_intro ?_ (fun hc => ?_)
        | refine And.intro ?_ ?_
        | intro hc
      | simp (maxSteps := 4000000) only [wops_nil, wops_cons, wstep_none, wrun_mv, wrun_bin, wrun_len, wop, aop, ev, look, put_some, writes, ores_some, ores_map, ores_bind, binV, thenK, blockK, intV, lenOf, hget, List.length_cons, List.length_nil, List.append_nil, List.replicate_zero, Option.pure_def, Option.bind_eq_bind, Option.map_some, if_true, if_false, Nat.reduceEqDiff, Nat.zero_add, reduceCtorEq, eq_self, and_true, false_and, Int.toNat_natCast, *]
      | simp (disch := omega) only [getD_ints, wrapI]
      | omega)
    refine T_for [0, 1, 5, 52, 53, 54] (S79 nil hn fn rows h nums den) rows.length (fun k => ∀ j, j < k → rmF rows h nums den j rows.length = 0) 0 ?_ (fun j hj => by omega) (Nat.zero_le _) ?_
    · unfold S79; simp [St.only, get_mk, look]
    intro k hk hI
    by_cases hkr : k < rows.length
    · have r1 := rws_get hkr
      obtain ⟨h136a, _, q⟩ := f.1.o.Q hkr (rowN rows k).1 hn
      have m1 := mul_bd (x := den) (y := fQ rows h k) (A := 100000000000) (B := 10000000) (by omega) q (by omega)
      have ew : IntKind.i64.wrap (den * fQ rows h k) = den * fQ rows h k := wrapI (by omega) (by omega)
      have e0 : rmF rows h nums den k 0 = den * fQ rows h k := by simp [rmF, sm]
      replace hI := And.intro hI trivial
      unfold c79l2 S79
      repeat' (first
        | ((with_reducible refine T_calm ?_ ?_); rfl)
        | with_reducible first
          | refine T_seq ?_
          | refine T_reg ?_
          | refine T_draw ?_
          | refine T_skip ?_
          | refine T_exit ?_
          | refine T_block ?_
          | refine T_cond_t rfl ?_
          | refine T_cond_f rfl ?_
          | refine wdW_cons rfl ?_
          | (show wcall _ false (.lit (.func (.func 136) _ _)) _ _ _ _; refine wcall_fn (h136a) rfl (by simp [plainL, plain, plainR, Int.toNat_natCast, renR_rws, plain_rws]) ?_)
          | (show wcallX _ false (.lit (.func (.func 136) _ _)) _ _ _ _; refine wcallX_fn (h136a) rfl (by simp [plainL, plain]) ?_)
          | ((first | refine T_cond rfl (fun hc => ?_) (fun hc => ?_) | refine wguard_split (fun hc => ?_) (fun hc => ?_) | refine wguardX_split (fun hc => ?_) (fun hc => ?_)) <;> have hd := hc <;> (try simp (disch := omega) only [wrapI] at hd) <;> have hs := hd <;> (try simp only [decide_eq_true_eq, decide_eq_false_iff_not, Int.not_lt] at hd) <;> (try simp at hs))
          | refine T_ret ?_
          | refine leave_of (.inr rfl) _ rfl ?_
          | refine leave_of (.inl rfl) _ rfl ?_
          | refine leaveA_of (.inr rfl) _ rfl ?_
          | refine leaveA_of (.inl rfl) _ rfl ?_
          | refine wif_intro ?_ (fun hc => ?_)
          | refine And.intro ?_ ?_
          | intro hc
        | simp (maxSteps := 4000000) only [wops_nil, wops_cons, wstep_none, wrun_mv, wrun_bin, wrun_load, wrun_faddr, wrun_iaddrS, wrun_len, wrunX_mv, wrunX_bin, wrunX_load, wrunX_faddr, wdW_nil, wstepX_none, wrunX_call, get_mk, wop, aop, ev, look, put_some, writes, ores_some, ores_ite_none, ores_map, ores_bind, binV, thenK, blockK, intV, lenOf, value, cut, hget, toLits, mkAgg, tupOf, List.map_cons, List.map_nil, List.length_cons, List.length_nil, List.getElem?_cons_zero, List.take_succ_cons, List.take_nil, List.drop_succ_cons, List.drop_zero, List.append_nil, List.replicate_zero, List.getD_cons_zero, Option.pure_def, Option.bind_eq_bind, Option.getD_some, Option.map_some, if_true, if_false, Nat.reduceEqDiff, Nat.zero_add, Nat.zero_ne_one, reduceCtorEq, Bool.false_eq_true, eq_self, true_and, and_true, and_self, decide_true, freeze, lidsL, lids, List.flatMap_cons, List.flatMap_nil, ren, Int.toNat_natCast, *]
        | simp (disch := omega) only [getD_ints, wrapI]
        | (with_reducible show wcall _ false (.lit (.func (.func 136) _ _)) _ _ _ _; refine wcall_fn (h136a) ?_ ?_ ?_; (next => simp [rfyL, rfy, hget, ints, take_rfy, Int.toNat_natCast, renR_rws, plain_rws]); (next => simp [plainL, plain, plainR, Int.toNat_natCast, renR_rws, plain_rws]))
        | (with_reducible show wcallX _ false (.lit (.func (.func 136) _ _)) _ _ _ _; refine wcallX_fn (h136a) ?_ ?_ ?_; (next => simp [rfyL, rfy, hget, ints, take_rfy, Int.toNat_natCast, renR_rws, plain_rws]); (next => simp [plainL, plain, plainR, Int.toNat_natCast, renR_rws, plain_rws]))
        | omega)
      refine T_for [0, 1, 5, 12, 13, 52, 53, 54, 64, 65, 66] (fun m => ⟨[(0, .sl nil 1 (rows.map fun r => [ints r.1 r.2])), (1, ints hn h), (5, .loc 0 0 0), (12, ints (rowN rows k).1 (rowN rows k).2), (13, i64 (rmF rows h nums den k m)), (52, .sl nil 1 (rows.map fun r => [ints r.1 r.2])), (53, i64 rows.length), (54, i64 k), (64, .sl nil 1 (rows.map fun r => [ints r.1 r.2])), (65, i64 rows.length), (66, i64 m)], [.cells true false 2 [[ints fn nums, i64 den]]]⟩) rows.length (fun _ => True) 0 ?_ trivial (Nat.zero_le _) ?_
      · simp [St.only, get_mk, look, e0]
      clear e0 ew m1 q h136a
      intro m hm _
      by_cases hmr : m < rows.length
      · have r2 := rws_get hmr
        obtain ⟨h136b, _, p⟩ := f.1.o.P hkr hmr (rowN rows k).1 (rowN rows m).1
        have g1 : (nums.map fun x => [i64 x]).getD m [] = [i64 (nums.getD m 0)] := getD_ints (by have : nums.length = rows.length := hle; omega)
        have hmn : m < nums.length := by have : nums.length = rows.length := hle; omega
        have b1 := f.1.hN m hmn
        have b3 := rmF_bd f.1 hkr (u := m) (by omega)
        have b4 := rmF_bd f.1 hkr (u := m + 1) (by omega)
        have e : rmF rows h nums den k (m + 1) = rmF rows h nums den k m - nums.getD m 0 * fP rows h.length k m := by unfold rmF; rw [sm]; omega
        have m1 := mul_bd (x := nums.getD m 0) (y := fP rows h.length k m) (A := 10000000000000) (B := 200000) b1 p (by omega)
        rw [e] at b4 ⊢
        have ew1 : IntKind.i64.wrap (nums.getD m 0 * fP rows h.length k m) = nums.getD m 0 * fP rows h.length k m := wrapI (by omega) (by omega)
        have ew2 : IntKind.i64.wrap (rmF rows h nums den k m - nums.getD m 0 * fP rows h.length k m) = rmF rows h nums den k m - nums.getD m 0 * fP rows h.length k m := wrapI (by omega) (by omega)
        clear f e hI
        generalize rmF rows h nums den k m = z at *
        generalize nums.getD m 0 = x at *
        generalize fP rows h.length k m = y at *
        unfold c79l1
        repeat' (first
          | ((with_reducible refine T_calm ?_ ?_); rfl)
          | with_reducible first
            | refine T_seq ?_
            | refine T_reg ?_
            | refine T_draw ?_
            | refine T_skip ?_
            | refine T_exit ?_
            | refine T_block ?_
            | refine T_cond_t rfl ?_
            | refine T_cond_f rfl ?_
            | refine wdW_cons rfl ?_
            | (show wcall _ false (.lit (.func (.func 136) _ _)) _ _ _ _; refine wcall_fn (h136b) rfl (by simp [plainL, plain, plainR, Int.toNat_natCast, renR_rws, plain_rws]) ?_)
            | (show wcallX _ false (.lit (.func (.func 136) _ _)) _ _ _ _; refine wcallX_fn (h136b) rfl (by simp [plainL, plain]) ?_)
            | ((first | refine T_cond rfl (fun hc => ?_) (fun hc => ?_) | refine wguard_split (fun hc => ?_) (fun hc => ?_) | refine wguardX_split (fun hc => ?_) (fun hc => ?_)) <;> have hd := hc <;> (try simp (disch := omega) only [wrapI] at hd) <;> have hs := hd <;> (try simp only [decide_eq_true_eq, decide_eq_false_iff_not, bne_iff_ne, bne_eq_false_iff_eq, Int.not_lt, ne_eq] at hd) <;> (try simp at hs))
            | refine T_ret ?_
            | refine leave_of (.inr rfl) _ rfl ?_
            | refine leave_of (.inl rfl) _ rfl ?_
            | refine leaveA_of (.inr rfl) _ rfl ?_
            | refine leaveA_of (.inl rfl) _ rfl ?_
            | refine wif_intro ?_ (fun hc => ?_)
            | refine And.intro ?_ ?_
            | intro hc
          | simp (maxSteps := 4000000) only [wops_nil, wops_cons, wstep_none, wrun_mv, wrun_bin, wrun_load, wrun_faddr, wrun_iaddrS, wrunX_mv, wrunX_bin, wrunX_load, wrunX_faddr, wrunX_iaddrS, wdW_nil, wstepX_none, wrunX_call, get_mk, wop, aop, ev, look, put_some, writes, ores_some, ores_ite_none, binV, thenK, blockK, value, cut, hget, toLits, mkAgg, tupOf, List.map_cons, List.map_nil, List.length_cons, List.length_nil, List.getElem?_cons_zero, List.take_succ_cons, List.take_zero, List.take_nil, List.drop_zero, List.append_nil, List.replicate_zero, List.getD_cons_zero, List.length_map, Option.getD_some, Option.map_some, if_true, if_false, Nat.reduceEqDiff, Nat.add_zero, Nat.zero_add, reduceCtorEq, Bool.false_eq_true, eq_self, true_and, and_true, and_self, decide_true, freeze, lidsL, lids, List.flatMap_cons, List.flatMap_nil, ren, Int.toNat_natCast, *]
          | simp (disch := omega) only [wrapI]
          | (with_reducible show wcall _ false (.lit (.func (.func 136) _ _)) _ _ _ _; refine wcall_fn (h136b) ?_ ?_ ?_; (next => simp [rfyL, rfy, hget, ints, take_rfy, Int.toNat_natCast, renR_rws, plain_rws]); (next => simp [plainL, plain, plainR, Int.toNat_natCast, renR_rws, plain_rws]))
          | (with_reducible show wcallX _ false (.lit (.func (.func 136) _ _)) _ _ _ _; refine wcallX_fn (h136b) ?_ ?_ ?_; (next => simp [rfyL, rfy, hget, ints, take_rfy, Int.toNat_natCast, renR_rws, plain_rws]); (next => simp [plainL, plain, plainR, Int.toNat_natCast, renR_rws, plain_rws]))
          | omega)
        all_goals first | (simp [St.only, get_mk, look]; done)
      · have hme : m = rows.length := by omega
        subst hme
        by_cases hz : rmF rows h nums den k rows.length = 0
        · have hz1 : (rmF rows h nums den k rows.length != 0) = false := by simp only [bne_eq_false_iff_eq]; exact hz
          have hI2 : ∀ j, j < k + 1 → rmF rows h nums den j rows.length = 0 := fun j hj => by
            by_cases hjk : j = k
            · rw [hjk]; exact hz
            · exact hI.1 j (by omega)
          replace hI2 := And.intro hI2 trivial
          clear f hI hz
          unfold c79l1
          repeat' (first
            | ((with_reducible refine T_calm ?_ ?_); rfl)
            | with_reducible first
              | refine T_seq ?_
              | refine T_reg ?_
              | refine T_draw ?_
              | refine T_skip ?_
              | refine T_exit ?_
              | refine T_block ?_
              | refine T_cond_t rfl ?_
              | refine T_cond_f rfl ?_
              | refine wdW_cons rfl ?_
              | ((first | refine T_cond rfl (fun hc => ?_) (fun hc => ?_) | refine wguard_split (fun hc => ?_) (fun hc => ?_) | refine wguardX_split (fun hc => ?_) (fun hc => ?_)) <;> have hd := hc <;> (try simp (disch := omega) only [wrapI] at hd) <;> have hs := hd <;> (try simp only [decide_eq_true_eq, decide_eq_false_iff_not, Int.not_lt] at hd) <;> (try simp at hs))
              | refine T_ret ?_
              | refine leave_of (.inr rfl) _ rfl ?_
              | refine leave_of (.inl rfl) _ rfl ?_
              | refine leaveA_of (.inr rfl) _ rfl ?_
              | refine leaveA_of (.inl rfl) _ rfl ?_
              | refine wif_intro ?_ (fun hc => ?_)
              | refine And.intro ?_ ?_
              | intro hc
            | simp (maxSteps := 4000000) only [wops_nil, wops_cons, wstep_none, wrun_mv, wrun_bin, wop, aop, ev, look, put_some, writes, ores_some, binV, thenK, blockK, List.length_cons, List.length_nil, List.append_nil, List.replicate_zero, Option.map_some, if_true, if_false, Nat.reduceEqDiff, Nat.zero_add, reduceCtorEq, eq_self, and_true, false_and, Int.toNat_natCast, *]
            | simp (disch := omega) only [wrapI]
            | omega)
          all_goals first | exact hI2.1 | (simp [St.only, get_mk, look]; done)
        · have hz1 : (rmF rows h nums den k rows.length != 0) = true := by simp only [bne_iff_ne]; exact hz
          rw [if_pos (any_range_t hkr hz1)]
          clear f hI hz
          unfold c79l1
          repeat' (first
            | ((with_reducible refine T_calm ?_ ?_); rfl)
            | with_reducible first
              | refine T_seq ?_
              | refine T_reg ?_
              | refine T_draw ?_
              | refine T_skip ?_
              | refine T_exit ?_
              | refine T_block ?_
              | refine T_cond_t rfl ?_
              | refine T_cond_f rfl ?_
              | refine wdW_cons rfl ?_
              | ((first | refine T_cond rfl (fun hc => ?_) (fun hc => ?_) | refine wguard_split (fun hc => ?_) (fun hc => ?_) | refine wguardX_split (fun hc => ?_) (fun hc => ?_)) <;> have hd := hc <;> (try simp (disch := omega) only [wrapI] at hd) <;> have hs := hd <;> (try simp only [decide_eq_true_eq, decide_eq_false_iff_not, Int.not_lt] at hd) <;> (try simp at hs))
              | refine T_ret ?_
              | refine leave_of (.inr rfl) _ rfl ?_
              | refine leave_of (.inl rfl) _ rfl ?_
              | refine leaveA_of (.inr rfl) _ rfl ?_
              | refine leaveA_of (.inl rfl) _ rfl ?_
              | refine wif_intro ?_ (fun hc => ?_)
              | refine And.intro ?_ ?_
              | intro hc
            | simp (maxSteps := 4000000) only [wops_nil, wops_cons, wstep_none, wrun_mv, wrun_bin, get_mk, wop, aop, ev, look, put_some, writes, ores_some, binV, thenK, blockK, tupOf, List.length_cons, List.length_nil, List.append_nil, List.replicate_zero, Option.map_some, if_true, if_false, Nat.reduceEqDiff, Nat.zero_add, reduceCtorEq, eq_self, and_true, false_and, ren, Int.toNat_natCast, *]
            | simp (disch := omega) only [getD_ints, wrapI]
            | omega)
          all_goals first | rfl
    · have hke : k = rows.length := by omega
      subst hke
      rw [if_neg (by rw [any_range_f (fun j hj => by rw [hI j hj]; rfl)]; simp)]
      clear f hI
      unfold c79l2 S79
      repeat' (first
        | ((with_reducible refine T_calm ?_ ?_); rfl)
        | with_reducible first
          | refine T_seq ?_
          | refine T_reg ?_
          | refine T_draw ?_
          | refine T_skip ?_
          | refine T_exit ?_
          | refine T_block ?_
          | refine T_cond_t rfl ?_
          | refine T_cond_f rfl ?_
          | refine wdW_cons rfl ?_
          | ((first | refine T_cond rfl (fun hc => ?_) (fun hc => ?_) | refine wguard_split (fun hc => ?_) (fun hc => ?_) | refine wguardX_split (fun hc => ?_) (fun hc => ?_)) <;> have hd := hc <;> (try simp (disch := omega) only [wrapI] at hd) <;> have hs := hd <;> (try simp only [decide_eq_true_eq, decide_eq_false_iff_not, Int.not_lt] at hd) <;> (try simp at hs))
          | refine T_ret ?_
          | refine leave_of (.inr rfl) _ rfl ?_
          | refine leave_of (.inl rfl) _ rfl ?_
          | refine leaveA_of (.inr rfl) _ rfl ?_
          | refine leaveA_of (.inl rfl) _ rfl ?_
          | refine wif_intro ?_ (fun hc => ?_)
          | refine And.intro ?_ ?_
          | intro hc
        | simp (maxSteps := 4000000) only [wops_nil, wops_cons, wstep_none, wrun_mv, wrun_bin, get_mk, wop, aop, ev, look, put_some, writes, ores_some, binV, thenK, blockK, tupOf, List.length_cons, List.length_nil, List.append_nil, List.replicate_zero, Option.map_some, if_true, if_false, Nat.reduceEqDiff, Nat.zero_add, reduceCtorEq, eq_self, false_and, ren, Int.toNat_natCast, *]
        | simp (disch := omega) only [getD_ints, wrapI]
        | omega)
      all_goals first | rfl
end
end Go.Abs
