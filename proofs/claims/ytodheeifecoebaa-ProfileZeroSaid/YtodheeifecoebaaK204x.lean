import Derived.Test.YtodheeifecoebaaK203x
set_option linter.all false
set_option linter.unusedVariables false
set_option linter.unusedSimpArgs false
set_option linter.unusedSectionVars false
namespace Go.Abs
open Go.Proofs
/-! lists of fractions -/
def prR (xs : List (Int × Int)) : List (List AV) := xs.map fun p => [i64 p.1, i64 p.2]
def pl (f : Nat → Int × Int) (k : Nat) : List (Int × Int) := (List.range k).map f
theorem pl_len (f : Nat → Int × Int) (k : Nat) : (pl f k).length = k := by simp [pl]
theorem pl_snoc (f : Nat → Int × Int) (k : Nat) : pl f (k + 1) = pl f k ++ [f k] := by simp [pl, List.range_succ]
theorem pl_get {f : Nat → Int × Int} {n i : Nat} (h : i < n) : (pl f n).getD i (0, 0) = f i := by simp [pl, List.getD_eq_getElem?_getD, h]
theorem pl_congr {f g : Nat → Int × Int} {n : Nat} (h : ∀ i, i < n → f i = g i) : pl f n = pl g n := List.map_congr_left fun i hi => h i (List.mem_range.1 hi)
theorem prR_len (xs : List (Int × Int)) : (prR xs).length = xs.length := by simp [prR]
theorem prR_app (a b : List (Int × Int)) : prR (a ++ b) = prR a ++ prR b := by simp [prR]
theorem prR_one (p : Int × Int) : prR [p] = [[i64 p.1, i64 p.2]] := rfl
theorem plain_prR (xs : List (Int × Int)) : plainR (prR xs) = true := plainR_map _ (fun _ => rfl) xs
theorem renR_prR (ρ : Nat → Option Nat) (xs : List (Int × Int)) : renR ρ (prR xs) = prR xs := renR_plain ρ _ (plain_prR xs)
theorem renR_apd (ρ : Nat → Option Nat) (a b : List (List AV)) : renR ρ (a ++ b) = renR ρ a ++ renR ρ b := by simp [renR_map]
theorem prR_get {xs : List (Int × Int)} {k : Nat} (h : k < xs.length) : (prR xs).getD k [] = [i64 (xs.getD k (0, 0)).1, i64 (xs.getD k (0, 0)).2] := by simp [prR, List.getD, h]
def prV (b : Nat) (xs : List (Int × Int)) : AV := if xs = [] then .sl true 0 [] else .lsl b 0 xs.length
def prB (xs : List (Int × Int)) : List Blk := if xs = [] then [] else [.cells true false 2 (prR xs)]
def S87 (nl : Bool) (xs : List Int) (d : Int) (k : Nat) : St := ⟨[(1, i64 d), (5, prV 0 (pl (fun i => lowD (xs.getD i 0) d) k)), (8, ints nl xs), (9, i64 xs.length), (10, i64 k)], prB (pl (fun i => lowD (xs.getD i 0) d) k)⟩
set_option maxHeartbeats 8000000 in
theorem k87l {nl : Bool} {xs : List Int} {d : Int} (hx : ∀ k, k < xs.length → -1000000000 ≤ xs.getD k 0 ∧ xs.getD k 0 ≤ 1000000000) (hl : xs.length ≤ 1000) (hd1 : 1 ≤ d ∧ d ≤ 1000000000) (K : Exit → St → Prop) (k : Nat) (hk : k < xs.length) :
    T none Try.prog muts 22 0 c87l0 (S87 nl xs d k) (thenK (fun s' => (k < xs.length ∧ True) ∧ ∃ ids : List Nat, 0 ≤ s'.heap.length ∧ (∀ id ∈ ids, 0 ≤ id ∧ id < s'.heap.length) ∧ ids.Nodup ∧ s'.keep 0 [1, 5, 8, 9, 10] ids = S87 nl xs d (k + 1)) K) := by
  have g1 : (xs.map fun x => [i64 x]).getD k [] = [i64 (xs.getD k 0)] := getD_ints hk
  have hb := hx k hk
  have h88 := k88 (xs.getD k 0) d (by omega) (by omega)
  have hel := pl_len (fun i => lowD (xs.getD i 0) d) k
  have e := pl_snoc (fun i => lowD (xs.getD i 0) d) k
  have en : pl (fun i => lowD (xs.getD i 0) d) (k + 1) ≠ [] := by rw [e]; simp
  unfold c87l0 S87
  simp only [prV, prB, en, if_false]
  rw [e]
  clear hx en
  generalize pl (fun i => lowD (xs.getD i 0) d) k = L at *
  generalize lowD (xs.getD k 0) d = q at *
  generalize xs.getD k 0 = v at *
  have hrl := prR_len L
  by_cases hk0 : k = 0
  · subst hk0
    have e9 : L = [] := by cases L with
      | nil => rfl
      | cons a b => simp at hel
    subst e9
    simp only [if_true]
    repeat' (first
      | with_reducible first
        | refine T_seq ?_
        | refine T_reg ?_
        | refine T_skip ?_
        | refine T_exit ?_
        | refine T_block ?_
        | refine T_cond_t rfl ?_
        | refine T_cond_f rfl ?_
        | (show wcall _ false (.lit (.func (.func 88) _ _)) _ _ _ _; refine wcall_fn (h88) rfl (by simp [plainL, plain]) ?_)
        | ((first | refine T_cond rfl (fun hc => ?_) (fun hc => ?_) | refine wguard_split (fun hc => ?_) (fun hc => ?_)) <;> have hd := hc <;> (try simp (disch := omega) only [wrapI] at hd) <;> have hs := hd <;> (try simp only [decide_eq_true_eq, decide_eq_false_iff_not, Int.not_lt] at hd) <;> (try simp at hs))
        | refine T_ret ?_
        | refine leave_of (.inr rfl) _ rfl ?_
        | refine leave_of (.inl rfl) _ rfl ?_
        | refine leaveA_of (.inr rfl) _ rfl ?_
        | refine leaveA_of (.inl rfl) _ rfl ?_
        | refine wif_intro ?_ (fun hc => ?_)
        | refine And.intro ?_ ?_
        | intro hc
      | simp (maxSteps := 4000000) only [wops_nil, wops_cons, wstep_none, wrun_call, wrun_mv, wrun_bin, wrun_load, wrun_iaddrS, wrun_bslice, wrun_app, wop, aop, ev, look, put_some, writes, ores_some, ores_ite_none, binV, thenK, blockK, elsOf, szOk, value, cut, hget, fillA, putCells, AV.parts, isOne, mkAgg, ofValue_int, List.flatten_cons, List.flatten_nil, rowsOf, List.map_cons, List.map_nil, List.length_cons, List.length_nil, List.getElem?_cons_zero, List.getElem?_cons_succ, List.set_cons_zero, List.set_cons_succ, List.take_succ_cons, List.take_zero, List.take_nil, List.drop_succ_cons, List.drop_zero, List.drop_nil, List.nil_append, List.append_nil, List.replicate_zero, List.replicate_succ, List.all_cons, List.all_nil, List.isEmpty_cons, List.length_map, Option.getD_some, Option.map_some, if_true, if_false, Nat.reduceEqDiff, Nat.reduceAdd, Nat.reduceMul, Nat.reduceLeDiff, Nat.add_zero, Nat.zero_add, Nat.sub_zero, Nat.zero_mul, Nat.le_refl, reduceCtorEq, Bool.and_true, Bool.or_true, Bool.false_eq_true, eq_self, true_and, and_true, and_self, decide_true, beq_self_eq_true, freeze, lidsL, lids, List.flatMap_cons, List.flatMap_nil, List.all_cons, ren, Int.toNat_natCast, *]
      | simp (disch := omega) only [wrapI]
      | (with_reducible show wcall _ false (.lit (.func (.func 88) _ _)) _ _ _ _; refine wcall_fn (h88) ?_ ?_ ?_; (next => simp [rfyL, rfy, hget, ints, take_rfy, Int.toNat_natCast]); (next => simp [plainL, plain, plainR, Int.toNat_natCast]))
      | omega)
    refine ⟨[1], by simp, by simp, ?_⟩
    simp [St.keep, get_mk, look, ren, renL, renR, renB, renO, keepρ, pos, hget, renR_ints, prR]
  · have e9 : L ≠ [] := fun h => by rw [h] at hel; simp at hel; omega
    have t1 : List.take k (prR L) = prR L := by rw [List.take_of_length_le (by omega)]
    simp only [e9, if_false]
    repeat' (first
      | with_reducible first
        | refine T_seq ?_
        | refine T_reg ?_
        | refine T_skip ?_
        | refine T_exit ?_
        | refine T_block ?_
        | refine T_cond_t rfl ?_
        | refine T_cond_f rfl ?_
        | (show wcall _ false (.lit (.func (.func 88) _ _)) _ _ _ _; refine wcall_fn (h88) rfl (by simp [plainL, plain]) ?_)
        | ((first | refine T_cond rfl (fun hc => ?_) (fun hc => ?_) | refine wguard_split (fun hc => ?_) (fun hc => ?_)) <;> have hd := hc <;> (try simp (disch := omega) only [wrapI] at hd) <;> have hs := hd <;> (try simp only [decide_eq_true_eq, decide_eq_false_iff_not, Int.not_lt] at hd) <;> (try simp at hs))
        | refine T_ret ?_
        | refine leave_of (.inr rfl) _ rfl ?_
        | refine leave_of (.inl rfl) _ rfl ?_
        | refine leaveA_of (.inr rfl) _ rfl ?_
        | refine leaveA_of (.inl rfl) _ rfl ?_
        | refine wif_intro ?_ (fun hc => ?_)
        | refine And.intro ?_ ?_
        | intro hc
      | simp (maxSteps := 4000000) only [wops_nil, wops_cons, wstep_none, wrun_call, wrun_mv, wrun_bin, wrun_load, wrun_iaddrS, wrun_bslice, wrun_app, wop, aop, ev, look, put_some, writes, ores_some, ores_ite_none, binV, thenK, blockK, elsOf, szOk, value, cut, hget, fillA, putCells, AV.parts, isOne, mkAgg, ofValue_int, List.flatten_cons, List.flatten_nil, rowsOf, List.map_cons, List.map_nil, List.length_cons, List.length_nil, List.getElem?_cons_zero, List.getElem?_cons_succ, List.set_cons_zero, List.set_cons_succ, List.take_succ_cons, List.take_zero, List.take_nil, List.drop_succ_cons, List.drop_zero, List.drop_nil, List.cons_append, List.nil_append, List.append_nil, List.replicate_zero, List.replicate_succ, List.all_cons, List.all_nil, List.isEmpty_cons, List.length_append, List.length_map, Option.getD_some, Option.map_some, if_true, if_false, Nat.reduceEqDiff, Nat.reduceAdd, Nat.reduceLeDiff, Nat.add_zero, Nat.zero_add, Nat.sub_zero, Nat.zero_mul, Nat.le_refl, reduceCtorEq, Bool.and_true, Bool.and_false, Bool.or_true, Bool.false_eq_true, eq_self, true_and, and_true, and_self, decide_true, beq_self_eq_true, freeze, lidsL, lids, List.flatMap_cons, List.flatMap_nil, List.all_cons, ren, Int.toNat_natCast, *]
      | simp (disch := omega) only [wrapI]
      | (with_reducible show wcall _ false (.lit (.func (.func 88) _ _)) _ _ _ _; refine wcall_fn (h88) ?_ ?_ ?_; (next => simp [rfyL, rfy, hget, ints, take_rfy, Int.toNat_natCast]); (next => simp [plainL, plain, plainR, Int.toNat_natCast]))
      | omega)
    refine ⟨[2], by simp, by simp, ?_⟩
    simp [St.keep, get_mk, look, ren, renL, renR, renB, renO, keepρ, pos, hget, renR_ints, renR_prR, renR_apd, prR_app, prR_one]
set_option maxHeartbeats 8000000 in
theorem k87 {nl : Bool} {xs : List Int} {d : Int} (hx : ∀ k, k < xs.length → -1000000000 ≤ xs.getD k 0 ∧ xs.getD k 0 ≤ 1000000000) (hl : 1 ≤ xs.length ∧ xs.length ≤ 1000) (hd1 : 1 ≤ d ∧ d ≤ 1000000000) :
    Fn Try.prog 87 [ints nl xs, i64 d] (.lsl 0 0 xs.length) [.cells true false 2 (prR (pl (fun i => lowD (xs.getD i 0) d) xs.length))] := by
  refine fn_of e87 ?_
  unfold c87
  repeat' (first
    | with_reducible first
      | refine T_seq ?_
      | refine T_reg ?_
      | refine T_skip ?_
      | refine T_exit ?_
      | refine T_block ?_
      | refine T_cond_t rfl ?_
      | refine T_cond_f rfl ?_
      | ((first | refine T_cond rfl (fun hc => ?_) (fun hc => ?_) | refine wguard_split (fun hc => ?_) (fun hc => ?_)) <;> have hd := hc <;> (try simp (disch := omega) only [wrapI] at hd) <;> have hs := hd <;> (try simp only [Bool.not_eq_true', Bool.not_eq_false', Bool.and_eq_true, Bool.and_eq_false_iff, Bool.or_eq_true, Bool.or_eq_false_iff, decide_eq_true_eq, decide_eq_false_iff_not, beq_iff_eq, bne_iff_ne, beq_eq_false_iff_ne, bne_eq_false_iff_eq, Bool.not_true, Bool.not_false, gt_iff_lt, ge_iff_le, Int.not_lt, Int.not_le, ne_eq, Decidable.not_not] at hd) <;> (try simp at hs))
      | refine T_ret ?_
      | refine leave_of (.inr rfl) _ rfl ?_
      | refine leave_of (.inl rfl) _ rfl ?_
      | refine leaveA_of (.inr rfl) _ rfl ?_
      | refine leaveA_of (.inl rfl) _ rfl ?_
      | refine wif_intro ?_ (fun hc => ?_)
      | refine And.intro ?_ ?_
      | intro hc
    | simp (maxSteps := 4000000) only [wops_nil, wops_cons, wstep_none, wrun_mv, wrun_len, wop, aop, ev, look, put_some, writes, ores_some, ores_map, ores_bind, thenK, intV, lenOf, hget, List.map_cons, List.map_nil, List.length_nil, List.append_nil, List.replicate_zero, List.zipIdx_cons, List.zipIdx_nil, List.length_map, Option.pure_def, Option.bind_eq_bind, if_true, if_false, Nat.reduceEqDiff, Nat.reduceAdd, Nat.zero_add, reduceCtorEq, eq_self, *]
    | simp (disch := omega) only [getD_ints, wrapI]
    | omega)
  refine T_for_keep [1, 5, 8, 9, 10] (S87 nl xs d) xs.length (fun _ => True) 0 ⟨[], by simp, by simp, by simp, ?_⟩ trivial (Nat.zero_le _) ?_
  · simp [St.keep, get_mk, look, ren, renR, renB, hget, S87, pl, prV, prB, renR_ints]
  intro k hk _
  by_cases hkz : k < xs.length
  · exact k87l hx hl.2 hd1 _ k hkz
  · have hke : k = xs.length := by omega
    subst hke
    have hel := pl_len (fun i => lowD (xs.getD i 0) d) xs.length
    have e9 : pl (fun i => lowD (xs.getD i 0) d) xs.length ≠ [] := fun h => by rw [h] at hel; simp at hel; omega
    unfold c87l0 S87
    simp only [prV, prB, e9, if_false]
    clear hx
    repeat' (first
      | with_reducible first
        | refine T_seq ?_
        | refine T_reg ?_
        | refine T_skip ?_
        | refine T_exit ?_
        | refine T_block ?_
        | refine T_cond_t rfl ?_
        | refine T_cond_f rfl ?_
        | ((first | refine T_cond rfl (fun hc => ?_) (fun hc => ?_) | refine wguard_split (fun hc => ?_) (fun hc => ?_)) <;> have hd := hc <;> (try simp (disch := omega) only [wrapI] at hd) <;> have hs := hd <;> (try simp only [decide_eq_true_eq, decide_eq_false_iff_not, Int.not_lt] at hd) <;> (try simp at hs))
        | refine T_ret ?_
        | refine leave_ids (.inr rfl) _ [0] rfl (by simp) (by simp) ?_
        | refine leave_ids (.inl rfl) _ [0] rfl (by simp) (by simp) ?_
        | refine leaveA_of (.inr rfl) _ rfl ?_
        | refine leaveA_of (.inl rfl) _ rfl ?_
        | refine wif_intro ?_ (fun hc => ?_)
        | refine And.intro ?_ ?_
        | intro hc
      | simp (maxSteps := 4000000) only [wops_nil, wops_cons, wstep_none, wrun_mv, wrun_bin, get_mk, wop, aop, ev, look, put_some, writes, ores_some, binV, thenK, blockK, hget, tupOf, List.map_cons, List.map_nil, List.length_cons, List.length_nil, List.getElem?_cons_zero, List.append_nil, List.replicate_zero, Option.getD_some, Option.map_some, Option.map_none, if_true, if_false, Nat.reduceEqDiff, Nat.zero_add, reduceCtorEq, eq_self, and_true, false_and, ren, renB, renO, keepρ, pos, Nat.not_lt_zero, renR_prR, *]
      | simp (disch := omega) only [getD_ints, wrapI]
      | omega)
    all_goals first | rfl
/-! the specification's rest and mirror -/
end Go.Abs
