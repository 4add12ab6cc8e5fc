import Derived.Test.YtodheeifecoebaaK114x
set_option linter.all false
set_option linter.unusedVariables false
set_option linter.unusedSimpArgs false
set_option linter.unusedSectionVars false
namespace Go.Abs
open Go.Proofs
theorem renR_tblR (ρ : Nat → Option Nat) (M : List (List Int)) : renR ρ (M.map fun r => [ints false r]) = M.map fun r => [ints false r] := renR_plain ρ _ (plainR_map _ (fun r => by simp [plainL]) M)
def rchD (D : List (List Int)) (a : Nat) : Nat → List Int
  | 0 => []
  | k + 1 => rchD D a k ++ [mget D a k - mget D a 0]
theorem rchD_len (D : List (List Int)) (a : Nat) : ∀ k, (rchD D a k).length = k
  | 0 => rfl
  | k + 1 => by unfold rchD; simp [rchD_len D a k]
theorem rchD_get (D : List (List Int)) (a : Nat) : ∀ n k, k < n → (rchD D a n).getD k 0 = mget D a k - mget D a 0
  | 0, k, hk => by omega
  | n + 1, k, hk => by
    have hl := rchD_len D a n
    unfold rchD
    by_cases h : k < n
    · rw [List.getD_eq_getElem?_getD, List.getElem?_append_left (by omega), ← List.getD_eq_getElem?_getD, rchD_get D a n k h]
    · have : k = n := by omega
      subst this
      rw [List.getD_eq_getElem?_getD, List.getElem?_append_right (by omega), hl, Nat.sub_self]; rfl
def ivD (xs : List Int) : AV := if xs = [] then .sl true 0 [] else .lsl 1 0 xs.length
def ibD (xs : List Int) : List Blk := if xs = [] then [] else [.cells true false 1 (xs.map fun x => [i64 x])]
def S84 (D : List (List Int)) (a : Nat) (b : Int) (k : Nat) : St := ⟨[(0, tblV D), (3, .loc 0 0 0), (5, ivD (rchD D a k)), (6, i64 k)], .cells true false 2 [[i64 a, i64 b]] :: ibD (rchD D a k)⟩
set_option maxHeartbeats 8000000 in
theorem k84l {D : List (List Int)} {z a : Nat} {b : Int} (hz : 1 ≤ z ∧ z ≤ 40) (hD : Sq z D) (ha : a < z) (hb : ∀ i j, i < z → j < z → -10000000000000 ≤ mget D i j ∧ mget D i j ≤ 10000000000000) (K : Exit → St → Prop) (k : Nat) (hk : k < z) :
    T none Try.prog muts 33 0 c84l0 (S84 D a b k) (thenK (fun s' => (k < z ∧ True) ∧ ∃ ids : List Nat, 0 ≤ s'.heap.length ∧ (∀ id ∈ ids, 0 ≤ id ∧ id < s'.heap.length) ∧ ids.Nodup ∧ s'.keep 0 [0, 3, 5, 6] ids = S84 D a b (k + 1)) K) := by
  have h2 := hD.hl
  have h3 : (D.map fun r => [ints false r]).length = z := by rw [List.length_map]; exact h2
  have h1 := tbl_get (M := D) (i := a) (by omega)
  have h5 := hD.hr a ha
  have g1 : ((D.getD a []).map fun x => [i64 x]).getD 0 [] = [i64 (mget D a 0)] := getD_ints (by omega)
  have g2 : ((D.getD a []).map fun x => [i64 x]).getD k [] = [i64 (mget D a k)] := getD_ints (by omega)
  have e00 : Int.toNat 0 = 0 := rfl
  have e1 : ((D.getD a []).map fun x => [i64 x]).length = z := by rw [List.length_map]; exact h5
  have hb1 := hb a k ha hk
  have hb2 := hb a 0 ha (by omega)
  have ew : IntKind.i64.wrap (mget D a k - mget D a 0) = mget D a k - mget D a 0 := wrapI (by omega) (by omega)
  have hel := rchD_len D a k
  have e : rchD D a (k + 1) = rchD D a k ++ [mget D a k - mget D a 0] := rfl
  have en : rchD D a (k + 1) ≠ [] := by rw [e]; simp
  unfold S84 c84l0
  simp only [ivD, ibD, en, if_false]
  rw [e]
  clear hb hD en
  by_cases hk0 : k = 0
  · subst hk0
    have e9 : rchD D a 0 = [] := rfl
    simp only [e9, if_true]
    repeat' (first
      | ((with_reducible refine T_calm ?_ ?_); rfl)
      | with_reducible first
        | refine T_seq ?_
        | refine T_reg ?_
        | refine T_draw ?_
        | refine T_skip ?_
        | refine T_exit ?_
        | refine T_block ?_
        | refine T_cond_t rfl ?_
        | refine T_cond_f rfl ?_
        | refine wdW_cons rfl ?_
        | ((first | refine T_cond rfl (fun hc => ?_) (fun hc => ?_) | refine wguard_split (fun hc => ?_) (fun hc => ?_) | refine wguardX_split (fun hc => ?_) (fun hc => ?_)) <;> have hd := hc <;> (try simp (disch := omega) only [wrapI] at hd) <;> have hs := hd <;> (try simp only [decide_eq_true_eq, decide_eq_false_iff_not, Int.not_lt] at hd) <;> (try simp at hs))
        | refine T_ret ?_
        | refine leave_of (.inr rfl) _ rfl ?_
        | refine leave_of (.inl rfl) _ rfl ?_
        | refine leaveA_of (.inr rfl) _ rfl ?_
        | refine leaveA_of (.inl rfl) _ rfl ?_
        | refine wif_intro ?_ (fun hc => ?_)
        | refine And.intro ?_ ?_
        | intro hc
      | simp (maxSteps := 4000000) only [wops_nil, wops_cons, wstep_none, wrun_mv, wrun_bin, wrun_load, wrun_iaddrS, wrun_iaddrA, wrun_len, wrun_bslice, wrun_app, wrunX_mv, wrunX_bin, wrunX_load, wrunX_iaddrS, wrunX_iaddrA, wrunX_bslice, wrunX_app, wdW_nil, wstepX_none, wop, aop, ev, look, put_some, writes, ores_some, ores_ite_none, ores_map, ores_bind, binV, thenK, blockK, intV, lenOf, elsOf, szOk, value, cut, hget, fillA, putCells, AV.parts, isOne, toLits, mkAgg, List.flatten_cons, List.flatten_nil, rowsOf, List.map_cons, List.map_nil, List.length_cons, List.length_nil, List.getElem?_cons_zero, List.getElem?_cons_succ, List.set_cons_zero, List.set_cons_succ, List.take_succ_cons, List.take_zero, List.take_nil, List.drop_succ_cons, List.drop_zero, List.drop_nil, List.cons_append, List.nil_append, List.append_nil, List.replicate_zero, List.replicate_succ, List.getD_cons_zero, List.all_cons, List.all_nil, List.isEmpty_cons, Option.pure_def, Option.bind_eq_bind, Option.getD_some, Option.map_some, if_true, if_false, Nat.reduceEqDiff, Nat.reduceAdd, Nat.reduceMul, Nat.reduceLeDiff, Nat.add_zero, Nat.zero_add, Nat.sub_zero, Nat.mul_one, Nat.le_refl, reduceCtorEq, Bool.and_true, Bool.or_true, Bool.false_eq_true, eq_self, true_and, and_true, and_self, decide_true, beq_self_eq_true, List.all_cons, Int.toNat_natCast, *]
      | simp (disch := omega) only [wrapI]
      | omega)
    refine ⟨[0, 2], by simp, by simp, ?_⟩
    simp [St.keep, get_mk, look, ren, renL, renR, renB, renO, keepρ, pos, hget, renR_tblR]
  · have e9 : rchD D a k ≠ [] := fun h => by rw [h] at hel; simp at hel; omega
    have t1 : List.take k ((rchD D a k).map fun x => [i64 x]) = (rchD D a k).map fun x => [i64 x] := by rw [List.take_of_length_le (by simp [hel])]
    simp only [e9, if_false]
    repeat' (first
      | ((with_reducible refine T_calm ?_ ?_); rfl)
      | with_reducible first
        | refine T_seq ?_
        | refine T_reg ?_
        | refine T_draw ?_
        | refine T_skip ?_
        | refine T_exit ?_
        | refine T_block ?_
        | refine T_cond_t rfl ?_
        | refine T_cond_f rfl ?_
        | refine wdW_cons rfl ?_
        | ((first | refine T_cond rfl (fun hc => ?_) (fun hc => ?_) | refine wguard_split (fun hc => ?_) (fun hc => ?_) | refine wguardX_split (fun hc => ?_) (fun hc => ?_)) <;> have hd := hc <;> (try simp (disch := omega) only [wrapI] at hd) <;> have hs := hd <;> (try simp only [decide_eq_true_eq, decide_eq_false_iff_not, Int.not_lt] at hd) <;> (try simp at hs))
        | refine T_ret ?_
        | refine leave_of (.inr rfl) _ rfl ?_
        | refine leave_of (.inl rfl) _ rfl ?_
        | refine leaveA_of (.inr rfl) _ rfl ?_
        | refine leaveA_of (.inl rfl) _ rfl ?_
        | refine wif_intro ?_ (fun hc => ?_)
        | refine And.intro ?_ ?_
        | intro hc
      | simp (maxSteps := 4000000) only [wops_nil, wops_cons, wstep_none, wrun_mv, wrun_bin, wrun_load, wrun_iaddrS, wrun_iaddrA, wrun_len, wrun_bslice, wrun_app, wrunX_mv, wrunX_bin, wrunX_load, wrunX_iaddrS, wrunX_iaddrA, wrunX_bslice, wrunX_app, wdW_nil, wstepX_none, wop, aop, ev, look, put_some, writes, ores_some, ores_ite_none, ores_map, ores_bind, binV, thenK, blockK, intV, lenOf, elsOf, szOk, value, cut, hget, fillA, putCells, AV.parts, isOne, toLits, mkAgg, List.flatten_cons, List.flatten_nil, rowsOf, List.map_cons, List.map_nil, List.length_cons, List.length_nil, List.getElem?_cons_zero, List.getElem?_cons_succ, List.set_cons_zero, List.set_cons_succ, List.take_succ_cons, List.take_zero, List.take_nil, List.drop_succ_cons, List.drop_zero, List.drop_nil, List.cons_append, List.nil_append, List.append_nil, List.replicate_zero, List.replicate_succ, List.getD_cons_zero, List.all_cons, List.all_nil, List.isEmpty_cons, List.length_append, List.length_map, Option.pure_def, Option.bind_eq_bind, Option.getD_some, Option.map_some, if_true, if_false, Nat.reduceEqDiff, Nat.reduceAdd, Nat.reduceLeDiff, Nat.add_zero, Nat.zero_add, Nat.sub_zero, Nat.mul_one, Nat.le_refl, reduceCtorEq, Bool.and_true, Bool.and_false, Bool.or_true, Bool.false_eq_true, eq_self, true_and, and_true, and_self, decide_true, beq_self_eq_true, List.all_cons, Int.toNat_natCast, *]
      | simp (disch := omega) only [wrapI]
      | omega)
    refine ⟨[0, 3], by simp, by simp, ?_⟩
    simp [St.keep, get_mk, look, ren, renL, renR, renB, renO, keepρ, pos, hget, renR_ints, renR_tblR, renR_app4]
set_option maxHeartbeats 8000000 in
theorem k84 {D : List (List Int)} {z a : Nat} {b : Int} (hz : 1 ≤ z ∧ z ≤ 40) (hD : Sq z D) (ha : a < z) (hb : ∀ i j, i < z → j < z → -10000000000000 ≤ mget D i j ∧ mget D i j ≤ 10000000000000) : Fn Try.prog 84 [tblV D, rgA a b] (.lsl 0 0 z) [.cells true false 1 ((rchD D a z).map fun x => [i64 x])] := by
  refine fn_of e84 ?_
  unfold c84
  repeat' (first
    | ((with_reducible refine T_calm ?_ ?_); rfl)
    | with_reducible first
      | refine T_seq ?_
      | refine T_reg ?_
      | refine T_draw ?_
      | refine T_skip ?_
      | refine T_exit ?_
      | refine T_block ?_
      | refine T_cond_t rfl ?_
      | refine T_cond_f rfl ?_
      | refine wdW_cons rfl ?_
      | ((first | refine T_cond rfl (fun hc => ?_) (fun hc => ?_) | refine wguard_split (fun hc => ?_) (fun hc => ?_) | refine wguardX_split (fun hc => ?_) (fun hc => ?_)) <;> have hd := hc <;> (try simp (disch := omega) only [wrapI] at hd) <;> have hs := hd <;> (try simp only [Bool.not_eq_true', Bool.not_eq_false', Bool.and_eq_true, Bool.and_eq_false_iff, Bool.or_eq_true, Bool.or_eq_false_iff, decide_eq_true_eq, decide_eq_false_iff_not, beq_iff_eq, bne_iff_ne, beq_eq_false_iff_ne, bne_eq_false_iff_eq, Bool.not_true, Bool.not_false, gt_iff_lt, ge_iff_le, Int.not_lt, Int.not_le, ne_eq, Decidable.not_not] at hd) <;> (try simp at hs))
      | refine T_ret ?_
      | refine leave_of (.inr rfl) _ rfl ?_
      | refine leave_of (.inl rfl) _ rfl ?_
      | refine leaveA_of (.inr rfl) _ rfl ?_
      | refine leaveA_of (.inl rfl) _ rfl ?_
      | refine wif_intro ?_ (fun hc => ?_)
      | refine And.intro ?_ ?_
      | intro hc
    | simp (maxSteps := 4000000) only [wops_nil, wops_cons, wstep_none, wrun_mv, wrun_box, wop, aop, ev, look, put_some, writes, ores_some, thenK, AV.parts, isOne, ofValue_int, List.map_cons, List.map_nil, List.length_cons, List.length_nil, List.getElem?_cons_zero, List.set_cons_zero, List.nil_append, List.append_nil, List.replicate_zero, List.replicate_succ, List.zipIdx_cons, List.zipIdx_nil, List.all_cons, List.all_nil, if_true, if_false, Nat.reduceAdd, Nat.add_zero, Nat.zero_add, Nat.zero_ne_one, Bool.and_true, eq_self, true_and, and_self, List.all_cons, *]
    | simp (disch := omega) only [getD_ints, wrapI]
    | omega)
  refine T_for_keep [0, 3, 5, 6] (S84 D a b) z (fun _ => True) 0 ⟨[0], by simp, by simp, by simp, ?_⟩ trivial (Nat.zero_le _) ?_
  · simp [St.keep, get_mk, look, ren, renL, renR, renB, renO, keepρ, pos, hget, renR_tblR, S84, rchD, ivD, ibD]
  intro k hk _
  by_cases hkz : k < z
  · exact k84l hz hD ha hb _ k hkz
  · have hke : k = z := by omega
    subst hke
    have hel := rchD_len D a k
    have h3 : (D.map fun r => [ints false r]).length = k := by rw [List.length_map]; exact hD.hl
    have e9 : rchD D a k ≠ [] := fun h => by rw [h] at hel; simp at hel; omega
    unfold c84l0 S84
    simp only [ivD, ibD, e9, if_false]
    clear hD hb
    repeat' (first
      | ((with_reducible refine T_calm ?_ ?_); rfl)
      | with_reducible first
        | refine T_seq ?_
        | refine T_reg ?_
        | refine T_draw ?_
        | refine T_skip ?_
        | refine T_exit ?_
        | refine T_block ?_
        | refine T_cond_t rfl ?_
        | refine T_cond_f rfl ?_
        | refine wdW_cons rfl ?_
        | ((first | refine T_cond rfl (fun hc => ?_) (fun hc => ?_) | refine wguard_split (fun hc => ?_) (fun hc => ?_) | refine wguardX_split (fun hc => ?_) (fun hc => ?_)) <;> have hd := hc <;> (try simp (disch := omega) only [wrapI] at hd) <;> have hs := hd <;> (try simp only [decide_eq_true_eq, decide_eq_false_iff_not, Int.not_lt] at hd) <;> (try simp at hs))
        | refine T_ret ?_
        | refine leave_ids (.inr rfl) _ [1] rfl (by simp) (by simp) ?_
        | refine leave_ids (.inl rfl) _ [1] rfl (by simp) (by simp) ?_
        | refine leaveA_of (.inr rfl) _ rfl ?_
        | refine leaveA_of (.inl rfl) _ rfl ?_
        | refine wif_intro ?_ (fun hc => ?_)
        | refine And.intro ?_ ?_
        | intro hc
      | simp (maxSteps := 4000000) only [wops_nil, wops_cons, wstep_none, wrun_mv, wrun_bin, wrun_len, get_mk, wop, aop, ev, look, put_some, writes, ores_some, ores_map, ores_bind, binV, thenK, blockK, intV, lenOf, hget, tupOf, List.map_cons, List.map_nil, List.length_cons, List.length_nil, List.getElem?_cons_zero, List.getElem?_cons_succ, List.append_nil, List.replicate_zero, Option.pure_def, Option.bind_eq_bind, Option.getD_some, Option.map_some, Option.map_none, if_true, if_false, Nat.reduceEqDiff, Nat.reduceAdd, Nat.zero_add, reduceCtorEq, eq_self, and_true, false_and, ren, renB, renO, keepρ, pos, Nat.not_lt_zero, renR_ints, renR_ints, *]
      | simp (disch := omega) only [getD_ints, wrapI]
      | omega)
end Go.Abs
