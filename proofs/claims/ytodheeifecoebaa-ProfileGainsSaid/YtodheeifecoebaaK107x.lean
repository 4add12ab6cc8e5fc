import Derived.Test.YtodheeifecoebaaK106x
set_option linter.all false
set_option linter.unusedVariables false
set_option linter.unusedSimpArgs false
set_option linter.unusedSectionVars false
namespace Go.Abs
open Go.Proofs
/-! the specification's enclosure -/
def encD (M : List (List Int)) : Nat → List (Int × Int)
  | 0 => []
  | k + 1 => encD M k ++ [(-(mget M k 0), mget M 0 k)]
def erD (xs : List (Int × Int)) : List (List AV) := xs.map fun p => [i64 p.1, i64 p.2]
theorem encD_len (M : List (List Int)) : ∀ k, (encD M k).length = k
  | 0 => rfl
  | k + 1 => by unfold encD; simp [encD_len M k]
theorem erD_len (xs : List (Int × Int)) : (erD xs).length = xs.length := by simp [erD]
theorem erD_app (a b : List (Int × Int)) : erD (a ++ b) = erD a ++ erD b := by simp [erD]
theorem erD_one (p : Int × Int) : erD [p] = [[i64 p.1, i64 p.2]] := rfl
theorem renR_erD (ρ : Nat → Option Nat) (xs : List (Int × Int)) : renR ρ (erD xs) = erD xs := renR_plain ρ _ (plainR_map _ (fun _ => rfl) xs)
def evD (xs : List (Int × Int)) : AV := if xs = [] then .sl true 0 [] else .lsl 0 0 xs.length
def ebD (xs : List (Int × Int)) : List Blk := if xs = [] then [] else [.cells true false 2 (erD xs)]
theorem renR_tbl (ρ : Nat → Option Nat) (M : List (List Int)) : renR ρ (M.map fun r => [ints false r]) = M.map fun r => [ints false r] := renR_plain ρ _ (plainR_map _ (fun r => by simp [plainL]) M)
def S51 (D : List (List Int)) (k : Nat) : St := ⟨[(0, tblV D), (3, evD (encD D k)), (4, i64 k)], ebD (encD D k)⟩
set_option maxHeartbeats 8000000 in
theorem k51l {D : List (List Int)} {z : Nat} (hz : 1 ≤ z ∧ z ≤ 40) (hD : Sq z D) (hb : ∀ i j, i < z → j < z → -10000000000000 ≤ mget D i j ∧ mget D i j ≤ 10000000000000) (K : Exit → St → Prop) (k : Nat) (hk : k < z) :
    T none Try.prog muts 29 0 c51l0 (S51 D k) (thenK (fun s' => (k < z ∧ True) ∧ ∃ ids : List Nat, 0 ≤ s'.heap.length ∧ (∀ id ∈ ids, 0 ≤ id ∧ id < s'.heap.length) ∧ ids.Nodup ∧ s'.keep 0 [0, 3, 4] ids = S51 D (k + 1)) K) := by
  have h2 := hD.hl
  have h3 : (D.map fun r => [ints false r]).length = z := by rw [List.length_map]; exact h2
  have h1 := tbl_get (M := D) (i := 0) (by omega)
  have h4 := tbl_get (M := D) (i := k) (by omega)
  have h5 := hD.hr 0 (by omega)
  have h6 := hD.hr k hk
  have g1 : ((D.getD k []).map fun x => [i64 x]).getD 0 [] = [i64 (mget D k 0)] := getD_ints (by omega)
  have g2 : ((D.getD 0 []).map fun x => [i64 x]).getD k [] = [i64 (mget D 0 k)] := getD_ints (by omega)
  have e0 : ∀ x : Int, 0 - x = -x := fun x => by omega
  have e00 : Int.toNat 0 = 0 := rfl
  have e1 : ((D.getD k []).map fun x => [i64 x]).length = z := by rw [List.length_map]; exact h6
  have e2 : ((D.getD 0 []).map fun x => [i64 x]).length = z := by rw [List.length_map]; exact h5
  have hbk := hb k 0 hk (by omega)
  have hel := encD_len D k
  have hrl := erD_len (encD D k)
  have e : encD D (k + 1) = encD D k ++ [(-(mget D k 0), mget D 0 k)] := rfl
  have en : encD D (k + 1) ≠ [] := by rw [e]; simp
  unfold S51 c51l0
  simp only [evD, ebD, en, if_false]
  rw [e]
  clear hb hD en
  by_cases hk0 : k = 0
  · subst hk0
    have e9 : encD D 0 = [] := rfl
    simp only [e9, if_true]
    repeat' (first
      | ((with_reducible refine T_calm ?_ ?_); rfl)
      | with_reducible first
        | refine T_seq ?_
        | refine T_reg ?_
        | refine T_draw ?_
        | refine T_skip ?_
        | refine T_exit ?_
        | refine T_block ?_
        | refine T_cond_t rfl ?_
        | refine T_cond_f rfl ?_
        | refine wdW_cons rfl ?_
        | ((first | refine T_cond rfl (fun hc => ?_) (fun hc => ?_) | refine wguard_split (fun hc => ?_) (fun hc => ?_) | refine wguardX_split (fun hc => ?_) (fun hc => ?_)) <;> have hd := hc <;> (try simp (disch := omega) only [wrapI] at hd) <;> have hs := hd <;> (try simp only [decide_eq_true_eq, decide_eq_false_iff_not, Int.not_lt] at hd) <;> (try simp at hs))
        | refine T_ret ?_
        | refine leave_of (.inr rfl) _ rfl ?_
        | refine leave_of (.inl rfl) _ rfl ?_
        | refine leaveA_of (.inr rfl) _ rfl ?_
        | refine leaveA_of (.inl rfl) _ rfl ?_
        | refine wif_intro ?_ (fun hc => ?_)
        | refine And.intro ?_ ?_
        | intro hc
      | simp (maxSteps := 4000000) only [wops_nil, wops_cons, wstep_none, wrun_mv, wrun_bin, wrun_neg, wrun_build, wrun_load, wrun_iaddrS, wrun_len, wrun_bslice, wrun_app, wrunX_mv, wrunX_neg, wrunX_build, wrunX_load, wrunX_iaddrS, wrunX_bslice, wrunX_app, wdW_nil, wstepX_none, wop, aop, ev, look, put_some, writes, ores_some, ores_ite_none, ores_map, ores_bind, binV, thenK, blockK, intV, lenOf, elsOf, szOk, value, cut, hget, fillA, putCells, AV.parts, isOne, toLits, mkAgg, ofValue_int, List.flatten_cons, List.flatten_nil, rowsOf, List.map_cons, List.map_nil, List.length_cons, List.length_nil, List.getElem?_cons_zero, List.getElem?_cons_succ, List.set_cons_zero, List.set_cons_succ, List.take_succ_cons, List.take_zero, List.take_nil, List.drop_succ_cons, List.drop_zero, List.drop_nil, List.cons_append, List.nil_append, List.append_nil, List.replicate_zero, List.replicate_succ, List.all_cons, List.all_nil, List.isEmpty_cons, Option.pure_def, Option.bind_eq_bind, Option.getD_some, Option.map_some, if_true, if_false, Nat.reduceEqDiff, Nat.reduceAdd, Nat.reduceMul, Nat.reduceLeDiff, Nat.add_zero, Nat.zero_add, Nat.sub_zero, Nat.zero_mul, Nat.le_refl, reduceCtorEq, Bool.and_true, Bool.or_true, Bool.false_eq_true, eq_self, true_and, and_true, and_self, decide_true, beq_self_eq_true, List.all_cons, Int.toNat_natCast, *]
      | simp (disch := omega) only [wrapI]
      | omega)
    refine ⟨[1], by simp, by simp, ?_⟩
    simp [St.keep, get_mk, look, ren, renL, renR, renB, renO, keepρ, pos, hget, erD, renR_tbl]
  · have e9 : encD D k ≠ [] := fun h => by rw [h] at hel; simp at hel; omega
    have t1 : List.take k (erD (encD D k)) = erD (encD D k) := by rw [List.take_of_length_le (by omega)]
    simp only [e9, if_false]
    repeat' (first
      | ((with_reducible refine T_calm ?_ ?_); rfl)
      | with_reducible first
        | refine T_seq ?_
        | refine T_reg ?_
        | refine T_draw ?_
        | refine T_skip ?_
        | refine T_exit ?_
        | refine T_block ?_
        | refine T_cond_t rfl ?_
        | refine T_cond_f rfl ?_
        | refine wdW_cons rfl ?_
        | ((first | refine T_cond rfl (fun hc => ?_) (fun hc => ?_) | refine wguard_split (fun hc => ?_) (fun hc => ?_) | refine wguardX_split (fun hc => ?_) (fun hc => ?_)) <;> have hd := hc <;> (try simp (disch := omega) only [wrapI] at hd) <;> have hs := hd <;> (try simp only [decide_eq_true_eq, decide_eq_false_iff_not, Int.not_lt] at hd) <;> (try simp at hs))
        | refine T_ret ?_
        | refine leave_of (.inr rfl) _ rfl ?_
        | refine leave_of (.inl rfl) _ rfl ?_
        | refine leaveA_of (.inr rfl) _ rfl ?_
        | refine leaveA_of (.inl rfl) _ rfl ?_
        | refine wif_intro ?_ (fun hc => ?_)
        | refine And.intro ?_ ?_
        | intro hc
      | simp (maxSteps := 4000000) only [wops_nil, wops_cons, wstep_none, wrun_mv, wrun_bin, wrun_neg, wrun_build, wrun_load, wrun_iaddrS, wrun_len, wrun_bslice, wrun_app, wrunX_mv, wrunX_neg, wrunX_build, wrunX_load, wrunX_iaddrS, wrunX_bslice, wrunX_app, wdW_nil, wstepX_none, wop, aop, ev, look, put_some, writes, ores_some, ores_ite_none, ores_map, ores_bind, binV, thenK, blockK, intV, lenOf, elsOf, szOk, value, cut, hget, fillA, putCells, AV.parts, isOne, toLits, mkAgg, ofValue_int, List.flatten_cons, List.flatten_nil, rowsOf, List.map_cons, List.map_nil, List.length_cons, List.length_nil, List.getElem?_cons_zero, List.getElem?_cons_succ, List.set_cons_zero, List.set_cons_succ, List.take_succ_cons, List.take_zero, List.take_nil, List.drop_succ_cons, List.drop_zero, List.drop_nil, List.cons_append, List.nil_append, List.append_nil, List.replicate_zero, List.replicate_succ, List.all_cons, List.all_nil, List.isEmpty_cons, List.length_append, Option.pure_def, Option.bind_eq_bind, Option.getD_some, Option.map_some, if_true, if_false, Nat.reduceEqDiff, Nat.reduceAdd, Nat.reduceLeDiff, Nat.add_zero, Nat.zero_add, Nat.sub_zero, Nat.zero_mul, Nat.le_refl, reduceCtorEq, Bool.and_true, Bool.and_false, Bool.or_true, Bool.false_eq_true, eq_self, true_and, and_true, and_self, decide_true, beq_self_eq_true, List.all_cons, Int.toNat_natCast, *]
      | simp (disch := omega) only [wrapI]
      | omega)
    refine ⟨[2], by simp, by simp, ?_⟩
    simp [St.keep, get_mk, look, ren, renL, renR, renB, renO, keepρ, pos, hget, renR_erD, renR_app4, renR_tbl, erD_app, erD_one]
set_option maxHeartbeats 8000000 in
theorem k51 {D : List (List Int)} {z : Nat} (hz : 1 ≤ z ∧ z ≤ 40) (hD : Sq z D) (hb : ∀ i j, i < z → j < z → -10000000000000 ≤ mget D i j ∧ mget D i j ≤ 10000000000000) : Fn Try.prog 51 [tblV D] (.lsl 0 0 z) [.cells true false 2 (erD (encD D z))] := by
  refine fn_of e51 ?_
  unfold c51
  repeat' (first
    | ((with_reducible refine T_calm ?_ ?_); rfl)
    | with_reducible first
      | refine T_seq ?_
      | refine T_reg ?_
      | refine T_draw ?_
      | refine T_skip ?_
      | refine T_exit ?_
      | refine T_block ?_
      | refine T_cond_t rfl ?_
      | refine T_cond_f rfl ?_
      | refine wdW_cons rfl ?_
      | ((first | refine T_cond rfl (fun hc => ?_) (fun hc => ?_) | refine wguard_split (fun hc => ?_) (fun hc => ?_) | refine wguardX_split (fun hc => ?_) (fun hc => ?_)) <;> have hd := hc <;> (try simp (disch := omega) only [wrapI] at hd) <;> have hs := hd <;> (try simp only [Bool.not_eq_true', Bool.not_eq_false', Bool.and_eq_true, Bool.and_eq_false_iff, Bool.or_eq_true, Bool.or_eq_false_iff, decide_eq_true_eq, decide_eq_false_iff_not, beq_iff_eq, bne_iff_ne, beq_eq_false_iff_ne, bne_eq_false_iff_eq, Bool.not_true, Bool.not_false, gt_iff_lt, ge_iff_le, Int.not_lt, Int.not_le, ne_eq, Decidable.not_not] at hd) <;> (try simp at hs))
      | refine T_ret ?_
      | refine leave_of (.inr rfl) _ rfl ?_
      | refine leave_of (.inl rfl) _ rfl ?_
      | refine leaveA_of (.inr rfl) _ rfl ?_
      | refine leaveA_of (.inl rfl) _ rfl ?_
      | refine wif_intro ?_ (fun hc => ?_)
      | refine And.intro ?_ ?_
      | intro hc
    | simp (maxSteps := 4000000) only [wops_nil, wops_cons, wstep_none, wrun_mv, wop, aop, ev, put_some, writes, ores_some, thenK, List.map_cons, List.map_nil, List.length_nil, List.append_nil, List.replicate_zero, List.zipIdx_cons, List.zipIdx_nil, Nat.zero_add, *]
    | simp (disch := omega) only [getD_ints, wrapI]
    | omega)
  refine T_for_keep [0, 3, 4] (S51 D) z (fun _ => True) 0 ⟨[], by simp, by simp, by simp, ?_⟩ trivial (Nat.zero_le _) ?_
  · simp [St.keep, get_mk, look, ren, renR, renB, hget, renR_tbl, S51, encD, evD, ebD]
  intro k hk _
  by_cases hkz : k < z
  · exact k51l hz hD hb _ k hkz
  · have hke : k = z := by omega
    subst hke
    have hel := encD_len D k
    have h3 : (D.map fun r => [ints false r]).length = k := by rw [List.length_map]; exact hD.hl
    have e9 : encD D k ≠ [] := fun h => by rw [h] at hel; simp at hel; omega
    unfold c51l0 S51
    simp only [evD, ebD, e9, if_false]
    clear hD hb
    repeat' (first
      | ((with_reducible refine T_calm ?_ ?_); rfl)
      | with_reducible first
        | refine T_seq ?_
        | refine T_reg ?_
        | refine T_draw ?_
        | refine T_skip ?_
        | refine T_exit ?_
        | refine T_block ?_
        | refine T_cond_t rfl ?_
        | refine T_cond_f rfl ?_
        | refine wdW_cons rfl ?_
        | ((first | refine T_cond rfl (fun hc => ?_) (fun hc => ?_) | refine wguard_split (fun hc => ?_) (fun hc => ?_) | refine wguardX_split (fun hc => ?_) (fun hc => ?_)) <;> have hd := hc <;> (try simp (disch := omega) only [wrapI] at hd) <;> have hs := hd <;> (try simp only [decide_eq_true_eq, decide_eq_false_iff_not, Int.not_lt] at hd) <;> (try simp at hs))
        | refine T_ret ?_
        | refine leave_ids (.inr rfl) _ [0] rfl (by simp) (by simp) ?_
        | refine leave_ids (.inl rfl) _ [0] rfl (by simp) (by simp) ?_
        | refine leaveA_of (.inr rfl) _ rfl ?_
        | refine leaveA_of (.inl rfl) _ rfl ?_
        | refine wif_intro ?_ (fun hc => ?_)
        | refine And.intro ?_ ?_
        | intro hc
      | simp (maxSteps := 4000000) only [wops_nil, wops_cons, wstep_none, wrun_mv, wrun_bin, wrun_len, get_mk, wop, aop, ev, look, put_some, writes, ores_some, ores_map, ores_bind, binV, thenK, blockK, intV, lenOf, hget, tupOf, List.map_cons, List.map_nil, List.length_cons, List.length_nil, List.getElem?_cons_zero, List.append_nil, List.replicate_zero, Option.pure_def, Option.bind_eq_bind, Option.getD_some, Option.map_some, Option.map_none, if_true, if_false, Nat.reduceEqDiff, Nat.zero_add, reduceCtorEq, eq_self, and_true, false_and, ren, renB, renO, keepρ, pos, Nat.not_lt_zero, renR_erD, *]
      | simp (disch := omega) only [getD_ints, wrapI]
      | omega)
end Go.Abs
namespace Go.Abs
open Go.Proofs
theorem erD_get {xs : List (Int × Int)} {k : Nat} (h : k < xs.length) : (erD xs).getD k [] = [i64 (xs.getD k (0, 0)).1, i64 (xs.getD k (0, 0)).2] := by simp [erD, List.getD, h]
/-! two lists of ranges that are equal -/
end Go.Abs
