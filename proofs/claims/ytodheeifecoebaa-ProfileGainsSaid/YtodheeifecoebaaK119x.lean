import Derived.Test.YtodheeifecoebaaK118x
import Derived.Test.YtodheeifecoebaaK107x
set_option linter.all false
set_option linter.unusedVariables false
set_option linter.unusedSimpArgs false
set_option linter.unusedSectionVars false
namespace Go.Abs
open Go.Proofs
/-! the specification's widest pair -/
abbrev S74 (D : List (List Int)) (a b : Nat) (p : Nat × Nat) : St := ⟨[(0, tblV D), (2, .loc 0 0 0), (3, .loc 1 0 0), (4, i64 a), (5, i64 b)], [.cells true false 2 [[i64 0, i64 0]], .cells true false 2 [[i64 p.1, i64 p.2]]]⟩
set_option maxHeartbeats 8000000 in
theorem k74l {D : List (List Int)} {z a n : Nat} {s : Nat × Nat} (hz : 2 ≤ z ∧ z ≤ 40) (hD : Sq z D) (hb : ∀ i j, i < z → j < z → -41000000 ≤ mget D i j ∧ mget D i j ≤ 41000000) (hs : s.1 < z ∧ s.2 < z) (hn : a + 1 + n < z) (K : Exit → St → Prop) :
    T none Try.prog muts 60 0 c74l0 (S74 D a (a + 1 + n) (wIn D a s n)) (thenK (fun s' => (n < z - (a + 1) ∧ True) ∧ s'.only [0, 2, 3, 4, 5] = S74 D a (a + 1 + (n + 1)) (wIn D a s (n + 1))) K) := by
  have hp := wIn_lt (M := D) (a := a) hs n (by omega)
  have e : wIn D a s (n + 1) = if wd D (wIn D a s n).1 (wIn D a s n).2 < wd D a (a + 1 + n) then (a, a + 1 + n) else wIn D a s n := rfl
  rw [e]
  generalize wIn D a s n = q at *
  obtain ⟨x, y⟩ := q
  dsimp only at hp ⊢
  obtain ⟨b, hbe⟩ : ∃ b, b = a + 1 + n := ⟨_, rfl⟩
  have hbs : a + 1 + (n + 1) = b + 1 := by omega
  rw [hbs, ← hbe]
  have hnz : n < z - (a + 1) := by omega
  have hbz : b < z := by omega
  clear hbs hbe
  have b1 := hb a b (by omega) (by omega)
  have b2 := hb b a (by omega) (by omega)
  have b3 := hb x y (by omega) (by omega)
  have b4 := hb y x (by omega) (by omega)
  have h2 := hD.hl
  have h3 : (D.map fun r => [ints false r]).length = z := by rw [List.length_map]; exact h2
  have ha := tbl_get (M := D) (i := a) (by omega)
  have hbb := tbl_get (M := D) (i := b) (by omega)
  have hx := tbl_get (M := D) (i := x) (by omega)
  have hy := tbl_get (M := D) (i := y) (by omega)
  have ra := hD.hr a (by omega)
  have rb := hD.hr b (by omega)
  have rx := hD.hr x (by omega)
  have ry := hD.hr y (by omega)
  have g1 : ((D.getD a []).map fun x => [i64 x]).getD b [] = [i64 (mget D a b)] := getD_ints (by omega)
  have g2 : ((D.getD b []).map fun x => [i64 x]).getD a [] = [i64 (mget D b a)] := getD_ints (by omega)
  have g3 : ((D.getD x []).map fun x => [i64 x]).getD y [] = [i64 (mget D x y)] := getD_ints (by omega)
  have g4 : ((D.getD y []).map fun x => [i64 x]).getD x [] = [i64 (mget D y x)] := getD_ints (by omega)
  have ew1 : IntKind.i64.wrap (mget D a b + mget D b a) = wd D a b := wrapI (by omega) (by omega)
  have ew2 : IntKind.i64.wrap (mget D x y + mget D y x) = wd D x y := wrapI (by omega) (by omega)
  have e00 : Int.toNat 0 = 0 := rfl
  have e01 : Int.toNat 1 = 1 := rfl
  clear hb hD e
  generalize wd D a b = w1 at *
  generalize wd D x y = w2 at *
  unfold c74l0
  by_cases hc : w2 < w1
  · rw [if_pos hc]
    have hdc : decide (w1 > w2) = true := by simp only [decide_eq_true_eq]; exact hc
    repeat' (first
      | ((with_reducible refine T_calm ?_ ?_); rfl)
      | with_reducible first
        | refine T_seq ?_
        | refine T_reg ?_
        | refine T_draw ?_
        | refine T_skip ?_
        | refine T_exit ?_
        | refine T_block ?_
        | refine T_cond_t rfl ?_
        | refine T_cond_f rfl ?_
        | refine wdW_cons rfl ?_
        | ((first | refine T_cond rfl (fun hc => ?_) (fun hc => ?_) | refine wguard_split (fun hc => ?_) (fun hc => ?_) | refine wguardX_split (fun hc => ?_) (fun hc => ?_)) <;> have hd := hc <;> (try simp (disch := omega) only [wrapI] at hd) <;> have hs := hd <;> (try simp only [decide_eq_true_eq, decide_eq_false_iff_not, Int.not_lt] at hd) <;> (try simp at hs))
        | refine T_ret ?_
        | refine leave_of (.inr rfl) _ rfl ?_
        | refine leave_of (.inl rfl) _ rfl ?_
        | refine leaveA_of (.inr rfl) _ rfl ?_
        | refine leaveA_of (.inl rfl) _ rfl ?_
        | refine wif_intro ?_ (fun hc => ?_)
        | refine And.intro ?_ ?_
        | intro hc
      | simp (maxSteps := 4000000) only [wops_nil, wops_cons, wstep_none, wrun_mv, wrun_bin, wrun_build, wrun_load, wrun_store, wrun_iaddrS, wrun_iaddrA, wrun_len, wop, aop, ev, look, put_some, put_none, writes, ores_some, ores_ite_none, ores_map, ores_bind, wif_true, binV, thenK, blockK, intV, lenOf, value, cut, hget, fillA, putCells, AV.parts, isOne, toLits, mkAgg, ofValue_int, List.map_cons, List.map_nil, List.length_cons, List.length_nil, List.getElem?_cons_zero, List.getElem?_cons_succ, List.set_cons_zero, List.set_cons_succ, List.take_succ_cons, List.take_zero, List.take_nil, List.drop_succ_cons, List.drop_zero, List.drop_nil, List.cons_append, List.nil_append, List.append_nil, List.append_assoc, List.replicate_zero, List.getD_cons_zero, List.all_cons, List.all_nil, List.length_append, List.length_map, Option.pure_def, Option.bind_eq_bind, Option.getD_some, Option.map_some, if_true, if_false, Nat.reduceEqDiff, Nat.reduceAdd, Nat.reduceLeDiff, Nat.reduceLT, Nat.add_zero, Nat.zero_add, Nat.mul_one, Nat.le_refl, reduceCtorEq, Bool.and_true, Bool.false_eq_true, eq_self, true_and, and_true, and_self, decide_true, List.all_cons, Int.toNat_natCast, *]
      | simp (disch := omega) only [wrapI]
      | omega)
    all_goals first | (simp [St.only, get_mk, look]; done)
  · rw [if_neg hc]
    have hdc : decide (w1 > w2) = false := by simp only [decide_eq_false_iff_not]; exact hc
    repeat' (first
      | ((with_reducible refine T_calm ?_ ?_); rfl)
      | with_reducible first
        | refine T_seq ?_
        | refine T_reg ?_
        | refine T_draw ?_
        | refine T_skip ?_
        | refine T_exit ?_
        | refine T_block ?_
        | refine T_cond_t rfl ?_
        | refine T_cond_f rfl ?_
        | refine wdW_cons rfl ?_
        | ((first | refine T_cond rfl (fun hc => ?_) (fun hc => ?_) | refine wguard_split (fun hc => ?_) (fun hc => ?_) | refine wguardX_split (fun hc => ?_) (fun hc => ?_)) <;> have hd := hc <;> (try simp (disch := omega) only [wrapI] at hd) <;> have hs := hd <;> (try simp only [decide_eq_true_eq, decide_eq_false_iff_not, Int.not_lt] at hd) <;> (try simp at hs))
        | refine T_ret ?_
        | refine leave_of (.inr rfl) _ rfl ?_
        | refine leave_of (.inl rfl) _ rfl ?_
        | refine leaveA_of (.inr rfl) _ rfl ?_
        | refine leaveA_of (.inl rfl) _ rfl ?_
        | refine wif_intro ?_ (fun hc => ?_)
        | refine And.intro ?_ ?_
        | intro hc
      | simp (maxSteps := 4000000) only [wops_nil, wops_cons, wstep_none, wrun_mv, wrun_bin, wrun_load, wrun_iaddrS, wrun_iaddrA, wrun_len, wop, aop, ev, look, put_some, writes, ores_some, ores_ite_none, ores_map, ores_bind, binV, thenK, blockK, intV, lenOf, value, cut, hget, mkAgg, List.map_cons, List.map_nil, List.length_cons, List.length_nil, List.getElem?_cons_zero, List.getElem?_cons_succ, List.take_succ_cons, List.take_zero, List.take_nil, List.drop_succ_cons, List.drop_zero, List.append_nil, List.replicate_zero, List.getD_cons_zero, List.length_map, Option.pure_def, Option.bind_eq_bind, Option.getD_some, Option.map_some, if_true, if_false, Nat.reduceEqDiff, Nat.reduceAdd, Nat.add_zero, Nat.zero_add, Nat.mul_one, reduceCtorEq, Bool.false_eq_true, eq_self, true_and, and_true, and_self, decide_true, decide_false, Int.toNat_natCast, *]
      | simp (disch := omega) only [wrapI]
      | omega)
    all_goals first | (simp [St.only, get_mk, look]; done)
set_option maxHeartbeats 8000000 in
theorem k74 {D : List (List Int)} {z : Nat} (hz : 2 ≤ z ∧ z ≤ 40) (hD : Sq z D) (hb : ∀ i j, i < z → j < z → -41000000 ≤ mget D i j ∧ mget D i j ≤ 41000000) : Fn Try.prog 74 [tblV D] (rgA (wOut D z z).1 (wOut D z z).2) [] := by
  refine fn_of e74 ?_
  have h3 : (D.map fun r => [ints false r]).length = z := by rw [List.length_map]; exact hD.hl
  have hl0 := fun K a n s hs hn => k74l (a := a) (n := n) (s := s) hz hD hb hs hn K
  replace hl0 := And.intro hl0 trivial
  have hwl := fun a (ha : a ≤ z) => wOut_lt (M := D) (z := z) (by omega) a ha
  replace hwl := And.intro hwl trivial
  clear hD hb
  unfold c74
  repeat' (first
    | ((with_reducible refine T_calm ?_ ?_); rfl)
    | with_reducible first
      | refine T_seq ?_
      | refine T_reg ?_
      | refine T_draw ?_
      | refine T_skip ?_
      | refine T_exit ?_
      | refine T_block ?_
      | refine T_cond_t rfl ?_
      | refine T_cond_f rfl ?_
      | refine wdW_cons rfl ?_
      | ((first | refine T_cond rfl (fun hc => ?_) (fun hc => ?_) | refine wguard_split (fun hc => ?_) (fun hc => ?_) | refine wguardX_split (fun hc => ?_) (fun hc => ?_)) <;> have hd := hc <;> (try simp (disch := omega) only [wrapI] at hd) <;> have hs := hd <;> (try simp only [Bool.not_eq_true', Bool.not_eq_false', Bool.and_eq_true, Bool.and_eq_false_iff, Bool.or_eq_true, Bool.or_eq_false_iff, decide_eq_true_eq, decide_eq_false_iff_not, beq_iff_eq, bne_iff_ne, beq_eq_false_iff_ne, bne_eq_false_iff_eq, Bool.not_true, Bool.not_false, gt_iff_lt, ge_iff_le, Int.not_lt, Int.not_le, ne_eq, Decidable.not_not] at hd) <;> (try simp at hs))
      | refine T_ret ?_
      | refine leave_of (.inr rfl) _ rfl ?_
      | refine leave_of (.inl rfl) _ rfl ?_
      | refine leaveA_of (.inr rfl) _ rfl ?_
      | refine leaveA_of (.inl rfl) _ rfl ?_
      | refine wif_intro ?_ (fun hc => ?_)
      | refine And.intro ?_ ?_
      | intro hc
    | simp (maxSteps := 4000000) only [wops_nil, wops_cons, wstep_none, wrun_mv, wrun_build, wrun_store, wrun_alloc, wop, aop, ev, look, put_some, put_none, writes, ores_some, thenK, hget, fillA, putCells, AV.parts, isOne, toLits, mkAgg, ofValue_int, List.map_cons, List.map_nil, List.length_cons, List.length_nil, List.getElem?_cons_zero, List.getElem?_cons_succ, List.set_cons_zero, List.set_cons_succ, List.take_succ_cons, List.take_zero, List.drop_succ_cons, List.drop_zero, List.drop_nil, List.cons_append, List.nil_append, List.append_nil, List.append_assoc, List.replicate_zero, List.replicate_succ, List.getD_cons_zero, List.zipIdx_cons, List.zipIdx_nil, List.all_cons, List.all_nil, Option.getD_some, Option.map_some, if_true, if_false, Nat.reduceEqDiff, Nat.reduceAdd, Nat.reduceLeDiff, Nat.reduceLT, Nat.add_zero, Nat.zero_add, Nat.le_refl, reduceCtorEq, Bool.and_true, eq_self, true_and, and_self, List.all_cons, *]
    | simp (disch := omega) only [getD_ints, wrapI]
    | omega)
  refine T_for [0, 2, 3, 4] (fun a => ⟨[(0, tblV D), (2, .loc 0 0 0), (3, .loc 1 0 0), (4, i64 a)], [.cells true false 2 [[i64 0, i64 0]], .cells true false 2 [[i64 (wOut D z a).1, i64 (wOut D z a).2]]]⟩) z (fun _ => True) 0 rfl trivial (Nat.zero_le _) ?_
  intro a ha _
  unfold c74l1
  by_cases haz : a < z
  · skip
    repeat' (first
      | ((with_reducible refine T_calm ?_ ?_); rfl)
      | with_reducible first
        | refine T_seq ?_
        | refine T_reg ?_
        | refine T_draw ?_
        | refine T_skip ?_
        | refine T_exit ?_
        | refine T_block ?_
        | refine T_cond_t rfl ?_
        | refine T_cond_f rfl ?_
        | refine wdW_cons rfl ?_
        | ((first | refine T_cond rfl (fun hc => ?_) (fun hc => ?_) | refine wguard_split (fun hc => ?_) (fun hc => ?_) | refine wguardX_split (fun hc => ?_) (fun hc => ?_)) <;> have hd := hc <;> (try simp (disch := omega) only [wrapI] at hd) <;> have hs := hd <;> (try simp only [decide_eq_true_eq, decide_eq_false_iff_not, Int.not_lt] at hd) <;> (try simp at hs))
        | refine T_ret ?_
        | refine leave_of (.inr rfl) _ rfl ?_
        | refine leave_of (.inl rfl) _ rfl ?_
        | refine leaveA_of (.inr rfl) _ rfl ?_
        | refine leaveA_of (.inl rfl) _ rfl ?_
        | refine wif_intro ?_ (fun hc => ?_)
        | refine And.intro ?_ ?_
        | intro hc
      | simp (maxSteps := 4000000) only [wops_nil, wops_cons, wstep_none, wrun_mv, wrun_bin, wrun_load, wrun_store, wrun_len, wop, aop, ev, look, put_some, put_none, writes, ores_some, ores_map, ores_bind, binV, thenK, blockK, intV, lenOf, value, cut, hget, putCells, AV.parts, isOne, toLits, mkAgg, tupOf, ofValue_int, List.map_cons, List.map_nil, List.length_cons, List.length_nil, List.getElem?_cons_zero, List.getElem?_cons_succ, List.set_cons_zero, List.take_succ_cons, List.take_zero, List.take_nil, List.drop_succ_cons, List.drop_zero, List.drop_nil, List.nil_append, List.append_nil, List.replicate_zero, List.getD_cons_zero, List.all_cons, List.all_nil, Option.pure_def, Option.bind_eq_bind, Option.getD_some, Option.map_some, if_true, if_false, Nat.reduceEqDiff, Nat.reduceAdd, Nat.reduceLT, Nat.zero_add, Nat.le_refl, reduceCtorEq, Bool.and_true, eq_self, true_and, and_self, decide_true, List.all_cons, ren, *]
      | simp (disch := omega) only [wrapI]
      | omega)
    refine T_for [0, 2, 3, 4, 5] (fun n => S74 D a (a + 1 + n) (wIn D a (wOut D z a) n)) (z - (a + 1)) (fun _ => True) 0 ?_ trivial (Nat.zero_le _) ?_
    · simp [St.only, get_mk, look, wIn]
    intro n hn _
    by_cases hnz : n < z - (a + 1)
    · exact hl0.1 _ a n (wOut D z a) (hwl.1 a (by omega)) (by omega)
    · have hne : n = z - (a + 1) := by omega
      subst hne
      have hlt : ¬ (((a + 1 + (z - (a + 1)) : Nat) : Int) < z) := by omega
      have eo : wOut D z (a + 1) = wIn D a (wOut D z a) (z - (a + 1)) := rfl
      unfold c74l0
      repeat' (first
        | ((with_reducible refine T_calm ?_ ?_); rfl)
        | with_reducible first
          | refine T_seq ?_
          | refine T_reg ?_
          | refine T_draw ?_
          | refine T_skip ?_
          | refine T_exit ?_
          | refine T_block ?_
          | refine T_cond_t rfl ?_
          | refine T_cond_f rfl ?_
          | refine wdW_cons rfl ?_
          | ((first | refine T_cond rfl (fun hc => ?_) (fun hc => ?_) | refine wguard_split (fun hc => ?_) (fun hc => ?_) | refine wguardX_split (fun hc => ?_) (fun hc => ?_)) <;> have hd := hc <;> (try simp (disch := omega) only [wrapI] at hd) <;> have hs := hd <;> (try simp only [Bool.not_eq_true', Bool.not_eq_false', Bool.and_eq_true, Bool.and_eq_false_iff, Bool.or_eq_true, Bool.or_eq_false_iff, decide_eq_true_eq, decide_eq_false_iff_not, beq_iff_eq, bne_iff_ne, beq_eq_false_iff_ne, bne_eq_false_iff_eq, Bool.not_true, Bool.not_false, gt_iff_lt, ge_iff_le, Int.not_lt, Int.not_le, ne_eq, Decidable.not_not] at hd) <;> (try simp at hs))
          | refine T_ret ?_
          | refine leave_of (.inr rfl) _ rfl ?_
          | refine leave_of (.inl rfl) _ rfl ?_
          | refine leaveA_of (.inr rfl) _ rfl ?_
          | refine leaveA_of (.inl rfl) _ rfl ?_
          | refine wif_intro ?_ (fun hc => ?_)
          | refine And.intro ?_ ?_
          | intro hc
        | simp (maxSteps := 4000000) only [wops_nil, wops_cons, wstep_none, wrun_mv, wrun_bin, wrun_len, wop, aop, ev, look, put_some, writes, ores_some, ores_map, ores_bind, binV, thenK, blockK, intV, lenOf, hget, List.length_cons, List.length_nil, List.append_nil, List.replicate_zero, Option.pure_def, Option.bind_eq_bind, Option.map_some, if_true, if_false, Nat.reduceEqDiff, Nat.reduceAdd, Nat.zero_add, reduceCtorEq, eq_self, and_true, false_and, decide_false, *]
        | simp (disch := omega) only [wrapI]
        | omega)
      all_goals first | (simp [St.only, get_mk, look]; done)
  · have hae : a = z := by omega
    subst hae
    repeat' (first
      | ((with_reducible refine T_calm ?_ ?_); rfl)
      | with_reducible first
        | refine T_seq ?_
        | refine T_reg ?_
        | refine T_draw ?_
        | refine T_skip ?_
        | refine T_exit ?_
        | refine T_block ?_
        | refine T_cond_t rfl ?_
        | refine T_cond_f rfl ?_
        | refine wdW_cons rfl ?_
        | ((first | refine T_cond rfl (fun hc => ?_) (fun hc => ?_) | refine wguard_split (fun hc => ?_) (fun hc => ?_) | refine wguardX_split (fun hc => ?_) (fun hc => ?_)) <;> have hd := hc <;> (try simp (disch := omega) only [wrapI] at hd) <;> have hs := hd <;> (try simp only [decide_eq_true_eq, decide_eq_false_iff_not, Int.not_lt] at hd) <;> (try simp at hs))
        | refine T_ret ?_
        | refine leave_of (.inr rfl) _ rfl ?_
        | refine leave_of (.inl rfl) _ rfl ?_
        | refine leaveA_of (.inr rfl) _ rfl ?_
        | refine leaveA_of (.inl rfl) _ rfl ?_
        | refine wif_intro ?_ (fun hc => ?_)
        | refine And.intro ?_ ?_
        | intro hc
      | simp (maxSteps := 4000000) only [wops_nil, wops_cons, wstep_none, wrun_mv, wrun_bin, wrun_load, wrun_store, wrun_len, wop, aop, ev, look, put_some, put_none, writes, ores_some, ores_map, ores_bind, binV, thenK, blockK, intV, lenOf, value, cut, hget, putCells, AV.parts, isOne, toLits, mkAgg, tupOf, ofValue_int, List.map_cons, List.map_nil, List.length_cons, List.length_nil, List.getElem?_cons_zero, List.getElem?_cons_succ, List.set_cons_zero, List.take_succ_cons, List.take_zero, List.take_nil, List.drop_succ_cons, List.drop_zero, List.drop_nil, List.nil_append, List.append_nil, List.replicate_zero, List.getD_cons_zero, List.all_cons, List.all_nil, Option.pure_def, Option.bind_eq_bind, Option.getD_some, Option.map_some, if_true, if_false, Nat.reduceEqDiff, Nat.reduceAdd, Nat.reduceLT, Nat.zero_add, Nat.le_refl, reduceCtorEq, Bool.and_true, eq_self, and_true, and_self, false_and, List.all_cons, ren, *]
      | simp (disch := omega) only [getD_ints, wrapI]
      | omega)
/-! widths of ranges -/
def wsum (xs : List (Int × Int)) : Nat → Int
  | 0 => 0
  | k + 1 => wsum xs k + (xs.getD k (0, 0)).2 - (xs.getD k (0, 0)).1
theorem wsum_r {xs : List (Int × Int)} (h : ∀ k, k < xs.length → -41000000 ≤ (xs.getD k (0, 0)).1 ∧ (xs.getD k (0, 0)).1 ≤ 41000000 ∧ -41000000 ≤ (xs.getD k (0, 0)).2 ∧ (xs.getD k (0, 0)).2 ≤ 41000000) : ∀ k : Nat, k ≤ xs.length → -82000000 * (k : Int) ≤ wsum xs k ∧ wsum xs k ≤ 82000000 * k
  | 0, _ => by simp [wsum]
  | k + 1, hk => by
    have h1 := wsum_r h k (by omega)
    have h2 := h k (by omega)
    unfold wsum
    omega
set_option maxHeartbeats 8000000 in
theorem k76 {n : Bool} {xs : List (Int × Int)} (hl : xs.length ≤ 1000) (h : ∀ k, k < xs.length → -41000000 ≤ (xs.getD k (0, 0)).1 ∧ (xs.getD k (0, 0)).1 ≤ 41000000 ∧ -41000000 ≤ (xs.getD k (0, 0)).2 ∧ (xs.getD k (0, 0)).2 ≤ 41000000) : Fn Try.prog 76 [.sl n 2 (erD xs)] (i64 (wsum xs xs.length)) [] := by
  refine fn_of e76 ?_
  have hel := erD_len xs
  have hwr := wsum_r h
  replace hwr := And.intro hwr trivial
  replace h := And.intro h trivial
  unfold c76
  repeat' (first
    | ((with_reducible refine T_calm ?_ ?_); rfl)
    | with_reducible first
      | refine T_seq ?_
      | refine T_reg ?_
      | refine T_draw ?_
      | refine T_skip ?_
      | refine T_exit ?_
      | refine T_block ?_
      | refine T_cond_t rfl ?_
      | refine T_cond_f rfl ?_
      | refine wdW_cons rfl ?_
      | ((first | refine T_cond rfl (fun hc => ?_) (fun hc => ?_) | refine wguard_split (fun hc => ?_) (fun hc => ?_) | refine wguardX_split (fun hc => ?_) (fun hc => ?_)) <;> have hd := hc <;> (try simp (disch := omega) only [wrapI] at hd) <;> have hs := hd <;> (try simp only [Bool.not_eq_true', Bool.not_eq_false', Bool.and_eq_true, Bool.and_eq_false_iff, Bool.or_eq_true, Bool.or_eq_false_iff, decide_eq_true_eq, decide_eq_false_iff_not, beq_iff_eq, bne_iff_ne, beq_eq_false_iff_ne, bne_eq_false_iff_eq, Bool.not_true, Bool.not_false, gt_iff_lt, ge_iff_le, Int.not_lt, Int.not_le, ne_eq, Decidable.not_not] at hd) <;> (try simp at hs))
      | refine T_ret ?_
      | refine leave_of (.inr rfl) _ rfl ?_
      | refine leave_of (.inl rfl) _ rfl ?_
      | refine leaveA_of (.inr rfl) _ rfl ?_
      | refine leaveA_of (.inl rfl) _ rfl ?_
      | refine wif_intro ?_ (fun hc => ?_)
      | refine And.intro ?_ ?_
      | intro hc
    | simp (maxSteps := 4000000) only [wops_nil, wops_cons, wstep_none, wrun_mv, wop, aop, ev, put_some, writes, ores_some, thenK, List.map_cons, List.map_nil, List.length_nil, List.append_nil, List.replicate_zero, List.zipIdx_cons, List.zipIdx_nil, Nat.zero_add, *]
    | simp (disch := omega) only [getD_ints, wrapI]
    | omega)
  refine T_for [0, 3, 4] (fun k => ⟨[(0, .sl n 2 (erD xs)), (3, i64 (wsum xs k)), (4, i64 k)], []⟩) xs.length (fun _ => True) 0 rfl trivial (Nat.zero_le _) ?_
  intro k hk _
  unfold c76l0
  by_cases hkz : k < xs.length
  · have hg := erD_get hkz
    have b1 := hwr.1 k (by omega)
    have b2 := h.1 k hkz
    have e : wsum xs (k + 1) = wsum xs k + (xs.getD k (0, 0)).2 - (xs.getD k (0, 0)).1 := rfl
    repeat' (first
      | ((with_reducible refine T_calm ?_ ?_); rfl)
      | with_reducible first
        | refine T_seq ?_
        | refine T_reg ?_
        | refine T_draw ?_
        | refine T_skip ?_
        | refine T_exit ?_
        | refine T_block ?_
        | refine T_cond_t rfl ?_
        | refine T_cond_f rfl ?_
        | refine wdW_cons rfl ?_
        | ((first | refine T_cond rfl (fun hc => ?_) (fun hc => ?_) | refine wguard_split (fun hc => ?_) (fun hc => ?_) | refine wguardX_split (fun hc => ?_) (fun hc => ?_)) <;> have hd := hc <;> (try simp (disch := omega) only [wrapI] at hd) <;> have hs := hd <;> (try simp only [decide_eq_true_eq, decide_eq_false_iff_not, Int.not_lt] at hd) <;> (try simp at hs))
        | refine T_ret ?_
        | refine leave_of (.inr rfl) _ rfl ?_
        | refine leave_of (.inl rfl) _ rfl ?_
        | refine leaveA_of (.inr rfl) _ rfl ?_
        | refine leaveA_of (.inl rfl) _ rfl ?_
        | refine wif_intro ?_ (fun hc => ?_)
        | refine And.intro ?_ ?_
        | intro hc
      | simp (maxSteps := 4000000) only [wops_nil, wops_cons, wstep_none, wrun_mv, wrun_bin, wrun_load, wrun_faddr, wrun_iaddrS, wrun_len, get_mk, wop, aop, ev, look, put_some, writes, ores_some, ores_ite_none, ores_map, ores_bind, binV, thenK, blockK, intV, lenOf, value, cut, hget, mkAgg, tupOf, List.map_cons, List.map_nil, List.length_cons, List.length_nil, List.take_succ_cons, List.take_zero, List.take_nil, List.drop_succ_cons, List.drop_zero, List.append_nil, List.replicate_zero, Option.pure_def, Option.bind_eq_bind, Option.map_some, if_true, if_false, Nat.reduceEqDiff, Nat.add_zero, Nat.zero_add, reduceCtorEq, Bool.false_eq_true, eq_self, true_and, and_true, and_self, decide_true, ren, Int.toNat_natCast, *]
      | simp (disch := omega) only [wrapI]
      | omega)
    all_goals first | (simp [St.only, get_mk, look]; done)
  · have hke : k = xs.length := by omega
    subst hke
    repeat' (first
      | ((with_reducible refine T_calm ?_ ?_); rfl)
      | with_reducible first
        | refine T_seq ?_
        | refine T_reg ?_
        | refine T_draw ?_
        | refine T_skip ?_
        | refine T_exit ?_
        | refine T_block ?_
        | refine T_cond_t rfl ?_
        | refine T_cond_f rfl ?_
        | refine wdW_cons rfl ?_
        | ((first | refine T_cond rfl (fun hc => ?_) (fun hc => ?_) | refine wguard_split (fun hc => ?_) (fun hc => ?_) | refine wguardX_split (fun hc => ?_) (fun hc => ?_)) <;> have hd := hc <;> (try simp (disch := omega) only [wrapI] at hd) <;> have hs := hd <;> (try simp only [decide_eq_true_eq, decide_eq_false_iff_not, Int.not_lt] at hd) <;> (try simp at hs))
        | refine T_ret ?_
        | refine leave_of (.inr rfl) _ rfl ?_
        | refine leave_of (.inl rfl) _ rfl ?_
        | refine leaveA_of (.inr rfl) _ rfl ?_
        | refine leaveA_of (.inl rfl) _ rfl ?_
        | refine wif_intro ?_ (fun hc => ?_)
        | refine And.intro ?_ ?_
        | intro hc
      | simp (maxSteps := 4000000) only [wops_nil, wops_cons, wstep_none, wrun_mv, wrun_bin, wrun_len, get_mk, wop, aop, ev, look, put_some, writes, ores_some, ores_map, ores_bind, binV, thenK, blockK, intV, lenOf, hget, tupOf, List.length_nil, List.append_nil, List.replicate_zero, Option.pure_def, Option.bind_eq_bind, Option.map_some, if_true, if_false, Nat.reduceEqDiff, reduceCtorEq, eq_self, and_true, false_and, ren, *]
      | simp (disch := omega) only [getD_ints, wrapI]
      | omega)
end Go.Abs
