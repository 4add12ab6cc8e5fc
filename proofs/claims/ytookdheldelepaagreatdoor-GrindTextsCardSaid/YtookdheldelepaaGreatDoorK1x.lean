import Derived.Test.YtookdheldelepaaGreatDoorPCmin
set_option linter.all false
set_option linter.unusedVariables false
set_option linter.unusedSimpArgs false
set_option linter.unusedSectionVars false
namespace Go.Abs
open Go.Proofs
/-! texts, names -/
abbrev tx (b : ByteArray) : AV := .lit (.string b)
abbrev u8 (n : Int) : AV := .lit (.int .u8 n)
set_option maxHeartbeats 8000000 in
theorem k24 (n lo hi : Int) : Fn Tryz.prog 24 [i64 n, i64 lo, i64 hi] (bl (decide (lo ≤ n) && decide (n ≤ hi))) [] := by
  refine fn_of e24 ?_
  unfold c24
  repeat' (first | (with_reducible first | refine T_seq ?_ | refine T_reg ?_ | refine T_skip ?_ | refine T_exit ?_ | refine T_block ?_ | refine T_cond_t rfl ?_ | refine T_cond_f rfl ?_ | ((first | refine T_cond rfl (fun hc => ?_) (fun hc => ?_) | refine wguard_split (fun hc => ?_) (fun hc => ?_)) <;> have hd := hc <;> (try simp (disch := omega) only [wrapI] at hd) <;> have hs := hd <;> (try simp only [decide_eq_true_eq, decide_eq_false_iff_not, Bool.not_true, ge_iff_le, Int.not_le] at hd) <;> (try simp at hs)) | refine T_ret ?_ | refine leave_of (.inr rfl) _ rfl ?_ | refine leave_of (.inl rfl) _ rfl ?_ | refine wif_intro ?_ (fun hc => ?_) | refine And.intro ?_ ?_ | intro hc) | simp (maxSteps := 4000000) only [wops_nil, wops_cons, wstep_none, wstep_some, wguard_true, wguard_ft, wrun_mv, wrun_pick, wrun_bin, get_mk, wop, aop, ev, look, put_some, writes, ores_some, binV, thenK, tupOf, List.map_cons, List.map_nil, List.length_nil, List.append_nil, List.replicate_zero, List.zipIdx_cons, List.zipIdx_nil, Option.map_some, if_true, if_false, Nat.reduceEqDiff, Nat.reduceAdd, Nat.zero_add, Nat.zero_ne_one, reduceCtorEq, Bool.not_true, Bool.true_and, Bool.false_and, Bool.false_eq_true, eq_self, decide_true, ren, *] | simp (disch := omega) only [getD_ints, wrapI] | omega)
  all_goals simp_all
set_option maxHeartbeats 8000000 in
theorem k34 (n lo hi : Int) : Fn Tryz.prog 34 [i64 n, i64 lo, i64 hi] (bl (decide (lo ≤ n) && decide (n ≤ hi))) [] := by
  refine fn_of e34 ?_
  unfold c34
  repeat' (first | (with_reducible first | refine T_seq ?_ | refine T_reg ?_ | refine T_skip ?_ | refine T_exit ?_ | refine T_block ?_ | refine T_cond_t rfl ?_ | refine T_cond_f rfl ?_ | ((first | refine T_cond rfl (fun hc => ?_) (fun hc => ?_) | refine wguard_split (fun hc => ?_) (fun hc => ?_)) <;> have hd := hc <;> (try simp (disch := omega) only [wrapI] at hd) <;> have hs := hd <;> (try simp only [decide_eq_true_eq, decide_eq_false_iff_not, Bool.not_true, ge_iff_le, Int.not_le] at hd) <;> (try simp at hs)) | refine T_ret ?_ | refine leave_of (.inr rfl) _ rfl ?_ | refine leave_of (.inl rfl) _ rfl ?_ | refine wif_intro ?_ (fun hc => ?_) | refine And.intro ?_ ?_ | intro hc) | simp (maxSteps := 4000000) only [wops_nil, wops_cons, wstep_none, wstep_some, wguard_true, wguard_ft, wrun_mv, wrun_pick, wrun_bin, get_mk, wop, aop, ev, look, put_some, writes, ores_some, binV, thenK, tupOf, List.map_cons, List.map_nil, List.length_nil, List.append_nil, List.replicate_zero, List.zipIdx_cons, List.zipIdx_nil, Option.map_some, if_true, if_false, Nat.reduceEqDiff, Nat.reduceAdd, Nat.zero_add, Nat.zero_ne_one, reduceCtorEq, Bool.not_true, Bool.true_and, Bool.false_and, Bool.false_eq_true, eq_self, decide_true, ren, *] | simp (disch := omega) only [getD_ints, wrapI] | omega)
  all_goals simp_all
def isLt (c : Int) : Bool := (decide (97 ≤ c) && decide (c ≤ 122)) || (decide (65 ≤ c) && decide (c ≤ 90))
def isDg (c : Int) : Bool := decide (48 ≤ c) && decide (c ≤ 57)
def okCh (c : Int) : Bool := isLt c || isDg c || decide (c = 45)
set_option maxHeartbeats 8000000 in
theorem k56 (n : Int) : Fn Tryz.prog 56 [u8 n] (bl (isLt n)) [] := by
  refine fn_of e56 ?_
  unfold c56 isLt
  repeat' (first | (with_reducible first | refine T_seq ?_ | refine T_reg ?_ | refine T_skip ?_ | refine T_exit ?_ | refine T_block ?_ | refine T_cond_t rfl ?_ | refine T_cond_f rfl ?_ | ((first | refine T_cond rfl (fun hc => ?_) (fun hc => ?_) | refine wguard_split (fun hc => ?_) (fun hc => ?_)) <;> have hd := hc <;> (try simp (disch := omega) only [wrapI] at hd) <;> have hs := hd <;> (try simp only [decide_eq_true_eq, decide_eq_false_iff_not, Bool.not_true, Bool.not_false, ge_iff_le, Int.not_le] at hd) <;> (try simp at hs)) | refine T_ret ?_ | refine leave_of (.inr rfl) _ rfl ?_ | refine leave_of (.inl rfl) _ rfl ?_ | refine wif_intro ?_ (fun hc => ?_) | refine And.intro ?_ ?_ | intro hc) | simp (maxSteps := 4000000) only [wops_nil, wops_cons, wstep_none, wstep_some, wguard_true, wguard_ff, wguard_tf, wguard_ft, wguard_undef, wrun_mv, wrun_pick, wrun_bin, get_mk, wop, aop, ev, look, put_some, writes, ores_some, binV, thenK, tupOf, List.map_cons, List.map_nil, List.length_nil, List.append_nil, List.replicate_zero, List.zipIdx_cons, List.zipIdx_nil, Option.map_some, if_true, if_false, Nat.reduceEqDiff, Nat.zero_add, reduceCtorEq, Bool.not_true, Bool.true_and, Bool.false_and, Bool.true_or, Bool.false_or, Bool.false_eq_true, eq_self, decide_true, ren, *] | simp (disch := omega) only [getD_ints, wrapI] | omega)
  all_goals simp_all
set_option maxHeartbeats 8000000 in
theorem k57 (n : Int) : Fn Tryz.prog 57 [u8 n] (bl (isDg n)) [] := by
  refine fn_of e57 ?_
  unfold c57 isDg
  repeat' (first | (with_reducible first | refine T_seq ?_ | refine T_reg ?_ | refine T_skip ?_ | refine T_exit ?_ | refine T_block ?_ | refine T_cond_t rfl ?_ | refine T_cond_f rfl ?_ | ((first | refine T_cond rfl (fun hc => ?_) (fun hc => ?_) | refine wguard_split (fun hc => ?_) (fun hc => ?_)) <;> have hd := hc <;> (try simp (disch := omega) only [wrapI] at hd) <;> have hs := hd <;> (try simp only [decide_eq_true_eq, decide_eq_false_iff_not, Bool.not_true, ge_iff_le, Int.not_le] at hd) <;> (try simp at hs)) | refine T_ret ?_ | refine leave_of (.inr rfl) _ rfl ?_ | refine leave_of (.inl rfl) _ rfl ?_ | refine wif_intro ?_ (fun hc => ?_) | refine And.intro ?_ ?_ | intro hc) | simp (maxSteps := 4000000) only [wops_nil, wops_cons, wstep_none, wstep_some, wguard_true, wguard_ft, wrun_mv, wrun_pick, wrun_bin, get_mk, wop, aop, ev, look, put_some, writes, ores_some, binV, thenK, tupOf, List.map_cons, List.map_nil, List.length_nil, List.append_nil, List.replicate_zero, List.zipIdx_cons, List.zipIdx_nil, Option.map_some, if_true, if_false, Nat.reduceEqDiff, Nat.zero_add, reduceCtorEq, Bool.not_true, Bool.true_and, Bool.false_and, Bool.false_eq_true, eq_self, decide_true, ren, *] | simp (disch := omega) only [getD_ints, wrapI] | omega)
  all_goals simp_all
/-- the bytes of a text as numbers -/
def nums (b : ByteArray) : List Int := b.data.toList.map fun c => (c.toNat : Int)
theorem nums_len (b : ByteArray) : (nums b).length = b.size := by unfold nums; rw [List.length_map, Array.length_toList]; rfl
theorem bs_get {b : ByteArray} {i : Nat} (h : i < (nums b).length) : ∃ c, b[i]? = some c ∧ (nums b).getD i 0 = c.toNat := by
  have hs : i < b.size := by rw [← nums_len]; exact h
  refine ⟨b[i], by rw [getElem?_pos b i hs], ?_⟩
  unfold nums
  rw [List.getD_eq_getElem?_getD, List.getElem?_map, List.getElem?_eq_getElem (by rw [Array.length_toList]; exact hs)]
  simp
  rfl
def nmL : List Int → Bool
  | [] => false
  | c :: r => decide ((c :: r).length ≤ 12) && isLt c && (c :: r).all okCh
def nmB (b : ByteArray) : Bool := nmL (nums b)
theorem nmL_eq (l : List Int) : nmL l = (!decide (l.length = 0) && decide (l.length ≤ 12) && isLt (l.getD 0 0) && l.all okCh) := by
  cases l with
  | nil => rfl
  | cons c r => simp [nmL]
theorem all_nx {p : Int → Bool} {l : List Int} : l.all p = true ↔ ∀ k, k < l.length → p (l.getD k 0) = true := by
  rw [List.all_eq_true]
  constructor
  · intro h k hk
    rw [List.getD_eq_getElem?_getD, List.getElem?_eq_getElem hk]
    exact h _ (List.getElem_mem hk)
  · intro h x hx
    obtain ⟨k, hk, rfl⟩ := List.mem_iff_getElem.1 hx
    have := h k hk
    rw [List.getD_eq_getElem?_getD, List.getElem?_eq_getElem hk] at this
    exact this
set_option maxHeartbeats 8000000 in
theorem k23 (b : ByteArray) (hl : b.size < 1000000) : Fn Tryz.prog 23 [tx b] (bl (nmB b)) [] := by
  refine fn_of e23 ?_
  have hz := nums_len b
  have hnm : nmB b = _ := nmL_eq (nums b)
  by_cases h0 : b.size = 0
  · have hr : nmB b = false := by rw [hnm, hz, h0]; rfl
    rw [hr]
    have d1 : ((b.size : Int) == 0) = true := by simp only [beq_iff_eq]; omega
    clear hnm hr
    unfold c23
    repeat' (first | (with_reducible first | refine T_seq ?_ | refine T_reg ?_ | refine T_skip ?_ | refine T_exit ?_ | refine T_block ?_ | refine T_cond_t rfl ?_ | refine T_cond_f rfl ?_ | ((first | refine T_cond rfl (fun hc => ?_) (fun hc => ?_) | refine wguard_split (fun hc => ?_) (fun hc => ?_)) <;> have hd := hc <;> (try simp (disch := omega) only [wrapI] at hd) <;> have hs := hd <;> (try simp only [beq_iff_eq, beq_eq_false_iff_ne, Bool.not_false, ne_eq] at hd) <;> (try simp at hs)) | refine T_ret ?_ | refine leave_of (.inr rfl) _ rfl ?_ | refine leave_of (.inl rfl) _ rfl ?_ | refine wif_intro ?_ (fun hc => ?_) | refine And.intro ?_ ?_ | intro hc) | simp (maxSteps := 4000000) only [wops_nil, wops_cons, wstep_none, wstep_some, wguard_tf, wrun_mv, wrun_pick, wrun_bin, wrun_lenS, get_mk, wop, aop, ev, look, put_some, writes, ores_some, binV, thenK, intV, tupOf, List.map_cons, List.map_nil, List.length_nil, List.append_nil, List.replicate_zero, List.zipIdx_cons, List.zipIdx_nil, Option.map_some, if_true, if_false, Nat.reduceEqDiff, Nat.zero_add, reduceCtorEq, eq_self, beq_self_eq_true, ren, *] | simp (disch := omega) only [getD_ints, wrapI] | omega)
    all_goals first | rfl
  · have d1 : ((b.size : Int) == 0) = false := by simp only [beq_eq_false_iff_ne]; omega
    by_cases h1 : b.size ≤ 12
    · have d2 : decide ((b.size : Int) > 12) = false := decide_eq_false (by omega)
      obtain ⟨c0, g0, e0⟩ := bs_get (b := b) (i := 0) (by omega)
      have h56 := k56 ((c0.toNat : Nat) : Int)
      rw [← e0] at h56
      cases hc : isLt ((nums b).getD 0 0) with
      | false =>
        have hr : nmB b = false := by rw [hnm, hc]; simp
        rw [hr]
        rw [hc, e0] at h56
        clear hnm hr e0 hc
        unfold c23
        repeat' (first | (with_reducible first | refine T_seq ?_ | refine T_reg ?_ | refine T_skip ?_ | refine T_exit ?_ | refine T_block ?_ | refine T_cond_t rfl ?_ | refine T_cond_f rfl ?_ | (show wcall _ false (.lit (.func (.func 56) _ _)) _ _ _ _; refine wcall_fn (h56) rfl (by simp [plainL, plain]) ?_) | refine T_ret ?_ | refine leave_of (.inr rfl) _ rfl ?_ | refine leave_of (.inl rfl) _ rfl ?_ | refine wif_intro ?_ (fun hc => ?_) | refine And.intro ?_ ?_ | intro hc) | simp (maxSteps := 4000000) only [wops_nil, wops_cons, wstep_none, wstep_some, wguard_ff, wrun_call, wrun_mv, wrun_pick, wrun_bin, wrun_not, wrun_idxS, wrun_lenS, get_mk, wop, aop, ev, look, put_some, writes, ores_some, ores_ite_none, binV, thenK, boolV, intV, tupOf, List.map_cons, List.map_nil, List.length_nil, List.append_nil, List.replicate_zero, List.zipIdx_cons, List.zipIdx_nil, Option.map_some, if_true, if_false, Nat.reduceEqDiff, Nat.zero_add, reduceCtorEq, Bool.not_false, Bool.false_eq_true, eq_self, freeze, lidsL, lids, List.flatMap_cons, List.flatMap_nil, ren, Int.toNat_zero, *] | simp (disch := omega) only [getD_ints, wrapI] | (with_reducible show wcall _ false (.lit (.func (.func 56) _ _)) _ _ _ _; refine wcall_fn (h56) ?_ ?_ ?_; (next => simp [rfyL, rfy, hget, ints, take_rfy, Int.toNat_zero]); (next => simp [plainL, plain, plainR, Int.toNat_zero])) | omega)
        all_goals first | rfl
      | true =>
        rw [hc, e0] at h56
        have hnm2 : nmB b = (nums b).all okCh := by rw [hnm, hc, hz, decide_eq_true h1, decide_eq_false h0]; simp
        clear hnm
        have hall : ((∀ k, k < b.size → okCh ((nums b).getD k 0) = true) → nmB b = true) ∧ ∀ k, k < b.size → okCh ((nums b).getD k 0) = false → nmB b = false := by
          rw [hnm2, ← hz]
          refine ⟨fun h => all_nx.2 h, fun k hk h => ?_⟩
          cases ha : (nums b).all okCh with
          | false => rfl
          | true => rw [all_nx.1 ha k hk] at h; simp at h
        replace hall := PLift.up hall
        replace hc := True.intro
        clear hnm2 e0 hz
        unfold c23
        repeat' (first | (with_reducible first | refine T_seq ?_ | refine T_reg ?_ | refine T_skip ?_ | refine T_exit ?_ | refine T_block ?_ | refine T_cond_t rfl ?_ | refine T_cond_f rfl ?_ | (show wcall _ false (.lit (.func (.func 56) _ _)) _ _ _ _; refine wcall_fn (h56) rfl (by simp [plainL, plain]) ?_) | refine T_ret ?_ | refine leave_of (.inr rfl) _ rfl ?_ | refine leave_of (.inl rfl) _ rfl ?_ | refine wif_intro ?_ (fun hc => ?_) | refine And.intro ?_ ?_ | intro hc) | simp (maxSteps := 4000000) only [wops_nil, wops_cons, wstep_none, wstep_some, wguard_ff, wrun_call, wrun_mv, wrun_pick, wrun_bin, wrun_not, wrun_idxS, wrun_lenS, wop, aop, ev, look, put_some, writes, ores_some, ores_ite_none, binV, thenK, boolV, intV, List.map_cons, List.map_nil, List.length_nil, List.append_nil, List.replicate_zero, List.zipIdx_cons, List.zipIdx_nil, Option.map_some, if_true, if_false, Nat.reduceEqDiff, Nat.zero_add, reduceCtorEq, Bool.not_true, Bool.false_eq_true, eq_self, freeze, lidsL, lids, List.flatMap_cons, List.flatMap_nil, ren, Int.toNat_zero, *] | simp (disch := omega) only [getD_ints, wrapI] | (with_reducible show wcall _ false (.lit (.func (.func 56) _ _)) _ _ _ _; refine wcall_fn (h56) ?_ ?_ ?_; (next => simp [rfyL, rfy, hget, ints, take_rfy, Int.toNat_zero]); (next => simp [plainL, plain, plainR, Int.toNat_zero])) | omega)
        refine T_for [0, 3] (fun k => ⟨[(0, tx b), (3, i64 k)], []⟩) b.size (fun k => ∀ j, j < k → okCh ((nums b).getD j 0) = true) 0 rfl (fun j hj => by omega) (Nat.zero_le _) ?_
        clear h56 g0 d1 d2
        intro k hk hI
        by_cases hkn : k < b.size
        · obtain ⟨c, g, e⟩ := bs_get (b := b) (i := k) (by rw [nums_len]; exact hkn)
          have h56 := k56 ((c.toNat : Nat) : Int)
          have h57 := k57 ((c.toNat : Nat) : Int)
          cases ho : okCh ((nums b).getD k 0) with
          | false =>
            rw [hall.down.2 k hkn ho]
            rw [e] at ho
            unfold okCh at ho
            simp only [Bool.or_eq_false_iff] at ho
            rw [ho.1.1] at h56
            rw [ho.1.2] at h57
            have d3 : (((c.toNat : Nat) : Int) != 45) = true := by simp only [bne_iff_ne]; exact of_decide_eq_false ho.2
            clear hall hI e ho
            unfold c23l0
            repeat' (first | (with_reducible first | refine T_seq ?_ | refine T_reg ?_ | refine T_skip ?_ | refine T_exit ?_ | refine T_block ?_ | refine T_cond_t rfl ?_ | refine T_cond_f rfl ?_ | (show wcall _ false (.lit (.func (.func 56) _ _)) _ _ _ _; refine wcall_fn (h56) rfl (by simp [plainL, plain]) ?_) | (show wcall _ false (.lit (.func (.func 57) _ _)) _ _ _ _; refine wcall_fn (h57) rfl (by simp [plainL, plain]) ?_) | ((first | refine T_cond rfl (fun hc => ?_) (fun hc => ?_) | refine wguard_split (fun hc => ?_) (fun hc => ?_)) <;> have hd := hc <;> (try simp (disch := omega) only [wrapI] at hd) <;> have hs := hd <;> (try simp only [decide_eq_true_eq, decide_eq_false_iff_not, Int.not_lt] at hd) <;> (try simp at hs)) | refine T_ret ?_ | refine leave_of (.inr rfl) _ rfl ?_ | refine leave_of (.inl rfl) _ rfl ?_ | refine wif_intro ?_ (fun hc => ?_) | refine And.intro ?_ ?_ | intro hc) | simp (maxSteps := 4000000) only [wops_nil, wops_cons, wstep_none, wstep_some, wguard_true, wrun_call, wrun_mv, wrun_pick, wrun_bin, wrun_not, wrun_idxS, wrun_lenS, get_mk, wop, aop, ev, look, put_some, writes, ores_some, ores_ite_none, binV, thenK, blockK, boolV, intV, tupOf, List.map_cons, List.map_nil, List.length_nil, List.append_nil, List.replicate_zero, Option.map_some, if_true, if_false, Nat.reduceEqDiff, reduceCtorEq, Bool.not_false, eq_self, true_and, decide_true, freeze, lidsL, lids, List.flatMap_cons, List.flatMap_nil, ren, Int.toNat_natCast, *] | simp (disch := omega) only [getD_ints, wrapI] | (with_reducible show wcall _ false (.lit (.func (.func 56) _ _)) _ _ _ _; refine wcall_fn (h56) ?_ ?_ ?_; (next => simp [rfyL, rfy, hget, ints, take_rfy, Int.toNat_natCast]); (next => simp [plainL, plain, plainR, Int.toNat_natCast])) | (with_reducible show wcall _ false (.lit (.func (.func 57) _ _)) _ _ _ _; refine wcall_fn (h57) ?_ ?_ ?_; (next => simp [rfyL, rfy, hget, ints, take_rfy, Int.toNat_natCast]); (next => simp [plainL, plain, plainR, Int.toNat_natCast])) | omega)
            all_goals first | rfl
          | true =>
            have hI2 : ∀ j, j < k + 1 → okCh ((nums b).getD j 0) = true := fun j hj => by
              rcases Nat.lt_succ_iff_lt_or_eq.1 hj with h | rfl
              · exact hI j h
              · exact ho
            replace hI2 := PLift.up hI2
            rw [e] at ho
            clear hall hI e
            generalize nmB b = R at *
            generalize hy : ((c.toNat : Nat) : Int) = y at *
            replace hy := PLift.up hy
            have hy' := hy.down
            unfold okCh at ho
            cases l1 : isLt y with
            | true =>
              rw [l1] at h56
              clear ho h57
              unfold c23l0
              repeat' (first | (with_reducible first | refine T_seq ?_ | refine T_reg ?_ | refine T_skip ?_ | refine T_exit ?_ | refine T_block ?_ | refine T_cond_t rfl ?_ | refine T_cond_f rfl ?_ | (show wcall _ false (.lit (.func (.func 56) _ _)) _ _ _ _; refine wcall_fn (h56) rfl (by simp [plainL, plain]) ?_) | ((first | refine T_cond rfl (fun hc => ?_) (fun hc => ?_) | refine wguard_split (fun hc => ?_) (fun hc => ?_)) <;> have hd := hc <;> (try simp (disch := omega) only [wrapI] at hd) <;> have hs := hd <;> (try simp only [decide_eq_true_eq, decide_eq_false_iff_not, Int.not_lt] at hd) <;> (try simp at hs)) | refine T_ret ?_ | refine leave_of (.inr rfl) _ rfl ?_ | refine leave_of (.inl rfl) _ rfl ?_ | refine wif_intro ?_ (fun hc => ?_) | refine And.intro ?_ ?_ | intro hc) | simp (maxSteps := 4000000) only [wops_nil, wops_cons, wstep_none, wstep_some, wguard_ft, wrun_call, wrun_mv, wrun_pick, wrun_bin, wrun_not, wrun_idxS, wrun_lenS, get_mk, wop, aop, ev, look, put_some, writes, ores_some, ores_ite_none, binV, thenK, blockK, boolV, intV, tupOf, List.map_cons, List.map_nil, List.length_nil, List.append_nil, List.replicate_zero, Option.map_some, if_true, if_false, Nat.reduceEqDiff, reduceCtorEq, Bool.not_true, Bool.false_eq_true, eq_self, true_and, decide_true, freeze, lidsL, lids, List.flatMap_cons, List.flatMap_nil, ren, Int.toNat_natCast, *] | simp (disch := omega) only [wrapI] | (with_reducible show wcall _ false (.lit (.func (.func 56) _ _)) _ _ _ _; refine wcall_fn (h56) ?_ ?_ ?_; (next => simp [rfyL, rfy, hget, ints, take_rfy, Int.toNat_natCast]); (next => simp [plainL, plain, plainR, Int.toNat_natCast])) | omega)
              all_goals first | exact hI2.down _ (by assumption) | (simp [St.only, get_mk, look]; done)
            | false =>
              rw [l1] at h56 ho
              cases l2 : isDg y with
              | true =>
                rw [l2] at h57
                clear ho
                unfold c23l0
                repeat' (first | (with_reducible first | refine T_seq ?_ | refine T_reg ?_ | refine T_skip ?_ | refine T_exit ?_ | refine T_block ?_ | refine T_cond_t rfl ?_ | refine T_cond_f rfl ?_ | (show wcall _ false (.lit (.func (.func 56) _ _)) _ _ _ _; refine wcall_fn (h56) rfl (by simp [plainL, plain]) ?_) | (show wcall _ false (.lit (.func (.func 57) _ _)) _ _ _ _; refine wcall_fn (h57) rfl (by simp [plainL, plain]) ?_) | ((first | refine T_cond rfl (fun hc => ?_) (fun hc => ?_) | refine wguard_split (fun hc => ?_) (fun hc => ?_)) <;> have hd := hc <;> (try simp (disch := omega) only [wrapI] at hd) <;> have hs := hd <;> (try simp only [decide_eq_true_eq, decide_eq_false_iff_not, Int.not_lt] at hd) <;> (try simp at hs)) | refine T_ret ?_ | refine leave_of (.inr rfl) _ rfl ?_ | refine leave_of (.inl rfl) _ rfl ?_ | refine wif_intro ?_ (fun hc => ?_) | refine And.intro ?_ ?_ | intro hc) | simp (maxSteps := 4000000) only [wops_nil, wops_cons, wstep_none, wstep_some, wguard_true, wguard_ft, wrun_call, wrun_mv, wrun_pick, wrun_bin, wrun_not, wrun_idxS, wrun_lenS, get_mk, wop, aop, ev, look, put_some, writes, ores_some, ores_ite_none, binV, thenK, blockK, boolV, intV, tupOf, List.map_cons, List.map_nil, List.length_nil, List.append_nil, List.replicate_zero, Option.map_some, if_true, if_false, Nat.reduceEqDiff, reduceCtorEq, Bool.not_true, Bool.not_false, Bool.false_eq_true, eq_self, true_and, decide_true, freeze, lidsL, lids, List.flatMap_cons, List.flatMap_nil, ren, Int.toNat_natCast, *] | simp (disch := omega) only [wrapI] | (with_reducible show wcall _ false (.lit (.func (.func 56) _ _)) _ _ _ _; refine wcall_fn (h56) ?_ ?_ ?_; (next => simp [rfyL, rfy, hget, ints, take_rfy, Int.toNat_natCast]); (next => simp [plainL, plain, plainR, Int.toNat_natCast])) | (with_reducible show wcall _ false (.lit (.func (.func 57) _ _)) _ _ _ _; refine wcall_fn (h57) ?_ ?_ ?_; (next => simp [rfyL, rfy, hget, ints, take_rfy, Int.toNat_natCast]); (next => simp [plainL, plain, plainR, Int.toNat_natCast])) | omega)
                all_goals first | exact hI2.down _ (by assumption) | (simp [St.only, get_mk, look]; done)
              | false =>
                rw [l2] at h57 ho
                have d3 : (y != 45) = false := by simpa using ho
                clear ho
                unfold c23l0
                repeat' (first | (with_reducible first | refine T_seq ?_ | refine T_reg ?_ | refine T_skip ?_ | refine T_exit ?_ | refine T_block ?_ | refine T_cond_t rfl ?_ | refine T_cond_f rfl ?_ | (show wcall _ false (.lit (.func (.func 56) _ _)) _ _ _ _; refine wcall_fn (h56) rfl (by simp [plainL, plain]) ?_) | (show wcall _ false (.lit (.func (.func 57) _ _)) _ _ _ _; refine wcall_fn (h57) rfl (by simp [plainL, plain]) ?_) | ((first | refine T_cond rfl (fun hc => ?_) (fun hc => ?_) | refine wguard_split (fun hc => ?_) (fun hc => ?_)) <;> have hd := hc <;> (try simp (disch := omega) only [wrapI] at hd) <;> have hs := hd <;> (try simp only [decide_eq_true_eq, decide_eq_false_iff_not, Int.not_lt] at hd) <;> (try simp at hs)) | refine T_ret ?_ | refine leave_of (.inr rfl) _ rfl ?_ | refine leave_of (.inl rfl) _ rfl ?_ | refine wif_intro ?_ (fun hc => ?_) | refine And.intro ?_ ?_ | intro hc) | simp (maxSteps := 4000000) only [wops_nil, wops_cons, wstep_none, wstep_some, wguard_true, wrun_call, wrun_mv, wrun_pick, wrun_bin, wrun_not, wrun_idxS, wrun_lenS, get_mk, wop, aop, ev, look, put_some, writes, ores_some, ores_ite_none, binV, thenK, blockK, boolV, intV, tupOf, List.map_cons, List.map_nil, List.length_nil, List.append_nil, List.replicate_zero, Option.map_some, if_true, if_false, Nat.reduceEqDiff, reduceCtorEq, Bool.not_false, eq_self, true_and, decide_true, freeze, lidsL, lids, List.flatMap_cons, List.flatMap_nil, ren, Int.toNat_natCast, *] | simp (disch := omega) only [wrapI] | (with_reducible show wcall _ false (.lit (.func (.func 56) _ _)) _ _ _ _; refine wcall_fn (h56) ?_ ?_ ?_; (next => simp [rfyL, rfy, hget, ints, take_rfy, Int.toNat_natCast]); (next => simp [plainL, plain, plainR, Int.toNat_natCast])) | (with_reducible show wcall _ false (.lit (.func (.func 57) _ _)) _ _ _ _; refine wcall_fn (h57) ?_ ?_ ?_; (next => simp [rfyL, rfy, hget, ints, take_rfy, Int.toNat_natCast]); (next => simp [plainL, plain, plainR, Int.toNat_natCast])) | omega)
                all_goals first | exact hI2.down _ (by assumption) | (simp [St.only, get_mk, look]; done)
        · have hke : k = b.size := by omega
          subst hke
          rw [hall.down.1 hI]
          clear hall hI
          unfold c23l0
          repeat' (first | (with_reducible first | refine T_seq ?_ | refine T_reg ?_ | refine T_skip ?_ | refine T_exit ?_ | refine T_block ?_ | refine T_cond_t rfl ?_ | refine T_cond_f rfl ?_ | ((first | refine T_cond rfl (fun hc => ?_) (fun hc => ?_) | refine wguard_split (fun hc => ?_) (fun hc => ?_)) <;> have hd := hc <;> (try simp (disch := omega) only [wrapI] at hd) <;> have hs := hd <;> (try simp only [decide_eq_true_eq, decide_eq_false_iff_not, Int.not_lt] at hd) <;> (try simp at hs)) | refine T_ret ?_ | refine leave_of (.inr rfl) _ rfl ?_ | refine leave_of (.inl rfl) _ rfl ?_ | refine wif_intro ?_ (fun hc => ?_) | refine And.intro ?_ ?_ | intro hc) | simp (maxSteps := 4000000) only [wops_nil, wops_cons, wstep_none, wrun_mv, wrun_bin, wrun_lenS, get_mk, wop, aop, ev, look, put_some, writes, ores_some, binV, thenK, blockK, intV, tupOf, List.length_nil, List.append_nil, List.replicate_zero, Option.map_some, if_true, if_false, Nat.reduceEqDiff, reduceCtorEq, eq_self, false_and, ren, *] | simp (disch := omega) only [getD_ints, wrapI] | omega)
          all_goals first | rfl
    · have d2 : decide ((b.size : Int) > 12) = true := decide_eq_true (by omega)
      have hr : nmB b = false := by rw [hnm, hz, decide_eq_false h1]; simp
      rw [hr]
      clear hnm hr
      unfold c23
      repeat' (first | (with_reducible first | refine T_seq ?_ | refine T_reg ?_ | refine T_skip ?_ | refine T_exit ?_ | refine T_block ?_ | refine T_cond_t rfl ?_ | refine T_cond_f rfl ?_ | refine T_ret ?_ | refine leave_of (.inr rfl) _ rfl ?_ | refine leave_of (.inl rfl) _ rfl ?_ | refine wif_intro ?_ (fun hc => ?_) | refine And.intro ?_ ?_ | intro hc) | simp (maxSteps := 4000000) only [wops_nil, wops_cons, wstep_none, wstep_some, wguard_ff, wguard_tf, wrun_mv, wrun_pick, wrun_bin, wrun_lenS, get_mk, wop, aop, ev, look, put_some, writes, ores_some, binV, thenK, intV, tupOf, List.map_cons, List.map_nil, List.length_nil, List.append_nil, List.replicate_zero, List.zipIdx_cons, List.zipIdx_nil, Option.map_some, if_true, if_false, Nat.reduceEqDiff, Nat.zero_add, reduceCtorEq, Bool.false_eq_true, eq_self, ren, *] | simp (disch := omega) only [getD_ints, wrapI] | omega)
      all_goals first | rfl
end Go.Abs
