import Derived.Test.YtpfmamngjefohaaK333x
set_option linter.all false
set_option linter.unusedVariables false
set_option linter.unusedSimpArgs false
set_option linter.unusedSectionVars false
namespace Go.Abs
open Go.Proofs
/-! weights: the error, the closure, the copy -/
abbrev wgV (n1 : Bool) (lo : List Int) (n2 : Bool) (hi : List Int) (den : Int) : AV := .agg [ints n1 lo, ints n2 hi, i64 den]
def wEr (lo hi : List Int) (z : Nat) : Int := if (!outN (lo.getD z 0) && !outN (hi.getD z 0)) = false then 2 else 0
def wgE (n : Nat) (lo hi : List Int) (den : Int) : Int := if ((lo.length : Int) != (n : Int) || (hi.length : Int) != (n : Int)) = true then 10 else if (decide (1 ≤ den) && decide (den ≤ 10000000)) = false then 2 else fe (wEr lo hi) n
structure WOk (n : Nat) (lo hi : List Int) (den : Int) : Prop where
  l1 : lo.length = n
  l2 : hi.length = n
  den : 1 ≤ den ∧ den ≤ 10000000
  r1 : ∀ z, z < n → 0 ≤ lo.getD z 0 ∧ lo.getD z 0 ≤ 1000000000
  r2 : ∀ z, z < n → 0 ≤ hi.getD z 0 ∧ hi.getD z 0 ≤ 1000000000
theorem wgE_ok {n : Nat} {lo hi : List Int} {den : Int} (h : wgE n lo hi den = 0) : WOk n lo hi den := by
  unfold wgE at h
  split at h
  · simp at h
  rename_i h1
  split at h
  · simp at h
  rename_i h2
  have each : ∀ z, z < n → (0 ≤ lo.getD z 0 ∧ lo.getD z 0 ≤ 1000000000) ∧ (0 ≤ hi.getD z 0 ∧ hi.getD z 0 ≤ 1000000000) := fun z hz => by
    have := fe_all h z hz
    unfold wEr at this
    split at this
    · simp at this
    rename_i g1
    unfold outN at g1
    simp only [Bool.not_eq_false, Bool.and_eq_true, Bool.not_not, decide_eq_true_eq] at g1
    exact g1
  simp only [Bool.or_eq_true, bne_iff_ne, not_or, Decidable.not_not] at h1
  exact ⟨by omega, by omega, by simpa using h2, fun z hz => (each z hz).1, fun z hz => (each z hz).2⟩
set_option maxHeartbeats 8000000 in
theorem k88 {b : Bool} {m : Nat} {E : List (List AV)} (hE : plainR E = true) (n1 n2 : Bool) (lo hi : List Int) (den : Int) : Fn Try.prog 88 [.sl b m E, wgV n1 lo n2 hi den] (.clo (.func 110) [] [.loc 0 0 0, .loc 1 0 0]) [.cells true false 1 [[.sl b m E]], .cells true false 3 [[ints n1 lo, ints n2 hi, i64 den]]] := by
  refine fn_of e88 ?_
  unfold c88
  have hr := fun ρ => renR_plain ρ E hE
  repeat' (first
    | with_reducible first
      | refine T_seq ?_
      | refine T_reg ?_
      | refine T_skip ?_
      | refine T_exit ?_
      | refine T_block ?_
      | refine T_cond_t rfl ?_
      | refine T_cond_f rfl ?_
      | ((first | refine T_cond rfl (fun hc => ?_) (fun hc => ?_) | refine wguard_split (fun hc => ?_) (fun hc => ?_)) <;> have hd := hc <;> (try simp (disch := omega) only [wrapI] at hd) <;> have hs := hd <;> (try simp only [Bool.not_eq_true', Bool.not_eq_false', Bool.and_eq_true, Bool.and_eq_false_iff, Bool.or_eq_true, Bool.or_eq_false_iff, decide_eq_true_eq, decide_eq_false_iff_not, beq_iff_eq, bne_iff_ne, beq_eq_false_iff_ne, bne_eq_false_iff_eq, Bool.not_true, Bool.not_false, gt_iff_lt, ge_iff_le, Int.not_lt, Int.not_le, ne_eq, Decidable.not_not] at hd) <;> (try simp at hs))
      | refine T_ret ?_
      | refine leave_ids (.inr rfl) _ [0, 1] rfl (by simp) (by simp) ?_
      | refine leave_ids (.inl rfl) _ [0, 1] rfl (by simp) (by simp) ?_
      | refine leaveA_of (.inr rfl) _ rfl ?_
      | refine leaveA_of (.inl rfl) _ rfl ?_
      | refine wif_intro ?_ (fun hc => ?_)
      | refine And.intro ?_ ?_
      | intro hc
    | simp (maxSteps := 4000000) only [wops_nil, wops_cons, wstep_none, wrun_mv, wrun_mkf, wrun_box, get_mk, wop, aop, ev, look, put_some, writes, ores_some, thenK, hget, AV.parts, isOne, tupOf, List.map_cons, List.map_nil, List.length_cons, List.length_nil, List.getElem?_cons_zero, List.getElem?_cons_succ, List.set_cons_zero, List.set_cons_succ, List.nil_append, List.append_nil, List.replicate_zero, List.replicate_succ, List.zipIdx_cons, List.zipIdx_nil, List.all_cons, List.all_nil, Option.getD_some, Option.map_some, Option.map_none, if_true, if_false, Nat.reduceEqDiff, Nat.reduceAdd, Nat.add_zero, Nat.zero_add, Nat.zero_ne_one, reduceCtorEq, Bool.and_true, eq_self, true_and, and_self, List.all_cons, ren, renL, renR, renB, renO, keepρ, pos, Nat.not_lt_zero, renR_ints, renR_ints, *]
    | simp (disch := omega) only [getD_ints, wrapI]
    | omega)
  all_goals first | rfl
set_option maxHeartbeats 8000000 in
theorem k25 (n1 n2 : Bool) (lo hi : List Int) (den : Int) (hlo : lo.length < 1000000) (hhi : hi.length < 1000000) : Fn Try.prog 25 [wgV n1 lo n2 hi den] (.agg [.lsl 0 0 lo.length, .lsl 1 0 hi.length, i64 den]) [iC lo, iC hi] := by
  refine fn_of e25 ?_
  have h53a := k53 n1 lo hlo
  have h53b := k53 n2 hi hhi
  have hlo2 := (by simp : (lo.map fun x => [i64 x]).length = lo.length)
  have hhi2 := (by simp : (hi.map fun x => [i64 x]).length = hi.length)
  unfold c25
  repeat' (first
    | ((with_reducible refine T_calm ?_ ?_); rfl)
    | with_reducible first
      | refine T_seq ?_
      | refine T_reg ?_
      | refine T_draw ?_
      | refine T_skip ?_
      | refine T_exit ?_
      | refine T_block ?_
      | refine T_cond_t rfl ?_
      | refine T_cond_f rfl ?_
      | refine wdW_cons rfl ?_
      | (show wcall _ false (.lit (.func (.func 53) _ _)) _ _ _ _; refine wcall_fn (h53a) rfl (by simp [plainL, plain, plainR, renR_ints]) ?_)
      | (show wcallX _ false (.lit (.func (.func 53) _ _)) _ _ _ _; refine wcallX_fn (h53a) rfl (by simp [plainL, plain]) ?_)
      | (show wcall _ false (.lit (.func (.func 53) _ _)) _ _ _ _; refine wcall_fn (h53b) rfl (by simp [plainL, plain, plainR, renR_ints]) ?_)
      | (show wcallX _ false (.lit (.func (.func 53) _ _)) _ _ _ _; refine wcallX_fn (h53b) rfl (by simp [plainL, plain]) ?_)
      | ((first | refine T_cond rfl (fun hc => ?_) (fun hc => ?_) | refine wguard_split (fun hc => ?_) (fun hc => ?_) | refine wguardX_split (fun hc => ?_) (fun hc => ?_)) <;> have hd := hc <;> (try simp (disch := omega) only [wrapI] at hd) <;> have hs := hd <;> (try simp only [Bool.not_eq_true', Bool.not_eq_false', Bool.and_eq_true, Bool.and_eq_false_iff, Bool.or_eq_true, Bool.or_eq_false_iff, decide_eq_true_eq, decide_eq_false_iff_not, beq_iff_eq, bne_iff_ne, beq_eq_false_iff_ne, bne_eq_false_iff_eq, Bool.not_true, Bool.not_false, gt_iff_lt, ge_iff_le, Int.not_lt, Int.not_le, ne_eq, Decidable.not_not] at hd) <;> (try simp at hs))
      | refine T_ret ?_
      | refine leave_ids (.inr rfl) _ [2, 3] rfl (by simp) (by simp) ?_
      | refine leave_ids (.inl rfl) _ [2, 3] rfl (by simp) (by simp) ?_
      | refine leaveA_of (.inr rfl) _ rfl ?_
      | refine leaveA_of (.inl rfl) _ rfl ?_
      | refine wif_intro ?_ (fun hc => ?_)
      | refine And.intro ?_ ?_
      | intro hc
    | simp (maxSteps := 4000000) only [wops_nil, wops_cons, wstep_none, wrun_build, wrun_load, wrun_store, wrun_faddr, wrun_alloc, wrun_box, wrunX_build, wrunX_load, wrunX_store, wrunX_faddr, wdW_nil, wstepX_none, wrunX_call, wop, aop, ev, look, put_some, put_none, writes, ores_some, thenK, value, cut, hget, fillA, putCells, AV.parts, isOne, toLits, mkAgg, tupOf, List.map_cons, List.map_nil, List.length_cons, List.length_nil, List.getElem?_cons_zero, List.getElem?_cons_succ, List.set_cons_zero, List.set_cons_succ, List.take_succ_cons, List.take_zero, List.take_nil, List.drop_succ_cons, List.drop_zero, List.drop_nil, List.cons_append, List.nil_append, List.append_nil, List.replicate_zero, List.replicate_succ, List.getD_cons_zero, List.zipIdx_cons, List.zipIdx_nil, List.all_cons, List.all_nil, Option.getD_some, Option.map_some, Option.map_none, if_true, if_false, Nat.reduceEqDiff, Nat.reduceAdd, Nat.reduceLeDiff, Nat.reduceLT, Nat.add_zero, Nat.zero_add, Nat.le_refl, Nat.zero_ne_one, reduceCtorEq, Bool.and_true, Bool.false_eq_true, eq_self, true_and, and_self, freeze, lidsL, lids, List.flatMap_cons, List.flatMap_nil, List.all_cons, ren, renL, renB, renO, keepρ, shiftρ, pos, Nat.not_lt_zero, renR_ints, renR_ints, *]
    | simp (disch := omega) only [getD_ints, wrapI]
    | (with_reducible show wcall _ false (.lit (.func (.func 53) _ _)) _ _ _ _; refine wcall_fn (h53a) ?_ ?_ ?_; (next => simp [rfyL, rfy, hget, ints, take_rfy, renR_ints]); (next => simp [plainL, plain, plainR, renR_ints]))
    | (with_reducible show wcallX _ false (.lit (.func (.func 53) _ _)) _ _ _ _; refine wcallX_fn (h53a) ?_ ?_ ?_; (next => simp [rfyL, rfy, hget, ints, take_rfy, renR_ints]); (next => simp [plainL, plain, plainR, renR_ints]))
    | (with_reducible show wcall _ false (.lit (.func (.func 53) _ _)) _ _ _ _; refine wcall_fn (h53b) ?_ ?_ ?_; (next => simp [rfyL, rfy, hget, ints, take_rfy, renR_ints]); (next => simp [plainL, plain, plainR, renR_ints]))
    | (with_reducible show wcallX _ false (.lit (.func (.func 53) _ _)) _ _ _ _; refine wcallX_fn (h53b) ?_ ?_ ?_; (next => simp [rfyL, rfy, hget, ints, take_rfy, renR_ints]); (next => simp [plainL, plain, plainR, renR_ints]))
    | omega)
  all_goals first | rfl
def brB (a b c : Int) : Bool := decide (a ≤ 15) && (decide (b ≤ 43) && decide (c ≤ 43))
abbrev anV (v0 : AV) (i : Int) (n1 : Bool) (lo : List Int) (n2 : Bool) (hi : List Int) (den : Int) : AV := .agg [v0, i64 i, ints n1 lo, ints n2 hi, i64 den]
set_option maxHeartbeats 8000000 in
theorem k20 (n0 : Bool) (mi : List Int) (i : Int) (n1 n2 : Bool) (lo hi : List Int) (den : Int) : Fn Try.prog 20 [anV (ints n0 mi) i n1 lo n2 hi den] (bl (brB mi.length lo.length hi.length)) [] := by
  refine fn_of e20 ?_
  have hm := (by simp : (mi.map fun x => [i64 x]).length = mi.length)
  have hlo2 := (by simp : (lo.map fun x => [i64 x]).length = lo.length)
  have hhi2 := (by simp : (hi.map fun x => [i64 x]).length = hi.length)
  unfold brB
  cases a1 : decide ((mi.length : Int) ≤ 15) <;> cases a2 : decide ((lo.length : Int) ≤ 43) <;> cases a3 : decide ((hi.length : Int) ≤ 43) <;> unfold c20
  repeat' (first
    | with_reducible first
      | refine T_seq ?_
      | refine T_reg ?_
      | refine T_skip ?_
      | refine T_exit ?_
      | refine T_block ?_
      | refine T_cond_t rfl ?_
      | refine T_cond_f rfl ?_
      | ((first | refine T_cond rfl (fun hc => ?_) (fun hc => ?_) | refine wguard_split (fun hc => ?_) (fun hc => ?_)) <;> have hd := hc <;> (try simp (disch := omega) only [wrapI] at hd) <;> have hs := hd <;> (try simp only [Bool.not_eq_true', Bool.not_eq_false', Bool.and_eq_true, Bool.and_eq_false_iff, Bool.or_eq_true, Bool.or_eq_false_iff, decide_eq_true_eq, decide_eq_false_iff_not, beq_iff_eq, bne_iff_ne, beq_eq_false_iff_ne, bne_eq_false_iff_eq, Bool.not_true, Bool.not_false, gt_iff_lt, ge_iff_le, Int.not_lt, Int.not_le, ne_eq, Decidable.not_not] at hd) <;> (try simp at hs))
      | refine T_ret ?_
      | refine leave_of (.inr rfl) _ rfl ?_
      | refine leave_of (.inl rfl) _ rfl ?_
      | refine leaveA_of (.inr rfl) _ rfl ?_
      | refine leaveA_of (.inl rfl) _ rfl ?_
      | refine wif_intro ?_ (fun hc => ?_)
      | refine And.intro ?_ ?_
      | intro hc
    | simp (maxSteps := 4000000) only [wops_nil, wops_cons, wstep_none, wstep_some, wguard_true, wguard_ft, wrun_mv, wrun_pick, wrun_bin, wrun_load, wrun_faddr, wrun_len, wrun_box, get_mk, wop, aop, ev, look, put_some, writes, ores_some, ores_map, ores_bind, binV, thenK, intV, lenOf, value, cut, hget, AV.parts, isOne, mkAgg, tupOf, List.map_cons, List.map_nil, List.length_cons, List.length_nil, List.getElem?_cons_zero, List.set_cons_zero, List.take_succ_cons, List.take_zero, List.drop_succ_cons, List.drop_zero, List.nil_append, List.append_nil, List.replicate_zero, List.replicate_succ, List.getD_cons_zero, List.zipIdx_cons, List.zipIdx_nil, List.all_cons, List.all_nil, Option.pure_def, Option.bind_eq_bind, Option.getD_some, Option.map_some, if_true, if_false, Nat.reduceEqDiff, Nat.reduceAdd, Nat.add_zero, Nat.zero_add, Nat.zero_ne_one, reduceCtorEq, Bool.and_true, Bool.and_false, Bool.false_eq_true, eq_self, true_and, and_self, List.all_cons, ren, *]
    | simp (disch := omega) only [getD_ints, wrapI]
    | omega)
  all_goals first | rfl
set_option maxHeartbeats 8000000 in
theorem k110l {H : List Blk} {c : Nat} {o' nn' n1 n2 : Bool} {lo hi : List Int} {den : Int} {n : Nat} (hd0 : H[c]? = some (.cells o' nn' 3 [[ints n1 lo, ints n2 hi, i64 den]])) (hlo : lo.length = n) (hhi : hi.length = n) (hn : n < 1000000) {b : Nat} (K : Exit → St → Prop) {k : Nat} (hk : k < n)
    (hE : wEr lo hi k ≠ 0 → ∀ τ : St, τ.heap = H → τ.get 2 = i64 (wEr lo hi k) → K .ret τ) :
    T none Try.prog muts 49 b c110l0 ⟨[(1, .loc c 0 0), (28, i64 n), (29, i64 k)], H⟩ (thenK (fun s' => wEr lo hi k = 0 ∧ s'.heap = H ∧ (s'.only [1, 28, 29]).slots = [(1, .loc c 0 0), (28, i64 n), (29, i64 ((k + 1 : Nat) : Int))]) K) := by
  have hll := (by simp : (lo.map fun x => [i64 x]).length = lo.length)
  have hlh := (by simp : (hi.map fun x => [i64 x]).length = hi.length)
  have g1 : (lo.map fun x => [i64 x]).getD k [] = [i64 (lo.getD k 0)] := getD_ints (by omega)
  have g2 : (hi.map fun x => [i64 x]).getD k [] = [i64 (hi.getD k 0)] := getD_ints (by omega)
  have hkl : (k : Int) < (lo.length : Int) := by omega
  have hkh : (k : Int) < (hi.length : Int) := by omega
  have h109a := k109 (lo.getD k 0)
  have h109b := k109 (hi.getD k 0)
  have hre : wEr lo hi k = if (!outN (lo.getD k 0) && !outN (hi.getD k 0)) = false then 2 else 0 := rfl
  generalize wEr lo hi k = E at *
  clear hhi hlo
  cases a1 : outN (lo.getD k 0) with
  | true =>
    rw [a1] at h109a hre
    rw [if_pos (by simp)] at hre
    subst hre
    have f := PLift.up (hE (by simp))
    clear hE a1 h109b
    unfold c110l0
    repeat' (first
      | with_reducible first
        | refine T_seq ?_
        | refine T_reg ?_
        | refine T_skip ?_
        | refine T_exit ?_
        | refine T_block ?_
        | refine T_cond_t rfl ?_
        | refine T_cond_f rfl ?_
        | (show wcall _ false (.lit (.func (.func 109) _ _)) _ _ _ _; refine wcall_fn (h109a) rfl (by simp [plainL, plain]) ?_)
        | ((first | refine T_cond rfl (fun hc => ?_) (fun hc => ?_) | refine wguard_split (fun hc => ?_) (fun hc => ?_)) <;> have hd := hc <;> (try simp (disch := omega) only [wrapI] at hd) <;> have hs := hd <;> (try simp only [decide_eq_true_eq, decide_eq_false_iff_not, Int.not_lt] at hd) <;> (try simp at hs))
        | refine T_ret ?_
        | refine wif_intro ?_ (fun hc => ?_)
        | refine And.intro ?_ ?_
        | intro hc
      | simp (maxSteps := 4000000) only [wops_nil, wops_cons, wstep_none, wstep_some, wguard_tf, wrun_call, wrun_mv, wrun_pick, wrun_bin, wrun_not, wrun_load, wrun_faddr, wrun_iaddrS, wop, aop, ev, look, put_some, writes, ores_some, ores_ite_none, binV, thenK, blockK, boolV, value, cut, hget, mkAgg, List.map_cons, List.map_nil, List.length_cons, List.length_nil, List.take_succ_cons, List.take_zero, List.take_nil, List.drop_zero, List.append_nil, List.replicate_zero, List.getD_cons_zero, Option.getD_some, Option.map_some, if_true, if_false, Nat.reduceEqDiff, Nat.add_zero, Nat.zero_add, reduceCtorEq, Bool.not_true, Bool.not_false, Bool.false_eq_true, eq_self, and_true, and_self, decide_true, freeze, lidsL, lids, List.flatMap_cons, List.flatMap_nil, ren, Int.toNat_natCast, *]
      | simp (disch := omega) only [getD_ints, wrapI]
      | (with_reducible show wcall _ false (.lit (.func (.func 109) _ _)) _ _ _ _; refine wcall_fn (h109a) ?_ ?_ ?_; (next => simp [rfyL, rfy, hget, ints, take_rfy, Int.toNat_natCast]); (next => simp [plainL, plain, plainR, Int.toNat_natCast]))
      | omega)
    all_goals first | exact f.down _ rfl rfl
  | false =>
    rw [a1] at h109a hre
    cases a2 : outN (hi.getD k 0) with
    | true =>
      rw [a2] at h109b hre
      rw [if_pos (by simp)] at hre
      subst hre
      have f := PLift.up (hE (by simp))
      clear hE a1 a2
      unfold c110l0
      repeat' (first
        | with_reducible first
          | refine T_seq ?_
          | refine T_reg ?_
          | refine T_skip ?_
          | refine T_exit ?_
          | refine T_block ?_
          | refine T_cond_t rfl ?_
          | refine T_cond_f rfl ?_
          | (show wcall _ false (.lit (.func (.func 109) _ _)) _ _ _ _; refine wcall_fn (h109a) rfl (by simp [plainL, plain]) ?_)
          | (show wcall _ false (.lit (.func (.func 109) _ _)) _ _ _ _; refine wcall_fn (h109b) rfl (by simp [plainL, plain]) ?_)
          | ((first | refine T_cond rfl (fun hc => ?_) (fun hc => ?_) | refine wguard_split (fun hc => ?_) (fun hc => ?_)) <;> have hd := hc <;> (try simp (disch := omega) only [wrapI] at hd) <;> have hs := hd <;> (try simp only [decide_eq_true_eq, decide_eq_false_iff_not, Int.not_lt] at hd) <;> (try simp at hs))
          | refine T_ret ?_
          | refine wif_intro ?_ (fun hc => ?_)
          | refine And.intro ?_ ?_
          | intro hc
        | simp (maxSteps := 4000000) only [wops_nil, wops_cons, wstep_none, wstep_some, wguard_ff, wrun_call, wrun_mv, wrun_pick, wrun_bin, wrun_not, wrun_load, wrun_faddr, wrun_iaddrS, wop, aop, ev, look, put_some, writes, ores_some, ores_ite_none, binV, thenK, blockK, boolV, value, cut, hget, mkAgg, List.map_cons, List.map_nil, List.length_cons, List.length_nil, List.take_succ_cons, List.take_zero, List.take_nil, List.drop_succ_cons, List.drop_zero, List.append_nil, List.replicate_zero, List.getD_cons_zero, Option.getD_some, Option.map_some, if_true, if_false, Nat.reduceEqDiff, Nat.add_zero, Nat.zero_add, reduceCtorEq, Bool.not_true, Bool.not_false, Bool.false_eq_true, eq_self, true_and, and_true, and_self, decide_true, freeze, lidsL, lids, List.flatMap_cons, List.flatMap_nil, ren, Int.toNat_natCast, *]
        | simp (disch := omega) only [getD_ints, wrapI]
        | (with_reducible show wcall _ false (.lit (.func (.func 109) _ _)) _ _ _ _; refine wcall_fn (h109a) ?_ ?_ ?_; (next => simp [rfyL, rfy, hget, ints, take_rfy, Int.toNat_natCast]); (next => simp [plainL, plain, plainR, Int.toNat_natCast]))
        | (with_reducible show wcall _ false (.lit (.func (.func 109) _ _)) _ _ _ _; refine wcall_fn (h109b) ?_ ?_ ?_; (next => simp [rfyL, rfy, hget, ints, take_rfy, Int.toNat_natCast]); (next => simp [plainL, plain, plainR, Int.toNat_natCast]))
        | omega)
      all_goals first | exact f.down _ rfl rfl
    | false =>
      rw [a2] at h109b hre
      rw [if_neg (by simp)] at hre
      subst hre
      clear hE a1 a2
      unfold c110l0
      repeat' (first
        | with_reducible first
          | refine T_seq ?_
          | refine T_reg ?_
          | refine T_skip ?_
          | refine T_exit ?_
          | refine T_block ?_
          | refine T_cond_t rfl ?_
          | refine T_cond_f rfl ?_
          | (show wcall _ false (.lit (.func (.func 109) _ _)) _ _ _ _; refine wcall_fn (h109a) rfl (by simp [plainL, plain]) ?_)
          | (show wcall _ false (.lit (.func (.func 109) _ _)) _ _ _ _; refine wcall_fn (h109b) rfl (by simp [plainL, plain]) ?_)
          | ((first | refine T_cond rfl (fun hc => ?_) (fun hc => ?_) | refine wguard_split (fun hc => ?_) (fun hc => ?_)) <;> have hd := hc <;> (try simp (disch := omega) only [wrapI] at hd) <;> have hs := hd <;> (try simp only [decide_eq_true_eq, decide_eq_false_iff_not, Int.not_lt] at hd) <;> (try simp at hs))
          | refine T_ret ?_
          | refine wif_intro ?_ (fun hc => ?_)
          | refine And.intro ?_ ?_
          | intro hc
        | simp (maxSteps := 4000000) only [wops_nil, wops_cons, wstep_none, wstep_some, wguard_ff, wrun_call, wrun_mv, wrun_pick, wrun_bin, wrun_not, wrun_load, wrun_faddr, wrun_iaddrS, wop, aop, ev, look, put_some, writes, ores_some, ores_ite_none, binV, thenK, blockK, boolV, value, cut, hget, mkAgg, List.map_cons, List.map_nil, List.length_cons, List.length_nil, List.take_succ_cons, List.take_zero, List.take_nil, List.drop_succ_cons, List.drop_zero, List.append_nil, List.replicate_zero, List.getD_cons_zero, Option.getD_some, Option.map_some, if_true, if_false, Nat.reduceEqDiff, Nat.add_zero, Nat.zero_add, reduceCtorEq, Bool.not_true, Bool.not_false, Bool.false_eq_true, eq_self, true_and, and_true, and_self, decide_true, freeze, lidsL, lids, List.flatMap_cons, List.flatMap_nil, ren, Int.toNat_natCast, *]
        | simp (disch := omega) only [wrapI]
        | (with_reducible show wcall _ false (.lit (.func (.func 109) _ _)) _ _ _ _; refine wcall_fn (h109a) ?_ ?_ ?_; (next => simp [rfyL, rfy, hget, ints, take_rfy, Int.toNat_natCast]); (next => simp [plainL, plain, plainR, Int.toNat_natCast]))
        | (with_reducible show wcall _ false (.lit (.func (.func 109) _ _)) _ _ _ _; refine wcall_fn (h109b) ?_ ?_ ?_; (next => simp [rfyL, rfy, hget, ints, take_rfy, Int.toNat_natCast]); (next => simp [plainL, plain, plainR, Int.toNat_natCast]))
        | omega)
      all_goals first | rfl | (simp [St.only, get_mk, look]; done)
set_option maxHeartbeats 8000000 in
theorem k110 {H : List Blk} {a c : Nat} {o o' nn nn' nil n1 n2 : Bool} {l : List Sk} {lo hi : List Int} {den : Int} (hpos : 0 < l.length) (hlw : (l.getD 0 sk0).wr.length < 1000000) (hH : H[a]? = some (.cells o nn 1 [[sts nil l]])) (hD : H[c]? = some (.cells o' nn' 3 [[ints n1 lo, ints n2 hi, i64 den]])) : ClA 110 [.loc a 0 0, .loc c 0 0] H (wgE (l.getD 0 sk0).wr.length lo hi den) := by
  intro H0 hx0
  refine envOf_all e110 ?_
  obtain ⟨o1, h0⟩ := hx0.cell hH
  obtain ⟨o2, h1⟩ := hx0.cell hD
  have hx9 := PLift.up (Ext.refl H0)
  have hll := skR_len l
  have g0 := skR_get (l := l) (k := 0) hpos
  have hl0 : (0 : Int) < (l.length : Int) := by omega
  have hw0 : ((l.getD 0 sk0).wr.map fun x => [i64 x]).length = (l.getD 0 sk0).wr.length := by simp
  have hlo2 : (lo.map fun x => [i64 x]).length = lo.length := by simp
  have hhi2 : (hi.map fun x => [i64 x]).length = hi.length := by simp
  have h80 := k80 den 1 10000000
  clear hx0 hH hD
  have hre : wgE (l.getD 0 sk0).wr.length lo hi den = if ((lo.length : Int) != ((l.getD 0 sk0).wr.length : Int) || (hi.length : Int) != ((l.getD 0 sk0).wr.length : Int)) = true then 10 else if (decide (1 ≤ den) && decide (den ≤ 10000000)) = false then 2 else fe (wEr lo hi) (l.getD 0 sk0).wr.length := rfl
  cases a1 : ((lo.length : Int) != ((l.getD 0 sk0).wr.length : Int)) with
  | true =>
    rw [a1, Bool.true_or, if_pos rfl] at hre
    rw [hre]
    clear hre h80
    unfold c110
    repeat' (first
      | with_reducible first
        | refine T_seq ?_
        | refine T_reg ?_
        | refine T_skip ?_
        | refine T_exit ?_
        | refine T_block ?_
        | refine T_cond_t rfl ?_
        | refine T_cond_f rfl ?_
        | ((first | refine T_cond rfl (fun hc => ?_) (fun hc => ?_) | refine wguard_split (fun hc => ?_) (fun hc => ?_)) <;> have hd := hc <;> (try simp (disch := omega) only [wrapI] at hd) <;> have hs := hd <;> (try simp only [Bool.not_eq_true', Bool.not_eq_false', Bool.and_eq_true, Bool.and_eq_false_iff, Bool.or_eq_true, Bool.or_eq_false_iff, decide_eq_true_eq, decide_eq_false_iff_not, beq_iff_eq, bne_iff_ne, beq_eq_false_iff_ne, bne_eq_false_iff_eq, Bool.not_true, Bool.not_false, gt_iff_lt, ge_iff_le, Int.not_lt, Int.not_le, ne_eq, Decidable.not_not] at hd) <;> (try simp at hs))
        | refine T_ret ?_
        | refine wif_intro ?_ (fun hc => ?_)
        | refine And.intro ?_ ?_
        | intro hc
      | simp (maxSteps := 4000000) only [wops_nil, wops_cons, wstep_none, wstep_some, wguard_tf, wrun_mv, wrun_pick, wrun_bin, wrun_load, wrun_faddr, wrun_iaddrS, wrun_len, wop, aop, ev, look, put_some, writes, ores_some, ores_ite_none, ores_map, ores_bind, binV, thenK, blockK, intV, lenOf, value, cut, hget, toLits, mkAgg, List.map_cons, List.map_nil, List.length_cons, List.length_nil, List.take_succ_cons, List.take_zero, List.take_nil, List.drop_succ_cons, List.drop_zero, List.append_nil, List.replicate_zero, List.getD_cons_zero, List.zipIdx_cons, List.zipIdx_nil, Option.pure_def, Option.bind_eq_bind, Option.getD_some, Option.map_some, if_true, if_false, Nat.reduceEqDiff, Nat.reduceAdd, Nat.add_zero, Nat.zero_add, Nat.zero_ne_one, reduceCtorEq, Bool.false_eq_true, eq_self, and_true, and_self, Int.toNat_zero, *]
      | simp (disch := omega) only [getD_ints, wrapI]
      | omega)
    all_goals first | exact ⟨_, rfl, rfl, hx9.down⟩
  | false =>
    cases a2 : ((hi.length : Int) != ((l.getD 0 sk0).wr.length : Int)) with
    | true =>
      rw [a1, a2, Bool.or_true, if_pos rfl] at hre
      rw [hre]
      clear hre h80
      unfold c110
      repeat' (first
        | with_reducible first
          | refine T_seq ?_
          | refine T_reg ?_
          | refine T_skip ?_
          | refine T_exit ?_
          | refine T_block ?_
          | refine T_cond_t rfl ?_
          | refine T_cond_f rfl ?_
          | ((first | refine T_cond rfl (fun hc => ?_) (fun hc => ?_) | refine wguard_split (fun hc => ?_) (fun hc => ?_)) <;> have hd := hc <;> (try simp (disch := omega) only [wrapI] at hd) <;> have hs := hd <;> (try simp only [Bool.not_eq_true', Bool.not_eq_false', Bool.and_eq_true, Bool.and_eq_false_iff, Bool.or_eq_true, Bool.or_eq_false_iff, decide_eq_true_eq, decide_eq_false_iff_not, beq_iff_eq, bne_iff_ne, beq_eq_false_iff_ne, bne_eq_false_iff_eq, Bool.not_true, Bool.not_false, gt_iff_lt, ge_iff_le, Int.not_lt, Int.not_le, ne_eq, Decidable.not_not] at hd) <;> (try simp at hs))
          | refine T_ret ?_
          | refine wif_intro ?_ (fun hc => ?_)
          | refine And.intro ?_ ?_
          | intro hc
        | simp (maxSteps := 4000000) only [wops_nil, wops_cons, wstep_none, wstep_some, wguard_ff, wrun_mv, wrun_pick, wrun_bin, wrun_load, wrun_faddr, wrun_iaddrS, wrun_len, wop, aop, ev, look, put_some, writes, ores_some, ores_ite_none, ores_map, ores_bind, binV, thenK, blockK, intV, lenOf, value, cut, hget, toLits, mkAgg, List.map_cons, List.map_nil, List.length_cons, List.length_nil, List.take_succ_cons, List.take_zero, List.take_nil, List.drop_succ_cons, List.drop_zero, List.append_nil, List.replicate_zero, List.getD_cons_zero, List.zipIdx_cons, List.zipIdx_nil, Option.pure_def, Option.bind_eq_bind, Option.getD_some, Option.map_some, if_true, if_false, Nat.reduceEqDiff, Nat.reduceAdd, Nat.add_zero, Nat.zero_add, Nat.zero_ne_one, reduceCtorEq, Bool.false_eq_true, eq_self, and_true, and_self, Int.toNat_zero, *]
        | simp (disch := omega) only [getD_ints, wrapI]
        | omega)
      all_goals first | exact ⟨_, rfl, rfl, hx9.down⟩
    | false =>
      rw [a1, a2, Bool.or_false, if_neg (by simp)] at hre
      have e1 : lo.length = (l.getD 0 sk0).wr.length := by simp only [bne_eq_false_iff_eq] at a1; omega
      have e2 : hi.length = (l.getD 0 sk0).wr.length := by simp only [bne_eq_false_iff_eq] at a2; omega
      cases a3 : (decide (1 ≤ den) && decide (den ≤ 10000000)) with
      | false =>
        rw [a3] at h80 hre
        rw [if_pos rfl] at hre
        rw [hre]
        clear hre a3 e1 e2
        unfold c110
        repeat' (first
          | with_reducible first
            | refine T_seq ?_
            | refine T_reg ?_
            | refine T_skip ?_
            | refine T_exit ?_
            | refine T_block ?_
            | refine T_cond_t rfl ?_
            | refine T_cond_f rfl ?_
            | (show wcall _ false (.lit (.func (.func 80) _ _)) _ _ _ _; refine wcall_fn (h80) rfl (by simp [plainL, plain]) ?_)
            | ((first | refine T_cond rfl (fun hc => ?_) (fun hc => ?_) | refine wguard_split (fun hc => ?_) (fun hc => ?_)) <;> have hd := hc <;> (try simp (disch := omega) only [wrapI] at hd) <;> have hs := hd <;> (try simp only [Bool.not_eq_true', Bool.not_eq_false', Bool.and_eq_true, Bool.and_eq_false_iff, Bool.or_eq_true, Bool.or_eq_false_iff, decide_eq_true_eq, decide_eq_false_iff_not, beq_iff_eq, bne_iff_ne, beq_eq_false_iff_ne, bne_eq_false_iff_eq, Bool.not_true, Bool.not_false, gt_iff_lt, ge_iff_le, Int.not_lt, Int.not_le, ne_eq, Decidable.not_not] at hd) <;> (try simp at hs))
            | refine T_ret ?_
            | refine wif_intro ?_ (fun hc => ?_)
            | refine And.intro ?_ ?_
            | intro hc
          | simp (maxSteps := 4000000) only [wops_nil, wops_cons, wstep_none, wstep_some, wguard_ff, wrun_call, wrun_mv, wrun_pick, wrun_bin, wrun_not, wrun_load, wrun_faddr, wrun_iaddrS, wrun_len, wop, aop, ev, look, put_some, writes, ores_some, ores_ite_none, ores_map, ores_bind, binV, thenK, blockK, boolV, intV, lenOf, value, cut, hget, toLits, mkAgg, List.map_cons, List.map_nil, List.length_cons, List.length_nil, List.take_succ_cons, List.take_zero, List.take_nil, List.drop_succ_cons, List.drop_zero, List.append_nil, List.replicate_zero, List.getD_cons_zero, List.zipIdx_cons, List.zipIdx_nil, Option.pure_def, Option.bind_eq_bind, Option.getD_some, Option.map_some, if_true, if_false, Nat.reduceEqDiff, Nat.reduceAdd, Nat.add_zero, Nat.zero_add, Nat.zero_ne_one, reduceCtorEq, Bool.not_false, Bool.false_eq_true, eq_self, and_true, and_self, freeze, lidsL, lids, List.flatMap_cons, List.flatMap_nil, ren, Int.toNat_zero, *]
          | simp (disch := omega) only [getD_ints, wrapI]
          | (with_reducible show wcall _ false (.lit (.func (.func 80) _ _)) _ _ _ _; refine wcall_fn (h80) ?_ ?_ ?_; (next => simp [rfyL, rfy, hget, ints, take_rfy, Int.toNat_natCast, Int.toNat_zero, plainR_sk]); (next => simp [plainL, plain, plainR, Int.toNat_natCast, Int.toNat_zero, plainR_sk]))
          | omega)
        all_goals first | exact ⟨_, rfl, rfl, hx9.down⟩
      | true =>
        rw [a3] at h80 hre
        rw [if_neg (by simp)] at hre
        rw [hre]
        clear hre a3
        have hrow := PLift.up (fun K k hk hE => k110l (b := H0.length) (den := den) h1 e1 e2 hlw K (k := k) hk hE)
        have hst := PLift.up (fun k hk h0 h => fe_stop (e := wEr lo hi) (k := k) h0 h (l.getD 0 sk0).wr.length hk)
        have hnx := PLift.up (fun k h0 h => fe_next (e := wEr lo hi) (k := k) h0 h)
        have hRe : ∃ R, R = fe (wEr lo hi) (l.getD 0 sk0).wr.length := ⟨_, rfl⟩
        obtain ⟨R, hre⟩ := hRe
        rw [← hre]
        replace hre := PLift.up hre
        clear e1 e2
        unfold c110
        repeat' (first
          | with_reducible first
            | refine T_seq ?_
            | refine T_reg ?_
            | refine T_skip ?_
            | refine T_exit ?_
            | refine T_block ?_
            | refine T_cond_t rfl ?_
            | refine T_cond_f rfl ?_
            | (show wcall _ false (.lit (.func (.func 80) _ _)) _ _ _ _; refine wcall_fn (h80) rfl (by simp [plainL, plain]) ?_)
            | ((first | refine T_cond rfl (fun hc => ?_) (fun hc => ?_) | refine wguard_split (fun hc => ?_) (fun hc => ?_)) <;> have hd := hc <;> (try simp (disch := omega) only [wrapI] at hd) <;> have hs := hd <;> (try simp only [Bool.not_eq_true', Bool.not_eq_false', Bool.and_eq_true, Bool.and_eq_false_iff, Bool.or_eq_true, Bool.or_eq_false_iff, decide_eq_true_eq, decide_eq_false_iff_not, beq_iff_eq, bne_iff_ne, beq_eq_false_iff_ne, bne_eq_false_iff_eq, Bool.not_true, Bool.not_false, gt_iff_lt, ge_iff_le, Int.not_lt, Int.not_le, ne_eq, Decidable.not_not] at hd) <;> (try simp at hs))
            | refine T_ret ?_
            | refine wif_intro ?_ (fun hc => ?_)
            | refine And.intro ?_ ?_
            | intro hc
          | simp (maxSteps := 4000000) only [wops_nil, wops_cons, wstep_none, wstep_some, wguard_ff, wrun_call, wrun_mv, wrun_pick, wrun_bin, wrun_not, wrun_load, wrun_faddr, wrun_iaddrS, wrun_len, wop, aop, ev, look, put_some, writes, ores_some, ores_ite_none, ores_map, ores_bind, binV, thenK, blockK, boolV, intV, lenOf, value, cut, hget, toLits, mkAgg, List.map_cons, List.map_nil, List.length_cons, List.length_nil, List.take_succ_cons, List.take_zero, List.take_nil, List.drop_succ_cons, List.drop_zero, List.append_nil, List.replicate_zero, List.getD_cons_zero, List.zipIdx_cons, List.zipIdx_nil, Option.pure_def, Option.bind_eq_bind, Option.getD_some, Option.map_some, if_true, if_false, Nat.reduceEqDiff, Nat.reduceAdd, Nat.add_zero, Nat.zero_add, Nat.zero_ne_one, reduceCtorEq, Bool.not_true, Bool.false_eq_true, eq_self, and_true, and_self, freeze, lidsL, lids, List.flatMap_cons, List.flatMap_nil, ren, Int.toNat_zero, *]
          | simp (disch := omega) only [getD_ints, wrapI]
          | (with_reducible show wcall _ false (.lit (.func (.func 80) _ _)) _ _ _ _; refine wcall_fn (h80) ?_ ?_ ?_; (next => simp [rfyL, rfy, hget, ints, take_rfy, Int.toNat_natCast, Int.toNat_zero, plainR_sk]); (next => simp [plainL, plain, plainR, Int.toNat_natCast, Int.toNat_zero, plainR_sk]))
          | omega)
        refine T_forP [1, 28, 29] (fun k => [(1, .loc c 0 0), (28, i64 (l.getD 0 sk0).wr.length), (29, i64 k)]) (l.getD 0 sk0).wr.length (fun k H => H = H0 ∧ fe (wEr lo hi) k = 0) 0 ?_ ⟨rfl, rfl⟩ (Nat.zero_le _) ?_
        · simp [St.only, get_mk, look]
        intro k H hk ⟨hHe, hI⟩
        subst hHe
        by_cases hkn : k < (l.getD 0 sk0).wr.length
        · refine T_thenR (hrow.down _ k hkn fun hne τ ht t2 => ?_) fun s' hs => ⟨hkn, ⟨hs.2.1, hnx.down k hI hs.1⟩, hs.2.2⟩
          have h9 := hst.down k hkn hI hne
          have h8 : leaveA [.tmp 2] (fun r H' => r = i64 R ∧ Ext H H') .ret τ := leaveA1 (n := R) (by rw [t2, hre.down, h9]) ⟨rfl, by rw [ht]; exact hx9.down⟩
          exact h8
        · have hke : k = (l.getD 0 sk0).wr.length := by omega
          have hkk : decide ((k : Int) < ((l.getD 0 sk0).wr.length : Int)) = false := decide_eq_false (by omega)
          have hr : R = 0 := hre.down.trans (by rw [← hke]; exact hI)
          subst hr
          clear hrow hst hnx hre hI hke
          unfold c110l0
          repeat' (first
            | with_reducible first
              | refine T_seq ?_
              | refine T_reg ?_
              | refine T_skip ?_
              | refine T_exit ?_
              | refine T_block ?_
              | refine T_cond_t rfl ?_
              | refine T_cond_f rfl ?_
              | ((first | refine T_cond rfl (fun hc => ?_) (fun hc => ?_) | refine wguard_split (fun hc => ?_) (fun hc => ?_)) <;> have hd := hc <;> (try simp (disch := omega) only [wrapI] at hd) <;> have hs := hd <;> (try simp only [Bool.not_eq_true', Bool.not_eq_false', Bool.and_eq_true, Bool.and_eq_false_iff, Bool.or_eq_true, Bool.or_eq_false_iff, decide_eq_true_eq, decide_eq_false_iff_not, beq_iff_eq, bne_iff_ne, beq_eq_false_iff_ne, bne_eq_false_iff_eq, Bool.not_true, Bool.not_false, gt_iff_lt, ge_iff_le, Int.not_lt, Int.not_le, ne_eq, Decidable.not_not] at hd) <;> (try simp at hs))
              | refine T_ret ?_
              | refine wif_intro ?_ (fun hc => ?_)
              | refine And.intro ?_ ?_
              | intro hc
            | simp (maxSteps := 4000000) only [wops_nil, wops_cons, wstep_none, wrun_mv, wrun_bin, wop, aop, ev, look, put_some, writes, ores_some, binV, thenK, blockK, List.append_nil, List.replicate_zero, Option.map_some, if_true, if_false, Nat.reduceEqDiff, reduceCtorEq, eq_self, false_and, Int.toNat_natCast, *]
            | simp (disch := omega) only [getD_ints, wrapI]
            | omega)
          all_goals first | exact ⟨_, rfl, rfl, hx9.down⟩
end Go.Abs
