import Derived.Test.YtdedhipkncagjaaK307x
set_option linter.all false
set_option linter.unusedVariables false
set_option linter.unusedSimpArgs false
set_option linter.unusedSectionVars false
namespace Go.Abs
open Go.Proofs
/-! demands -/
theorem leaveA1 {σ : St} {Q : AV → List Blk → Prop} {n : Int} {t : Nat} (h : σ.get t = i64 n) (hq : Q (i64 n) σ.heap) : leaveA [.tmp t] Q .ret σ := leaveA_of (.inr rfl) [i64 n] (by simp [resL, resAV, h]) hq
def inD (n : Int) : Bool := decide (0 ≤ n) && decide (n ≤ 10000)
def dEr (lo hi : List Int) (z : Nat) : Int := if (inD (lo.getD z 0) && inD (hi.getD z 0)) = false then 2 else if decide (hi.getD z 0 < lo.getD z 0) = true then 9 else 0
def dmE (n : Nat) (lo hi : List Int) : Int := if ((lo.length : Int) != (n : Int) || (hi.length : Int) != (n : Int)) = true then 10 else fe (dEr lo hi) n
set_option maxHeartbeats 8000000 in
theorem k64l {H : List Blk} {c : Nat} {o' nn' : Bool} {n1 n2 : Bool} {lo hi : List Int} (hd0 : H[c]? = some (.cells o' nn' 2 [[ints n1 lo, ints n2 hi]])) (hlo : lo.length < 1000000) (hhi : hi.length = lo.length) {b : Nat} {a : AV} (K : Exit → St → Prop) {k : Nat} (hk : k < lo.length)
    (hE : dEr lo hi k ≠ 0 → ∀ τ : St, τ.heap = H → τ.get 2 = i64 (dEr lo hi k) → K .ret τ) :
    T none Try.prog muts 53 b c64l0 ⟨[(0, a), (1, .loc c 0 0), (24, ints n1 lo), (25, i64 lo.length), (26, i64 k)], H⟩ (thenK (fun s' => dEr lo hi k = 0 ∧ s'.heap = H ∧ (s'.only [0, 1, 24, 25, 26]).slots = [(0, a), (1, .loc c 0 0), (24, ints n1 lo), (25, i64 lo.length), (26, i64 ((k + 1 : Nat) : Int))]) K) := by
  have hll : (lo.map fun x => [i64 x]).length = lo.length := by simp
  have hlh : (hi.map fun x => [i64 x]).length = hi.length := by simp
  have g1 : (lo.map fun x => [i64 x]).getD k [] = [i64 (lo.getD k 0)] := getD_ints hk
  have g2 : (hi.map fun x => [i64 x]).getD k [] = [i64 (hi.getD k 0)] := getD_ints (by omega)
  have hkh : (k : Int) < (hi.length : Int) := by omega
  have h65a := k65 (lo.getD k 0) 0 10000
  have h65b := k65 (hi.getD k 0) 0 10000
  have hre : dEr lo hi k = if ((decide (0 ≤ lo.getD k 0) && decide (lo.getD k 0 ≤ 10000)) && (decide (0 ≤ hi.getD k 0) && decide (hi.getD k 0 ≤ 10000))) = false then 2 else if decide (hi.getD k 0 < lo.getD k 0) = true then 9 else 0 := rfl
  generalize dEr lo hi k = E at *
  clear hhi
  cases a1 : (decide (0 ≤ lo.getD k 0) && decide (lo.getD k 0 ≤ 10000)) with
  | false =>
    rw [a1] at h65a hre
    rw [if_pos (by simp)] at hre
    subst hre
    have f := PLift.up (hE (by simp))
    clear hE a1 h65b
    unfold c64l0
    repeat' (first | (with_reducible first | refine T_seq ?_ | refine T_reg ?_ | refine T_skip ?_ | refine T_exit ?_ | refine T_block ?_ | refine T_cond_t rfl ?_ | refine T_cond_f rfl ?_ | (show wcall _ false (.lit (.func (.func 65) _ _)) _ _ _ _; refine wcall_fn (h65a) rfl (by simp [plainL, plain]) ?_) | ((first | refine T_cond rfl (fun hc => ?_) (fun hc => ?_) | refine wguard_split (fun hc => ?_) (fun hc => ?_)) <;> have hd := hc <;> (try simp (disch := omega) only [wrapI] at hd) <;> have hs := hd <;> (try simp only [decide_eq_true_eq, decide_eq_false_iff_not, Int.not_lt] at hd) <;> (try simp at hs)) | refine T_ret ?_ | refine wif_intro ?_ (fun hc => ?_) | refine And.intro ?_ ?_ | intro hc) | simp (maxSteps := 4000000) only [wops_nil, wops_cons, wstep_none, wstep_some, wguard_tf, wrun_call, wrun_mv, wrun_pick, wrun_bin, wrun_not, wrun_load, wrun_iaddrS, wop, aop, ev, look, put_some, writes, ores_some, ores_ite_none, binV, thenK, blockK, boolV, value, cut, hget, mkAgg, List.map_cons, List.map_nil, List.length_cons, List.length_nil, List.take_succ_cons, List.take_nil, List.drop_zero, List.append_nil, List.replicate_zero, Option.map_some, if_true, if_false, Nat.reduceEqDiff, Nat.zero_add, reduceCtorEq, Bool.not_false, Bool.false_eq_true, eq_self, and_true, and_self, decide_true, freeze, lidsL, lids, List.flatMap_cons, List.flatMap_nil, ren, Int.toNat_natCast, *] | simp (disch := omega) only [getD_ints, wrapI] | (with_reducible show wcall _ false (.lit (.func (.func 65) _ _)) _ _ _ _; refine wcall_fn (h65a) ?_ ?_ ?_; (next => simp [rfyL, rfy, hget, ints, take_rfy, Int.toNat_natCast]); (next => simp [plainL, plain, plainR, Int.toNat_natCast])) | omega)
    all_goals first | exact f.down _ rfl rfl
  | true =>
    rw [a1] at h65a hre
    cases a2 : (decide (0 ≤ hi.getD k 0) && decide (hi.getD k 0 ≤ 10000)) with
    | false =>
      rw [a2] at h65b hre
      rw [if_pos (by simp)] at hre
      subst hre
      have f := PLift.up (hE (by simp))
      clear hE a1 a2
      unfold c64l0
      repeat' (first | (with_reducible first | refine T_seq ?_ | refine T_reg ?_ | refine T_skip ?_ | refine T_exit ?_ | refine T_block ?_ | refine T_cond_t rfl ?_ | refine T_cond_f rfl ?_ | (show wcall _ false (.lit (.func (.func 65) _ _)) _ _ _ _; refine wcall_fn (h65a) rfl (by simp [plainL, plain]) ?_) | (show wcall _ false (.lit (.func (.func 65) _ _)) _ _ _ _; refine wcall_fn (h65b) rfl (by simp [plainL, plain]) ?_) | ((first | refine T_cond rfl (fun hc => ?_) (fun hc => ?_) | refine wguard_split (fun hc => ?_) (fun hc => ?_)) <;> have hd := hc <;> (try simp (disch := omega) only [wrapI] at hd) <;> have hs := hd <;> (try simp only [decide_eq_true_eq, decide_eq_false_iff_not, Int.not_lt] at hd) <;> (try simp at hs)) | refine T_ret ?_ | refine wif_intro ?_ (fun hc => ?_) | refine And.intro ?_ ?_ | intro hc) | simp (maxSteps := 4000000) only [wops_nil, wops_cons, wstep_none, wstep_some, wguard_ff, wrun_call, wrun_mv, wrun_pick, wrun_bin, wrun_not, wrun_load, wrun_faddr, wrun_iaddrS, wop, aop, ev, look, put_some, writes, ores_some, ores_ite_none, binV, thenK, blockK, boolV, value, cut, hget, mkAgg, List.map_cons, List.map_nil, List.length_cons, List.length_nil, List.take_succ_cons, List.take_nil, List.drop_succ_cons, List.drop_zero, List.append_nil, List.replicate_zero, List.getD_cons_zero, Option.getD_some, Option.map_some, if_true, if_false, Nat.reduceEqDiff, Nat.zero_add, Nat.zero_ne_one, reduceCtorEq, Bool.not_true, Bool.not_false, Bool.false_eq_true, eq_self, true_and, and_true, and_self, decide_true, freeze, lidsL, lids, List.flatMap_cons, List.flatMap_nil, ren, Int.toNat_natCast, *] | simp (disch := omega) only [getD_ints, wrapI] | (with_reducible show wcall _ false (.lit (.func (.func 65) _ _)) _ _ _ _; refine wcall_fn (h65a) ?_ ?_ ?_; (next => simp [rfyL, rfy, hget, ints, take_rfy, Int.toNat_natCast]); (next => simp [plainL, plain, plainR, Int.toNat_natCast])) | (with_reducible show wcall _ false (.lit (.func (.func 65) _ _)) _ _ _ _; refine wcall_fn (h65b) ?_ ?_ ?_; (next => simp [rfyL, rfy, hget, ints, take_rfy, Int.toNat_natCast]); (next => simp [plainL, plain, plainR, Int.toNat_natCast])) | omega)
      all_goals first | exact f.down _ rfl rfl
    | true =>
      rw [a2] at h65b hre
      rw [if_neg (by simp)] at hre
      cases a3 : decide (hi.getD k 0 < lo.getD k 0) with
      | true =>
        rw [a3, if_pos rfl] at hre
        subst hre
        have f := PLift.up (hE (by simp))
        clear hE a1 a2
        unfold c64l0
        repeat' (first | (with_reducible first | refine T_seq ?_ | refine T_reg ?_ | refine T_skip ?_ | refine T_exit ?_ | refine T_block ?_ | refine T_cond_t rfl ?_ | refine T_cond_f rfl ?_ | (show wcall _ false (.lit (.func (.func 65) _ _)) _ _ _ _; refine wcall_fn (h65a) rfl (by simp [plainL, plain]) ?_) | (show wcall _ false (.lit (.func (.func 65) _ _)) _ _ _ _; refine wcall_fn (h65b) rfl (by simp [plainL, plain]) ?_) | ((first | refine T_cond rfl (fun hc => ?_) (fun hc => ?_) | refine wguard_split (fun hc => ?_) (fun hc => ?_)) <;> have hd := hc <;> (try simp (disch := omega) only [wrapI] at hd) <;> have hs := hd <;> (try simp only [decide_eq_true_eq, decide_eq_false_iff_not, Int.not_lt] at hd) <;> (try simp at hs)) | refine T_ret ?_ | refine wif_intro ?_ (fun hc => ?_) | refine And.intro ?_ ?_ | intro hc) | simp (maxSteps := 4000000) only [wops_nil, wops_cons, wstep_none, wstep_some, wguard_ff, wrun_call, wrun_mv, wrun_pick, wrun_bin, wrun_not, wrun_load, wrun_faddr, wrun_iaddrS, wop, aop, ev, look, put_some, writes, ores_some, ores_ite_none, binV, thenK, blockK, boolV, value, cut, hget, mkAgg, List.map_cons, List.map_nil, List.length_cons, List.length_nil, List.take_succ_cons, List.take_nil, List.drop_succ_cons, List.drop_zero, List.append_nil, List.replicate_zero, List.getD_cons_zero, Option.getD_some, Option.map_some, if_true, if_false, Nat.reduceEqDiff, Nat.zero_add, Nat.zero_ne_one, reduceCtorEq, Bool.not_true, Bool.false_eq_true, eq_self, true_and, and_true, and_self, decide_true, freeze, lidsL, lids, List.flatMap_cons, List.flatMap_nil, ren, Int.toNat_natCast, *] | simp (disch := omega) only [getD_ints, wrapI] | (with_reducible show wcall _ false (.lit (.func (.func 65) _ _)) _ _ _ _; refine wcall_fn (h65a) ?_ ?_ ?_; (next => simp [rfyL, rfy, hget, ints, take_rfy, Int.toNat_natCast]); (next => simp [plainL, plain, plainR, Int.toNat_natCast])) | (with_reducible show wcall _ false (.lit (.func (.func 65) _ _)) _ _ _ _; refine wcall_fn (h65b) ?_ ?_ ?_; (next => simp [rfyL, rfy, hget, ints, take_rfy, Int.toNat_natCast]); (next => simp [plainL, plain, plainR, Int.toNat_natCast])) | omega)
        all_goals first | exact f.down _ rfl rfl
      | false =>
        rw [a3, if_neg (by simp)] at hre
        subst hre
        clear hE a1 a2
        unfold c64l0
        repeat' (first | (with_reducible first | refine T_seq ?_ | refine T_reg ?_ | refine T_skip ?_ | refine T_exit ?_ | refine T_block ?_ | refine T_cond_t rfl ?_ | refine T_cond_f rfl ?_ | (show wcall _ false (.lit (.func (.func 65) _ _)) _ _ _ _; refine wcall_fn (h65a) rfl (by simp [plainL, plain]) ?_) | (show wcall _ false (.lit (.func (.func 65) _ _)) _ _ _ _; refine wcall_fn (h65b) rfl (by simp [plainL, plain]) ?_) | ((first | refine T_cond rfl (fun hc => ?_) (fun hc => ?_) | refine wguard_split (fun hc => ?_) (fun hc => ?_)) <;> have hd := hc <;> (try simp (disch := omega) only [wrapI] at hd) <;> have hs := hd <;> (try simp only [decide_eq_true_eq, decide_eq_false_iff_not, Int.not_lt] at hd) <;> (try simp at hs)) | refine T_ret ?_ | refine wif_intro ?_ (fun hc => ?_) | refine And.intro ?_ ?_ | intro hc) | simp (maxSteps := 4000000) only [wops_nil, wops_cons, wstep_none, wstep_some, wguard_ff, wrun_call, wrun_mv, wrun_pick, wrun_bin, wrun_not, wrun_load, wrun_faddr, wrun_iaddrS, wop, aop, ev, look, put_some, writes, ores_some, ores_ite_none, binV, thenK, blockK, boolV, value, cut, hget, mkAgg, List.map_cons, List.map_nil, List.length_cons, List.length_nil, List.take_succ_cons, List.take_nil, List.drop_succ_cons, List.drop_zero, List.append_nil, List.replicate_zero, List.getD_cons_zero, Option.getD_some, Option.map_some, if_true, if_false, Nat.reduceEqDiff, Nat.zero_add, Nat.zero_ne_one, reduceCtorEq, Bool.not_true, Bool.false_eq_true, eq_self, true_and, and_true, and_self, decide_true, freeze, lidsL, lids, List.flatMap_cons, List.flatMap_nil, ren, Int.toNat_natCast, *] | simp (disch := omega) only [wrapI] | (with_reducible show wcall _ false (.lit (.func (.func 65) _ _)) _ _ _ _; refine wcall_fn (h65a) ?_ ?_ ?_; (next => simp [rfyL, rfy, hget, ints, take_rfy, Int.toNat_natCast]); (next => simp [plainL, plain, plainR, Int.toNat_natCast])) | (with_reducible show wcall _ false (.lit (.func (.func 65) _ _)) _ _ _ _; refine wcall_fn (h65b) ?_ ?_ ?_; (next => simp [rfyL, rfy, hget, ints, take_rfy, Int.toNat_natCast]); (next => simp [plainL, plain, plainR, Int.toNat_natCast])) | omega)
        all_goals first | rfl | (simp [St.only, get_mk, look]; done)
end Go.Abs
