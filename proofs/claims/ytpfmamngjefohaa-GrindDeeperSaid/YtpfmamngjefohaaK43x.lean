import Derived.Test.YtpfmamngjefohaaK9
import Derived.Test.YtpfmamngjefohaaK26x
import Derived.Test.YtpfmamngjefohaaK40
set_option linter.all false
set_option linter.unusedVariables false
set_option linter.unusedSimpArgs false
set_option linter.unusedSectionVars false
namespace Go.Abs
open Go.Proofs
set_option maxHeartbeats 8000000 in
theorem k3tssn {nil : Bool} {l : List Gr} {a b c e A2 B2 : Int} {s1 s2 : AV} (hl0 : l.length ≤ 6) (h14 : Fn Try.prog 14 [gts nil l] (bl true) []) (hba : 0 ≤ a ∧ a ≤ 1000000) (hbb : 0 ≤ b ∧ b ≤ 1000000) (hbc : 0 ≤ c ∧ c ≤ 1000) (hbe : 0 ≤ e ∧ e ≤ 1000) (j1 : Junk s1) (j2 : Junk s2) (eA : (if a + c < 1000000 then a + c else 1000000) = A2) (eB : (if b - e > 0 then b - e else 0) = B2) {m1 m2 : Int} (h16a : Fn Try.prog 16 [gts false l, prV a b] (.tup [s1, i64 m1, i64 0]) []) (h16b : Fn Try.prog 16 [gts false l, prV A2 B2] (.tup [s2, i64 m2, i64 0]) []) (dM : ¬m2 < m1) {s3 : AV} {t : List Gr} (j3 : Junk s3) (hdr : List.drop 1 (gR l) = gR t) (ht : t.length + 1 = l.length) (h16c : Fn Try.prog 16 [gts false t, prV a b] (.tup [s3, i64 0, i64 12]) []) : Fn Try.prog 3 [gts nil l, prV a b, prV c e] (bl true) [] := by
  refine fn_of e3 ?_
  have h13 := k13
  have hll := gR_len l
  have h17 := k17 nil l (by omega)
  have h15a := k15 a 0 1000000
  have h15b := k15 b 0 1000000
  have h15c := k15 c 0 1000
  have h15e := k15 e 0 1000
  have g3 : decide ((l.length : Int) > 6) = false := decide_eq_false (by omega)
  rw [show (decide ((0 : Int) ≤ a) && decide (a ≤ 1000000)) = true by rw [decide_eq_true hba.1, decide_eq_true hba.2]; rfl] at h15a
  rw [show (decide ((0 : Int) ≤ b) && decide (b ≤ 1000000)) = true by rw [decide_eq_true hbb.1, decide_eq_true hbb.2]; rfl] at h15b
  rw [show (decide ((0 : Int) ≤ c) && decide (c ≤ 1000)) = true by rw [decide_eq_true hbc.1, decide_eq_true hbc.2]; rfl] at h15c
  rw [show (decide ((0 : Int) ≤ e) && decide (e ≤ 1000)) = true by rw [decide_eq_true hbe.1, decide_eq_true hbe.2]; rfl] at h15e
  have w1 : IntKind.i64.wrap (a + c) = a + c := wrapI (by omega) (by omega)
  have w2 : IntKind.i64.wrap (b - e) = b - e := wrapI (by omega) (by omega)
  unfold Junk at j1 j2
  have t1 : ((12 : Int) != 0) = true := rfl
  have t2 : ((12 : Int) != 12) = false := rfl
  have t3 : ((0 : Int) != 0) = false := rfl
  have t4 : ((0 : Int) == 12) = false := rfl
  have t5 : ((12 : Int) == 0) = false := rfl
  have t6 : ((0 : Int) == 0) = true := rfl
  have t7 : ((12 : Int) == 12) = true := rfl
  have t8 : ((0 : Int) != 12) = true := rfl
  have g4 : decide (m2 < m1) = false := decide_eq_false dM
  unfold Junk at j3
  have h17t := k17 nil t (by omega)
  have hlt := gR_len t
  have g6 : ((l.length : Int) == 0) = false := by simp only [beq_eq_false_iff_ne]; omega
  clear dM
  clear hba hbb hbc hbe
  unfold c3
  repeat' (first
    | ((with_reducible refine T_calm ?_ ?_); rfl)
    | with_reducible first
      | refine T_seq ?_
      | refine T_reg ?_
      | refine T_draw ?_
      | refine T_skip ?_
      | refine T_exit ?_
      | refine T_block ?_
      | refine T_cond_t rfl ?_
      | refine T_cond_f rfl ?_
      | refine wdW_cons rfl ?_
      | (show wcall _ false (.lit (.func (.func 13) _ _)) _ _ _ _; refine wcall_fn (h13) rfl (by simp [plainL]) ?_)
      | (show wcallX _ false (.lit (.func (.func 13) _ _)) _ _ _ _; refine wcallX_fn (h13) rfl (by simp [plainL, plain, plainR, Int.toNat_natCast, plainR_gR, gR_len, gR_take, gR_rfy, gR_lids, renR_gR, freeze1, Int.toNat_zero, Int.toNat_one, hdr]) ?_)
      | (show wcall _ false (.lit (.func (.func 14) _ _)) _ _ _ _; refine wcall_fn (h14) rfl (by simp [plainL, plain, plainR_gR]) ?_)
      | (show wcallX _ false (.lit (.func (.func 14) _ _)) _ _ _ _; refine wcallX_fn (h14) rfl (by simp [plainL, plain, plainR, Int.toNat_natCast, plainR_gR, gR_len, gR_take, gR_rfy, gR_lids, renR_gR, freeze1, Int.toNat_zero, Int.toNat_one, hdr]) ?_)
      | (show wcall _ false (.lit (.func (.func 15) _ _)) _ _ _ _; refine wcall_fn (h15a) rfl (by simp [plainL, plain]) ?_)
      | (show wcallX _ false (.lit (.func (.func 15) _ _)) _ _ _ _; refine wcallX_fn (h15a) rfl (by simp [plainL, plain, plainR, Int.toNat_natCast, plainR_gR, gR_len, gR_take, gR_rfy, gR_lids, renR_gR, freeze1, Int.toNat_zero, Int.toNat_one, hdr]) ?_)
      | (show wcall _ false (.lit (.func (.func 15) _ _)) _ _ _ _; refine wcall_fn (h15b) rfl (by simp [plainL, plain]) ?_)
      | (show wcallX _ false (.lit (.func (.func 15) _ _)) _ _ _ _; refine wcallX_fn (h15b) rfl (by simp [plainL, plain, plainR, Int.toNat_natCast, plainR_gR, gR_len, gR_take, gR_rfy, gR_lids, renR_gR, freeze1, Int.toNat_zero, Int.toNat_one, hdr]) ?_)
      | (show wcall _ false (.lit (.func (.func 15) _ _)) _ _ _ _; refine wcall_fn (h15c) rfl (by simp [plainL, plain]) ?_)
      | (show wcallX _ false (.lit (.func (.func 15) _ _)) _ _ _ _; refine wcallX_fn (h15c) rfl (by simp [plainL, plain, plainR, Int.toNat_natCast, plainR_gR, gR_len, gR_take, gR_rfy, gR_lids, renR_gR, freeze1, Int.toNat_zero, Int.toNat_one, hdr]) ?_)
      | (show wcall _ false (.lit (.func (.func 15) _ _)) _ _ _ _; refine wcall_fn (h15e) rfl (by simp [plainL, plain]) ?_)
      | (show wcallX _ false (.lit (.func (.func 15) _ _)) _ _ _ _; refine wcallX_fn (h15e) rfl (by simp [plainL, plain, plainR, Int.toNat_natCast, plainR_gR, gR_len, gR_take, gR_rfy, gR_lids, renR_gR, freeze1, Int.toNat_zero, Int.toNat_one, hdr]) ?_)
      | (show wcall _ false (.lit (.func (.func 17) _ _)) _ _ _ _; refine wcall_fn (h17) rfl (by simp [plainL, plain, plainR, Int.toNat_natCast, plainR_gR, gR_len, gR_take, gR_rfy, gR_lids, renR_gR, freeze1, Int.toNat_zero, Int.toNat_one, hdr]) ?_)
      | (show wcallX _ false (.lit (.func (.func 17) _ _)) _ _ _ _; refine wcallX_fn (h17) rfl (by simp [plainL, plain, plainR_gR]) ?_)
      | (show wcall _ false (.lit (.func (.func 17) _ _)) _ _ _ _; refine wcall_fn (h17t) rfl (by simp [plainL, plain, plainR, Int.toNat_natCast, plainR_gR, gR_len, gR_take, gR_rfy, gR_lids, renR_gR, freeze1, Int.toNat_zero, Int.toNat_one, hdr]) ?_)
      | (show wcallX _ false (.lit (.func (.func 17) _ _)) _ _ _ _; refine wcallX_fn (h17t) rfl (by simp [plainL, plain, plainR_gR]) ?_)
      | (show wcall _ false (.lit (.func (.func 16) _ _)) _ _ _ _; refine wcall_fn (h16a) rfl (by simp [plainL, plain, plainR, Int.toNat_natCast, plainR_gR, gR_len, gR_take, gR_rfy, gR_lids, renR_gR, freeze1, Int.toNat_zero, Int.toNat_one, hdr]) ?_)
      | (show wcallX _ false (.lit (.func (.func 16) _ _)) _ _ _ _; refine wcallX_fn (h16a) rfl (by simp [plainL, plain, plainR_gR]) ?_)
      | (show wcall _ false (.lit (.func (.func 16) _ _)) _ _ _ _; refine wcall_fn (h16b) rfl (by simp [plainL, plain, plainR, Int.toNat_natCast, plainR_gR, gR_len, gR_take, gR_rfy, gR_lids, renR_gR, freeze1, Int.toNat_zero, Int.toNat_one, hdr]) ?_)
      | (show wcallX _ false (.lit (.func (.func 16) _ _)) _ _ _ _; refine wcallX_fn (h16b) rfl (by simp [plainL, plain, plainR_gR]) ?_)
      | (show wcall _ false (.lit (.func (.func 16) _ _)) _ _ _ _; refine wcall_fn (h16c) rfl (by simp [plainL, plain, plainR, Int.toNat_natCast, plainR_gR, gR_len, gR_take, gR_rfy, gR_lids, renR_gR, freeze1, Int.toNat_zero, Int.toNat_one, hdr]) ?_)
      | (show wcallX _ false (.lit (.func (.func 16) _ _)) _ _ _ _; refine wcallX_fn (h16c) rfl (by simp [plainL, plain, plainR_gR]) ?_)
      | ((first | refine T_cond rfl (fun hc => ?_) (fun hc => ?_) | refine wguard_split (fun hc => ?_) (fun hc => ?_) | refine wguardX_split (fun hc => ?_) (fun hc => ?_)) <;> have hd := hc <;> (try simp (disch := omega) only [wrapI] at hd) <;> have hs := hd <;> (try simp only [Bool.not_eq_true', Bool.not_eq_false', Bool.and_eq_true, Bool.and_eq_false_iff, Bool.or_eq_true, Bool.or_eq_false_iff, decide_eq_true_eq, decide_eq_false_iff_not, beq_iff_eq, bne_iff_ne, beq_eq_false_iff_ne, bne_eq_false_iff_eq, Bool.not_true, Bool.not_false, gt_iff_lt, ge_iff_le, Int.not_lt, Int.not_le, ne_eq, Decidable.not_not] at hd) <;> (try simp at hs))
      | refine T_ret ?_
      | refine leave_of (.inr rfl) _ rfl ?_
      | refine leave_of (.inl rfl) _ rfl ?_
      | refine leaveA_of (.inr rfl) _ rfl ?_
      | refine leaveA_of (.inl rfl) _ rfl ?_
      | refine wif_intro ?_ (fun hc => ?_)
      | refine And.intro ?_ ?_
      | intro hc
    | simp (maxSteps := 4000000) only [wops_nil, wops_cons, wstep_none, wstep_some, wguard_true, wguard_ff, wguard_tf, wguard_ft, wguard_undef, wrun_call, wrun_mv, wrun_pick, wrun_bin, wrun_not, wrun_ext, wrun_build, wrun_load, wrun_iaddrA, wrun_slc, wrun_len, wrun_minmax, wrun_box, wrunX_mv, wrunX_bin, wrunX_ext, wrunX_build, wrunX_load, wrunX_iaddrA, wrunX_slc, wrunX_minmax, wdW_nil, wstepX_none, wrunX_call, get_mk, wop, aop, ev, look, put_some, writes, ores_some, ores_ite_none, ores_map, ores_bind, binV, thenK, boolV, intV, lenOf, szOk, value, cut, hget, fillA, putCells, AV.parts, isOne, toLits, mkAgg, boundOf, tupOf, ofValue_int, List.map_cons, List.map_nil, List.length_cons, List.length_nil, List.getElem?_cons_zero, List.getElem?_cons_succ, List.set_cons_zero, List.set_cons_succ, List.take_succ_cons, List.take_zero, List.take_nil, List.drop_succ_cons, List.drop_zero, List.drop_nil, List.cons_append, List.nil_append, List.append_nil, List.replicate_zero, List.replicate_succ, List.getD_cons_zero, List.zipIdx_cons, List.zipIdx_nil, List.all_cons, List.all_nil, Option.pure_def, Option.bind_eq_bind, Option.getD_some, Option.map_some, Option.map_none, if_true, if_false, Nat.reduceEqDiff, Nat.reduceAdd, Nat.reduceLeDiff, Nat.add_zero, Nat.zero_add, Nat.mul_one, Nat.le_refl, Nat.zero_ne_one, reduceCtorEq, Bool.not_true, Bool.and_true, Bool.or_true, Bool.false_eq_true, eq_self, true_and, and_self, beq_self_eq_true, freeze, lidsL, lids, List.flatMap_cons, List.flatMap_nil, List.all_cons, ren, renL, renB, shiftρ, gR_take, gR_lids, renR_gR, freeze1, Int.toNat_zero, Int.toNat_one, *]
    | simp (disch := omega) only [getD_ints, wrapI]
    | (with_reducible show wcall _ false (.lit (.func (.func 13) _ _)) _ _ _ _; refine wcall_fn (h13) ?_ ?_ ?_; (next => simp [rfyL, rfy, hget, ints, take_rfy, Int.toNat_natCast, plainR_gR, gR_len, gR_take, gR_rfy, gR_lids, renR_gR, freeze1, Int.toNat_zero, Int.toNat_one, hdr]); (next => simp [plainL, plain, plainR, Int.toNat_natCast, plainR_gR, gR_len, gR_take, gR_rfy, gR_lids, renR_gR, freeze1, Int.toNat_zero, Int.toNat_one, hdr]))
    | (with_reducible show wcallX _ false (.lit (.func (.func 13) _ _)) _ _ _ _; refine wcallX_fn (h13) ?_ ?_ ?_; (next => simp [rfyL, rfy, hget, ints, take_rfy, Int.toNat_natCast, plainR_gR, gR_len, gR_take, gR_rfy, gR_lids, renR_gR, freeze1, Int.toNat_zero, Int.toNat_one, hdr]); (next => simp [plainL, plain, plainR, Int.toNat_natCast, plainR_gR, gR_len, gR_take, gR_rfy, gR_lids, renR_gR, freeze1, Int.toNat_zero, Int.toNat_one, hdr]))
    | (with_reducible show wcall _ false (.lit (.func (.func 14) _ _)) _ _ _ _; refine wcall_fn (h14) ?_ ?_ ?_; (next => simp [rfyL, rfy, hget, ints, take_rfy, Int.toNat_natCast, plainR_gR, gR_len, gR_take, gR_rfy, gR_lids, renR_gR, freeze1, Int.toNat_zero, Int.toNat_one, hdr]); (next => simp [plainL, plain, plainR, Int.toNat_natCast, plainR_gR, gR_len, gR_take, gR_rfy, gR_lids, renR_gR, freeze1, Int.toNat_zero, Int.toNat_one, hdr]))
    | (with_reducible show wcallX _ false (.lit (.func (.func 14) _ _)) _ _ _ _; refine wcallX_fn (h14) ?_ ?_ ?_; (next => simp [rfyL, rfy, hget, ints, take_rfy, Int.toNat_natCast, plainR_gR, gR_len, gR_take, gR_rfy, gR_lids, renR_gR, freeze1, Int.toNat_zero, Int.toNat_one, hdr]); (next => simp [plainL, plain, plainR, Int.toNat_natCast, plainR_gR, gR_len, gR_take, gR_rfy, gR_lids, renR_gR, freeze1, Int.toNat_zero, Int.toNat_one, hdr]))
    | (with_reducible show wcall _ false (.lit (.func (.func 15) _ _)) _ _ _ _; refine wcall_fn (h15a) ?_ ?_ ?_; (next => simp [rfyL, rfy, hget, ints, take_rfy, Int.toNat_natCast, plainR_gR, gR_len, gR_take, gR_rfy, gR_lids, renR_gR, freeze1, Int.toNat_zero, Int.toNat_one, hdr]); (next => simp [plainL, plain, plainR, Int.toNat_natCast, plainR_gR, gR_len, gR_take, gR_rfy, gR_lids, renR_gR, freeze1, Int.toNat_zero, Int.toNat_one, hdr]))
    | (with_reducible show wcallX _ false (.lit (.func (.func 15) _ _)) _ _ _ _; refine wcallX_fn (h15a) ?_ ?_ ?_; (next => simp [rfyL, rfy, hget, ints, take_rfy, Int.toNat_natCast, plainR_gR, gR_len, gR_take, gR_rfy, gR_lids, renR_gR, freeze1, Int.toNat_zero, Int.toNat_one, hdr]); (next => simp [plainL, plain, plainR, Int.toNat_natCast, plainR_gR, gR_len, gR_take, gR_rfy, gR_lids, renR_gR, freeze1, Int.toNat_zero, Int.toNat_one, hdr]))
    | (with_reducible show wcall _ false (.lit (.func (.func 15) _ _)) _ _ _ _; refine wcall_fn (h15b) ?_ ?_ ?_; (next => simp [rfyL, rfy, hget, ints, take_rfy, Int.toNat_natCast, plainR_gR, gR_len, gR_take, gR_rfy, gR_lids, renR_gR, freeze1, Int.toNat_zero, Int.toNat_one, hdr]); (next => simp [plainL, plain, plainR, Int.toNat_natCast, plainR_gR, gR_len, gR_take, gR_rfy, gR_lids, renR_gR, freeze1, Int.toNat_zero, Int.toNat_one, hdr]))
    | (with_reducible show wcallX _ false (.lit (.func (.func 15) _ _)) _ _ _ _; refine wcallX_fn (h15b) ?_ ?_ ?_; (next => simp [rfyL, rfy, hget, ints, take_rfy, Int.toNat_natCast, plainR_gR, gR_len, gR_take, gR_rfy, gR_lids, renR_gR, freeze1, Int.toNat_zero, Int.toNat_one, hdr]); (next => simp [plainL, plain, plainR, Int.toNat_natCast, plainR_gR, gR_len, gR_take, gR_rfy, gR_lids, renR_gR, freeze1, Int.toNat_zero, Int.toNat_one, hdr]))
    | (with_reducible show wcall _ false (.lit (.func (.func 15) _ _)) _ _ _ _; refine wcall_fn (h15c) ?_ ?_ ?_; (next => simp [rfyL, rfy, hget, ints, take_rfy, Int.toNat_natCast, plainR_gR, gR_len, gR_take, gR_rfy, gR_lids, renR_gR, freeze1, Int.toNat_zero, Int.toNat_one, hdr]); (next => simp [plainL, plain, plainR, Int.toNat_natCast, plainR_gR, gR_len, gR_take, gR_rfy, gR_lids, renR_gR, freeze1, Int.toNat_zero, Int.toNat_one, hdr]))
    | (with_reducible show wcallX _ false (.lit (.func (.func 15) _ _)) _ _ _ _; refine wcallX_fn (h15c) ?_ ?_ ?_; (next => simp [rfyL, rfy, hget, ints, take_rfy, Int.toNat_natCast, plainR_gR, gR_len, gR_take, gR_rfy, gR_lids, renR_gR, freeze1, Int.toNat_zero, Int.toNat_one, hdr]); (next => simp [plainL, plain, plainR, Int.toNat_natCast, plainR_gR, gR_len, gR_take, gR_rfy, gR_lids, renR_gR, freeze1, Int.toNat_zero, Int.toNat_one, hdr]))
    | (with_reducible show wcall _ false (.lit (.func (.func 15) _ _)) _ _ _ _; refine wcall_fn (h15e) ?_ ?_ ?_; (next => simp [rfyL, rfy, hget, ints, take_rfy, Int.toNat_natCast, plainR_gR, gR_len, gR_take, gR_rfy, gR_lids, renR_gR, freeze1, Int.toNat_zero, Int.toNat_one, hdr]); (next => simp [plainL, plain, plainR, Int.toNat_natCast, plainR_gR, gR_len, gR_take, gR_rfy, gR_lids, renR_gR, freeze1, Int.toNat_zero, Int.toNat_one, hdr]))
    | (with_reducible show wcallX _ false (.lit (.func (.func 15) _ _)) _ _ _ _; refine wcallX_fn (h15e) ?_ ?_ ?_; (next => simp [rfyL, rfy, hget, ints, take_rfy, Int.toNat_natCast, plainR_gR, gR_len, gR_take, gR_rfy, gR_lids, renR_gR, freeze1, Int.toNat_zero, Int.toNat_one, hdr]); (next => simp [plainL, plain, plainR, Int.toNat_natCast, plainR_gR, gR_len, gR_take, gR_rfy, gR_lids, renR_gR, freeze1, Int.toNat_zero, Int.toNat_one, hdr]))
    | (with_reducible show wcall _ false (.lit (.func (.func 17) _ _)) _ _ _ _; refine wcall_fn (h17) ?_ ?_ ?_; (next => simp [rfyL, rfy, hget, ints, take_rfy, Int.toNat_natCast, plainR_gR, gR_len, gR_take, gR_rfy, gR_lids, renR_gR, freeze1, Int.toNat_zero, Int.toNat_one, hdr]); (next => simp [plainL, plain, plainR, Int.toNat_natCast, plainR_gR, gR_len, gR_take, gR_rfy, gR_lids, renR_gR, freeze1, Int.toNat_zero, Int.toNat_one, hdr]))
    | (with_reducible show wcallX _ false (.lit (.func (.func 17) _ _)) _ _ _ _; refine wcallX_fn (h17) ?_ ?_ ?_; (next => simp [rfyL, rfy, hget, ints, take_rfy, Int.toNat_natCast, plainR_gR, gR_len, gR_take, gR_rfy, gR_lids, renR_gR, freeze1, Int.toNat_zero, Int.toNat_one, hdr]); (next => simp [plainL, plain, plainR, Int.toNat_natCast, plainR_gR, gR_len, gR_take, gR_rfy, gR_lids, renR_gR, freeze1, Int.toNat_zero, Int.toNat_one, hdr]))
    | (with_reducible show wcall _ false (.lit (.func (.func 17) _ _)) _ _ _ _; refine wcall_fn (h17t) ?_ ?_ ?_; (next => simp [rfyL, rfy, hget, ints, take_rfy, Int.toNat_natCast, plainR_gR, gR_len, gR_take, gR_rfy, gR_lids, renR_gR, freeze1, Int.toNat_zero, Int.toNat_one, hdr]); (next => simp [plainL, plain, plainR, Int.toNat_natCast, plainR_gR, gR_len, gR_take, gR_rfy, gR_lids, renR_gR, freeze1, Int.toNat_zero, Int.toNat_one, hdr]))
    | (with_reducible show wcallX _ false (.lit (.func (.func 17) _ _)) _ _ _ _; refine wcallX_fn (h17t) ?_ ?_ ?_; (next => simp [rfyL, rfy, hget, ints, take_rfy, Int.toNat_natCast, plainR_gR, gR_len, gR_take, gR_rfy, gR_lids, renR_gR, freeze1, Int.toNat_zero, Int.toNat_one, hdr]); (next => simp [plainL, plain, plainR, Int.toNat_natCast, plainR_gR, gR_len, gR_take, gR_rfy, gR_lids, renR_gR, freeze1, Int.toNat_zero, Int.toNat_one, hdr]))
    | (with_reducible show wcall _ false (.lit (.func (.func 16) _ _)) _ _ _ _; refine wcall_fn (h16a) ?_ ?_ ?_; (next => simp [rfyL, rfy, hget, ints, take_rfy, Int.toNat_natCast, plainR_gR, gR_len, gR_take, gR_rfy, gR_lids, renR_gR, freeze1, Int.toNat_zero, Int.toNat_one, hdr]); (next => simp [plainL, plain, plainR, Int.toNat_natCast, plainR_gR, gR_len, gR_take, gR_rfy, gR_lids, renR_gR, freeze1, Int.toNat_zero, Int.toNat_one, hdr]))
    | (with_reducible show wcallX _ false (.lit (.func (.func 16) _ _)) _ _ _ _; refine wcallX_fn (h16a) ?_ ?_ ?_; (next => simp [rfyL, rfy, hget, gR_len, gR_take, gR_rfy]); (next => simp [plainL, plain, plainR_gR]))
    | (with_reducible show wcall _ false (.lit (.func (.func 16) _ _)) _ _ _ _; refine wcall_fn (h16b) ?_ ?_ ?_; (next => simp [rfyL, rfy, hget, ints, take_rfy, Int.toNat_natCast, plainR_gR, gR_len, gR_take, gR_rfy, gR_lids, renR_gR, freeze1, Int.toNat_zero, Int.toNat_one, hdr]); (next => simp [plainL, plain, plainR, Int.toNat_natCast, plainR_gR, gR_len, gR_take, gR_rfy, gR_lids, renR_gR, freeze1, Int.toNat_zero, Int.toNat_one, hdr]))
    | (with_reducible show wcallX _ false (.lit (.func (.func 16) _ _)) _ _ _ _; refine wcallX_fn (h16b) ?_ ?_ ?_; (next => simp [rfyL, rfy, hget, gR_len, gR_take, gR_rfy]); (next => simp [plainL, plain, plainR_gR]))
    | (with_reducible show wcall _ false (.lit (.func (.func 16) _ _)) _ _ _ _; refine wcall_fn (h16c) ?_ ?_ ?_; (next => simp [rfyL, rfy, hget, ints, take_rfy, Int.toNat_natCast, plainR_gR, gR_len, gR_take, gR_rfy, gR_lids, renR_gR, freeze1, Int.toNat_zero, Int.toNat_one, hdr]); (next => simp [plainL, plain, plainR, Int.toNat_natCast, plainR_gR, gR_len, gR_take, gR_rfy, gR_lids, renR_gR, freeze1, Int.toNat_zero, Int.toNat_one, hdr]))
    | (with_reducible show wcallX _ false (.lit (.func (.func 16) _ _)) _ _ _ _; refine wcallX_fn (h16c) ?_ ?_ ?_; (next => simp [rfyL, rfy, hget, gR_len, gR_take, gR_rfy]); (next => simp [plainL, plain, plainR_gR]))
    | omega)
  all_goals first | rfl
set_option maxHeartbeats 8000000 in
theorem k3tsss {nil : Bool} {l : List Gr} {a b c e A2 B2 : Int} {s1 s2 : AV} (hl0 : l.length ≤ 6) (h14 : Fn Try.prog 14 [gts nil l] (bl true) []) (hba : 0 ≤ a ∧ a ≤ 1000000) (hbb : 0 ≤ b ∧ b ≤ 1000000) (hbc : 0 ≤ c ∧ c ≤ 1000) (hbe : 0 ≤ e ∧ e ≤ 1000) (j1 : Junk s1) (j2 : Junk s2) (eA : (if a + c < 1000000 then a + c else 1000000) = A2) (eB : (if b - e > 0 then b - e else 0) = B2) {m1 m2 m3 : Int} (h16a : Fn Try.prog 16 [gts false l, prV a b] (.tup [s1, i64 m1, i64 0]) []) (h16b : Fn Try.prog 16 [gts false l, prV A2 B2] (.tup [s2, i64 m2, i64 0]) []) (dM : ¬m2 < m1) (dK : m1 ≤ m3) {s3 : AV} {t : List Gr} (j3 : Junk s3) (hdr : List.drop 1 (gR l) = gR t) (ht : t.length + 1 = l.length) (h16c : Fn Try.prog 16 [gts false t, prV a b] (.tup [s3, i64 m3, i64 0]) []) : Fn Try.prog 3 [gts nil l, prV a b, prV c e] (bl true) [] := by
  refine fn_of e3 ?_
  have h13 := k13
  have hll := gR_len l
  have h17 := k17 nil l (by omega)
  have h15a := k15 a 0 1000000
  have h15b := k15 b 0 1000000
  have h15c := k15 c 0 1000
  have h15e := k15 e 0 1000
  have g3 : decide ((l.length : Int) > 6) = false := decide_eq_false (by omega)
  rw [show (decide ((0 : Int) ≤ a) && decide (a ≤ 1000000)) = true by rw [decide_eq_true hba.1, decide_eq_true hba.2]; rfl] at h15a
  rw [show (decide ((0 : Int) ≤ b) && decide (b ≤ 1000000)) = true by rw [decide_eq_true hbb.1, decide_eq_true hbb.2]; rfl] at h15b
  rw [show (decide ((0 : Int) ≤ c) && decide (c ≤ 1000)) = true by rw [decide_eq_true hbc.1, decide_eq_true hbc.2]; rfl] at h15c
  rw [show (decide ((0 : Int) ≤ e) && decide (e ≤ 1000)) = true by rw [decide_eq_true hbe.1, decide_eq_true hbe.2]; rfl] at h15e
  have w1 : IntKind.i64.wrap (a + c) = a + c := wrapI (by omega) (by omega)
  have w2 : IntKind.i64.wrap (b - e) = b - e := wrapI (by omega) (by omega)
  unfold Junk at j1 j2
  have t1 : ((12 : Int) != 0) = true := rfl
  have t2 : ((12 : Int) != 12) = false := rfl
  have t3 : ((0 : Int) != 0) = false := rfl
  have t4 : ((0 : Int) == 12) = false := rfl
  have t5 : ((12 : Int) == 0) = false := rfl
  have t6 : ((0 : Int) == 0) = true := rfl
  have t7 : ((12 : Int) == 12) = true := rfl
  have t8 : ((0 : Int) != 12) = true := rfl
  have g4 : decide (m2 < m1) = false := decide_eq_false dM
  have g5 : decide (m1 ≤ m3) = true := decide_eq_true dK
  unfold Junk at j3
  have h17t := k17 nil t (by omega)
  have hlt := gR_len t
  have g6 : ((l.length : Int) == 0) = false := by simp only [beq_eq_false_iff_ne]; omega
  clear dM dK
  clear hba hbb hbc hbe
  unfold c3
  repeat' (first
    | ((with_reducible refine T_calm ?_ ?_); rfl)
    | with_reducible first
      | refine T_seq ?_
      | refine T_reg ?_
      | refine T_draw ?_
      | refine T_skip ?_
      | refine T_exit ?_
      | refine T_block ?_
      | refine T_cond_t rfl ?_
      | refine T_cond_f rfl ?_
      | refine wdW_cons rfl ?_
      | (show wcall _ false (.lit (.func (.func 13) _ _)) _ _ _ _; refine wcall_fn (h13) rfl (by simp [plainL]) ?_)
      | (show wcallX _ false (.lit (.func (.func 13) _ _)) _ _ _ _; refine wcallX_fn (h13) rfl (by simp [plainL, plain, plainR, Int.toNat_natCast, plainR_gR, gR_len, gR_take, gR_rfy, gR_lids, renR_gR, freeze1, Int.toNat_zero, Int.toNat_one, hdr]) ?_)
      | (show wcall _ false (.lit (.func (.func 14) _ _)) _ _ _ _; refine wcall_fn (h14) rfl (by simp [plainL, plain, plainR_gR]) ?_)
      | (show wcallX _ false (.lit (.func (.func 14) _ _)) _ _ _ _; refine wcallX_fn (h14) rfl (by simp [plainL, plain, plainR, Int.toNat_natCast, plainR_gR, gR_len, gR_take, gR_rfy, gR_lids, renR_gR, freeze1, Int.toNat_zero, Int.toNat_one, hdr]) ?_)
      | (show wcall _ false (.lit (.func (.func 15) _ _)) _ _ _ _; refine wcall_fn (h15a) rfl (by simp [plainL, plain]) ?_)
      | (show wcallX _ false (.lit (.func (.func 15) _ _)) _ _ _ _; refine wcallX_fn (h15a) rfl (by simp [plainL, plain, plainR, Int.toNat_natCast, plainR_gR, gR_len, gR_take, gR_rfy, gR_lids, renR_gR, freeze1, Int.toNat_zero, Int.toNat_one, hdr]) ?_)
      | (show wcall _ false (.lit (.func (.func 15) _ _)) _ _ _ _; refine wcall_fn (h15b) rfl (by simp [plainL, plain]) ?_)
      | (show wcallX _ false (.lit (.func (.func 15) _ _)) _ _ _ _; refine wcallX_fn (h15b) rfl (by simp [plainL, plain, plainR, Int.toNat_natCast, plainR_gR, gR_len, gR_take, gR_rfy, gR_lids, renR_gR, freeze1, Int.toNat_zero, Int.toNat_one, hdr]) ?_)
      | (show wcall _ false (.lit (.func (.func 15) _ _)) _ _ _ _; refine wcall_fn (h15c) rfl (by simp [plainL, plain]) ?_)
      | (show wcallX _ false (.lit (.func (.func 15) _ _)) _ _ _ _; refine wcallX_fn (h15c) rfl (by simp [plainL, plain, plainR, Int.toNat_natCast, plainR_gR, gR_len, gR_take, gR_rfy, gR_lids, renR_gR, freeze1, Int.toNat_zero, Int.toNat_one, hdr]) ?_)
      | (show wcall _ false (.lit (.func (.func 15) _ _)) _ _ _ _; refine wcall_fn (h15e) rfl (by simp [plainL, plain]) ?_)
      | (show wcallX _ false (.lit (.func (.func 15) _ _)) _ _ _ _; refine wcallX_fn (h15e) rfl (by simp [plainL, plain, plainR, Int.toNat_natCast, plainR_gR, gR_len, gR_take, gR_rfy, gR_lids, renR_gR, freeze1, Int.toNat_zero, Int.toNat_one, hdr]) ?_)
      | (show wcall _ false (.lit (.func (.func 17) _ _)) _ _ _ _; refine wcall_fn (h17) rfl (by simp [plainL, plain, plainR, Int.toNat_natCast, plainR_gR, gR_len, gR_take, gR_rfy, gR_lids, renR_gR, freeze1, Int.toNat_zero, Int.toNat_one, hdr]) ?_)
      | (show wcallX _ false (.lit (.func (.func 17) _ _)) _ _ _ _; refine wcallX_fn (h17) rfl (by simp [plainL, plain, plainR_gR]) ?_)
      | (show wcall _ false (.lit (.func (.func 17) _ _)) _ _ _ _; refine wcall_fn (h17t) rfl (by simp [plainL, plain, plainR, Int.toNat_natCast, plainR_gR, gR_len, gR_take, gR_rfy, gR_lids, renR_gR, freeze1, Int.toNat_zero, Int.toNat_one, hdr]) ?_)
      | (show wcallX _ false (.lit (.func (.func 17) _ _)) _ _ _ _; refine wcallX_fn (h17t) rfl (by simp [plainL, plain, plainR_gR]) ?_)
      | (show wcall _ false (.lit (.func (.func 16) _ _)) _ _ _ _; refine wcall_fn (h16a) rfl (by simp [plainL, plain, plainR, Int.toNat_natCast, plainR_gR, gR_len, gR_take, gR_rfy, gR_lids, renR_gR, freeze1, Int.toNat_zero, Int.toNat_one, hdr]) ?_)
      | (show wcallX _ false (.lit (.func (.func 16) _ _)) _ _ _ _; refine wcallX_fn (h16a) rfl (by simp [plainL, plain, plainR_gR]) ?_)
      | (show wcall _ false (.lit (.func (.func 16) _ _)) _ _ _ _; refine wcall_fn (h16b) rfl (by simp [plainL, plain, plainR, Int.toNat_natCast, plainR_gR, gR_len, gR_take, gR_rfy, gR_lids, renR_gR, freeze1, Int.toNat_zero, Int.toNat_one, hdr]) ?_)
      | (show wcallX _ false (.lit (.func (.func 16) _ _)) _ _ _ _; refine wcallX_fn (h16b) rfl (by simp [plainL, plain, plainR_gR]) ?_)
      | (show wcall _ false (.lit (.func (.func 16) _ _)) _ _ _ _; refine wcall_fn (h16c) rfl (by simp [plainL, plain, plainR, Int.toNat_natCast, plainR_gR, gR_len, gR_take, gR_rfy, gR_lids, renR_gR, freeze1, Int.toNat_zero, Int.toNat_one, hdr]) ?_)
      | (show wcallX _ false (.lit (.func (.func 16) _ _)) _ _ _ _; refine wcallX_fn (h16c) rfl (by simp [plainL, plain, plainR_gR]) ?_)
      | ((first | refine T_cond rfl (fun hc => ?_) (fun hc => ?_) | refine wguard_split (fun hc => ?_) (fun hc => ?_) | refine wguardX_split (fun hc => ?_) (fun hc => ?_)) <;> have hd := hc <;> (try simp (disch := omega) only [wrapI] at hd) <;> have hs := hd <;> (try simp only [Bool.not_eq_true', Bool.not_eq_false', Bool.and_eq_true, Bool.and_eq_false_iff, Bool.or_eq_true, Bool.or_eq_false_iff, decide_eq_true_eq, decide_eq_false_iff_not, beq_iff_eq, bne_iff_ne, beq_eq_false_iff_ne, bne_eq_false_iff_eq, Bool.not_true, Bool.not_false, gt_iff_lt, ge_iff_le, Int.not_lt, Int.not_le, ne_eq, Decidable.not_not] at hd) <;> (try simp at hs))
      | refine T_ret ?_
      | refine leave_of (.inr rfl) _ rfl ?_
      | refine leave_of (.inl rfl) _ rfl ?_
      | refine leaveA_of (.inr rfl) _ rfl ?_
      | refine leaveA_of (.inl rfl) _ rfl ?_
      | refine wif_intro ?_ (fun hc => ?_)
      | refine And.intro ?_ ?_
      | intro hc
    | simp (maxSteps := 4000000) only [wops_nil, wops_cons, wstep_none, wstep_some, wguard_true, wguard_ff, wguard_ft, wrun_call, wrun_mv, wrun_pick, wrun_bin, wrun_not, wrun_ext, wrun_build, wrun_load, wrun_iaddrA, wrun_slc, wrun_len, wrun_minmax, wrun_box, wrunX_mv, wrunX_bin, wrunX_ext, wrunX_build, wrunX_load, wrunX_iaddrA, wrunX_slc, wrunX_minmax, wdW_nil, wstepX_none, wrunX_call, get_mk, wop, aop, ev, look, put_some, writes, ores_some, ores_ite_none, ores_map, ores_bind, binV, thenK, boolV, intV, lenOf, szOk, value, cut, hget, fillA, putCells, AV.parts, isOne, toLits, mkAgg, boundOf, tupOf, ofValue_int, List.map_cons, List.map_nil, List.length_cons, List.length_nil, List.getElem?_cons_zero, List.getElem?_cons_succ, List.set_cons_zero, List.set_cons_succ, List.take_succ_cons, List.take_zero, List.take_nil, List.drop_succ_cons, List.drop_zero, List.drop_nil, List.cons_append, List.nil_append, List.append_nil, List.replicate_zero, List.replicate_succ, List.getD_cons_zero, List.zipIdx_cons, List.zipIdx_nil, List.all_cons, List.all_nil, Option.pure_def, Option.bind_eq_bind, Option.getD_some, Option.map_some, Option.map_none, if_true, if_false, Nat.reduceEqDiff, Nat.reduceAdd, Nat.reduceLeDiff, Nat.add_zero, Nat.zero_add, Nat.mul_one, Nat.le_refl, Nat.zero_ne_one, reduceCtorEq, Bool.not_true, Bool.and_true, Bool.or_true, Bool.false_eq_true, eq_self, true_and, and_self, beq_self_eq_true, freeze, lidsL, lids, List.flatMap_cons, List.flatMap_nil, List.all_cons, ren, renL, renB, shiftρ, gR_take, gR_lids, renR_gR, freeze1, Int.toNat_zero, Int.toNat_one, *]
    | simp (disch := omega) only [getD_ints, wrapI]
    | (with_reducible show wcall _ false (.lit (.func (.func 13) _ _)) _ _ _ _; refine wcall_fn (h13) ?_ ?_ ?_; (next => simp [rfyL, rfy, hget, ints, take_rfy, Int.toNat_natCast, plainR_gR, gR_len, gR_take, gR_rfy, gR_lids, renR_gR, freeze1, Int.toNat_zero, Int.toNat_one, hdr]); (next => simp [plainL, plain, plainR, Int.toNat_natCast, plainR_gR, gR_len, gR_take, gR_rfy, gR_lids, renR_gR, freeze1, Int.toNat_zero, Int.toNat_one, hdr]))
    | (with_reducible show wcallX _ false (.lit (.func (.func 13) _ _)) _ _ _ _; refine wcallX_fn (h13) ?_ ?_ ?_; (next => simp [rfyL, rfy, hget, ints, take_rfy, Int.toNat_natCast, plainR_gR, gR_len, gR_take, gR_rfy, gR_lids, renR_gR, freeze1, Int.toNat_zero, Int.toNat_one, hdr]); (next => simp [plainL, plain, plainR, Int.toNat_natCast, plainR_gR, gR_len, gR_take, gR_rfy, gR_lids, renR_gR, freeze1, Int.toNat_zero, Int.toNat_one, hdr]))
    | (with_reducible show wcall _ false (.lit (.func (.func 14) _ _)) _ _ _ _; refine wcall_fn (h14) ?_ ?_ ?_; (next => simp [rfyL, rfy, hget, ints, take_rfy, Int.toNat_natCast, plainR_gR, gR_len, gR_take, gR_rfy, gR_lids, renR_gR, freeze1, Int.toNat_zero, Int.toNat_one, hdr]); (next => simp [plainL, plain, plainR, Int.toNat_natCast, plainR_gR, gR_len, gR_take, gR_rfy, gR_lids, renR_gR, freeze1, Int.toNat_zero, Int.toNat_one, hdr]))
    | (with_reducible show wcallX _ false (.lit (.func (.func 14) _ _)) _ _ _ _; refine wcallX_fn (h14) ?_ ?_ ?_; (next => simp [rfyL, rfy, hget, ints, take_rfy, Int.toNat_natCast, plainR_gR, gR_len, gR_take, gR_rfy, gR_lids, renR_gR, freeze1, Int.toNat_zero, Int.toNat_one, hdr]); (next => simp [plainL, plain, plainR, Int.toNat_natCast, plainR_gR, gR_len, gR_take, gR_rfy, gR_lids, renR_gR, freeze1, Int.toNat_zero, Int.toNat_one, hdr]))
    | (with_reducible show wcall _ false (.lit (.func (.func 15) _ _)) _ _ _ _; refine wcall_fn (h15a) ?_ ?_ ?_; (next => simp [rfyL, rfy, hget, ints, take_rfy, Int.toNat_natCast, plainR_gR, gR_len, gR_take, gR_rfy, gR_lids, renR_gR, freeze1, Int.toNat_zero, Int.toNat_one, hdr]); (next => simp [plainL, plain, plainR, Int.toNat_natCast, plainR_gR, gR_len, gR_take, gR_rfy, gR_lids, renR_gR, freeze1, Int.toNat_zero, Int.toNat_one, hdr]))
    | (with_reducible show wcallX _ false (.lit (.func (.func 15) _ _)) _ _ _ _; refine wcallX_fn (h15a) ?_ ?_ ?_; (next => simp [rfyL, rfy, hget, ints, take_rfy, Int.toNat_natCast, plainR_gR, gR_len, gR_take, gR_rfy, gR_lids, renR_gR, freeze1, Int.toNat_zero, Int.toNat_one, hdr]); (next => simp [plainL, plain, plainR, Int.toNat_natCast, plainR_gR, gR_len, gR_take, gR_rfy, gR_lids, renR_gR, freeze1, Int.toNat_zero, Int.toNat_one, hdr]))
    | (with_reducible show wcall _ false (.lit (.func (.func 15) _ _)) _ _ _ _; refine wcall_fn (h15b) ?_ ?_ ?_; (next => simp [rfyL, rfy, hget, ints, take_rfy, Int.toNat_natCast, plainR_gR, gR_len, gR_take, gR_rfy, gR_lids, renR_gR, freeze1, Int.toNat_zero, Int.toNat_one, hdr]); (next => simp [plainL, plain, plainR, Int.toNat_natCast, plainR_gR, gR_len, gR_take, gR_rfy, gR_lids, renR_gR, freeze1, Int.toNat_zero, Int.toNat_one, hdr]))
    | (with_reducible show wcallX _ false (.lit (.func (.func 15) _ _)) _ _ _ _; refine wcallX_fn (h15b) ?_ ?_ ?_; (next => simp [rfyL, rfy, hget, ints, take_rfy, Int.toNat_natCast, plainR_gR, gR_len, gR_take, gR_rfy, gR_lids, renR_gR, freeze1, Int.toNat_zero, Int.toNat_one, hdr]); (next => simp [plainL, plain, plainR, Int.toNat_natCast, plainR_gR, gR_len, gR_take, gR_rfy, gR_lids, renR_gR, freeze1, Int.toNat_zero, Int.toNat_one, hdr]))
    | (with_reducible show wcall _ false (.lit (.func (.func 15) _ _)) _ _ _ _; refine wcall_fn (h15c) ?_ ?_ ?_; (next => simp [rfyL, rfy, hget, ints, take_rfy, Int.toNat_natCast, plainR_gR, gR_len, gR_take, gR_rfy, gR_lids, renR_gR, freeze1, Int.toNat_zero, Int.toNat_one, hdr]); (next => simp [plainL, plain, plainR, Int.toNat_natCast, plainR_gR, gR_len, gR_take, gR_rfy, gR_lids, renR_gR, freeze1, Int.toNat_zero, Int.toNat_one, hdr]))
    | (with_reducible show wcallX _ false (.lit (.func (.func 15) _ _)) _ _ _ _; refine wcallX_fn (h15c) ?_ ?_ ?_; (next => simp [rfyL, rfy, hget, ints, take_rfy, Int.toNat_natCast, plainR_gR, gR_len, gR_take, gR_rfy, gR_lids, renR_gR, freeze1, Int.toNat_zero, Int.toNat_one, hdr]); (next => simp [plainL, plain, plainR, Int.toNat_natCast, plainR_gR, gR_len, gR_take, gR_rfy, gR_lids, renR_gR, freeze1, Int.toNat_zero, Int.toNat_one, hdr]))
    | (with_reducible show wcall _ false (.lit (.func (.func 15) _ _)) _ _ _ _; refine wcall_fn (h15e) ?_ ?_ ?_; (next => simp [rfyL, rfy, hget, ints, take_rfy, Int.toNat_natCast, plainR_gR, gR_len, gR_take, gR_rfy, gR_lids, renR_gR, freeze1, Int.toNat_zero, Int.toNat_one, hdr]); (next => simp [plainL, plain, plainR, Int.toNat_natCast, plainR_gR, gR_len, gR_take, gR_rfy, gR_lids, renR_gR, freeze1, Int.toNat_zero, Int.toNat_one, hdr]))
    | (with_reducible show wcallX _ false (.lit (.func (.func 15) _ _)) _ _ _ _; refine wcallX_fn (h15e) ?_ ?_ ?_; (next => simp [rfyL, rfy, hget, ints, take_rfy, Int.toNat_natCast, plainR_gR, gR_len, gR_take, gR_rfy, gR_lids, renR_gR, freeze1, Int.toNat_zero, Int.toNat_one, hdr]); (next => simp [plainL, plain, plainR, Int.toNat_natCast, plainR_gR, gR_len, gR_take, gR_rfy, gR_lids, renR_gR, freeze1, Int.toNat_zero, Int.toNat_one, hdr]))
    | (with_reducible show wcall _ false (.lit (.func (.func 17) _ _)) _ _ _ _; refine wcall_fn (h17) ?_ ?_ ?_; (next => simp [rfyL, rfy, hget, ints, take_rfy, Int.toNat_natCast, plainR_gR, gR_len, gR_take, gR_rfy, gR_lids, renR_gR, freeze1, Int.toNat_zero, Int.toNat_one, hdr]); (next => simp [plainL, plain, plainR, Int.toNat_natCast, plainR_gR, gR_len, gR_take, gR_rfy, gR_lids, renR_gR, freeze1, Int.toNat_zero, Int.toNat_one, hdr]))
    | (with_reducible show wcallX _ false (.lit (.func (.func 17) _ _)) _ _ _ _; refine wcallX_fn (h17) ?_ ?_ ?_; (next => simp [rfyL, rfy, hget, ints, take_rfy, Int.toNat_natCast, plainR_gR, gR_len, gR_take, gR_rfy, gR_lids, renR_gR, freeze1, Int.toNat_zero, Int.toNat_one, hdr]); (next => simp [plainL, plain, plainR, Int.toNat_natCast, plainR_gR, gR_len, gR_take, gR_rfy, gR_lids, renR_gR, freeze1, Int.toNat_zero, Int.toNat_one, hdr]))
    | (with_reducible show wcall _ false (.lit (.func (.func 17) _ _)) _ _ _ _; refine wcall_fn (h17t) ?_ ?_ ?_; (next => simp [rfyL, rfy, hget, ints, take_rfy, Int.toNat_natCast, plainR_gR, gR_len, gR_take, gR_rfy, gR_lids, renR_gR, freeze1, Int.toNat_zero, Int.toNat_one, hdr]); (next => simp [plainL, plain, plainR, Int.toNat_natCast, plainR_gR, gR_len, gR_take, gR_rfy, gR_lids, renR_gR, freeze1, Int.toNat_zero, Int.toNat_one, hdr]))
    | (with_reducible show wcallX _ false (.lit (.func (.func 17) _ _)) _ _ _ _; refine wcallX_fn (h17t) ?_ ?_ ?_; (next => simp [rfyL, rfy, hget, ints, take_rfy, Int.toNat_natCast, plainR_gR, gR_len, gR_take, gR_rfy, gR_lids, renR_gR, freeze1, Int.toNat_zero, Int.toNat_one, hdr]); (next => simp [plainL, plain, plainR, Int.toNat_natCast, plainR_gR, gR_len, gR_take, gR_rfy, gR_lids, renR_gR, freeze1, Int.toNat_zero, Int.toNat_one, hdr]))
    | (with_reducible show wcall _ false (.lit (.func (.func 16) _ _)) _ _ _ _; refine wcall_fn (h16a) ?_ ?_ ?_; (next => simp [rfyL, rfy, hget, ints, take_rfy, Int.toNat_natCast, plainR_gR, gR_len, gR_take, gR_rfy, gR_lids, renR_gR, freeze1, Int.toNat_zero, Int.toNat_one, hdr]); (next => simp [plainL, plain, plainR, Int.toNat_natCast, plainR_gR, gR_len, gR_take, gR_rfy, gR_lids, renR_gR, freeze1, Int.toNat_zero, Int.toNat_one, hdr]))
    | (with_reducible show wcallX _ false (.lit (.func (.func 16) _ _)) _ _ _ _; refine wcallX_fn (h16a) ?_ ?_ ?_; (next => simp [rfyL, rfy, hget, gR_len, gR_take, gR_rfy]); (next => simp [plainL, plain, plainR_gR]))
    | (with_reducible show wcall _ false (.lit (.func (.func 16) _ _)) _ _ _ _; refine wcall_fn (h16b) ?_ ?_ ?_; (next => simp [rfyL, rfy, hget, ints, take_rfy, Int.toNat_natCast, plainR_gR, gR_len, gR_take, gR_rfy, gR_lids, renR_gR, freeze1, Int.toNat_zero, Int.toNat_one, hdr]); (next => simp [plainL, plain, plainR, Int.toNat_natCast, plainR_gR, gR_len, gR_take, gR_rfy, gR_lids, renR_gR, freeze1, Int.toNat_zero, Int.toNat_one, hdr]))
    | (with_reducible show wcallX _ false (.lit (.func (.func 16) _ _)) _ _ _ _; refine wcallX_fn (h16b) ?_ ?_ ?_; (next => simp [rfyL, rfy, hget, gR_len, gR_take, gR_rfy]); (next => simp [plainL, plain, plainR_gR]))
    | (with_reducible show wcall _ false (.lit (.func (.func 16) _ _)) _ _ _ _; refine wcall_fn (h16c) ?_ ?_ ?_; (next => simp [rfyL, rfy, hget, ints, take_rfy, Int.toNat_natCast, plainR_gR, gR_len, gR_take, gR_rfy, gR_lids, renR_gR, freeze1, Int.toNat_zero, Int.toNat_one, hdr]); (next => simp [plainL, plain, plainR, Int.toNat_natCast, plainR_gR, gR_len, gR_take, gR_rfy, gR_lids, renR_gR, freeze1, Int.toNat_zero, Int.toNat_one, hdr]))
    | (with_reducible show wcallX _ false (.lit (.func (.func 16) _ _)) _ _ _ _; refine wcallX_fn (h16c) ?_ ?_ ?_; (next => simp [rfyL, rfy, hget, gR_len, gR_take, gR_rfy]); (next => simp [plainL, plain, plainR_gR]))
    | omega)
  all_goals first | rfl
end Go.Abs
