import Derived.Test.YtodheeifecoebaaGreatDoorPCmin
import Derived.Test.YtodheeifecoebaaGreatDoorK1x
set_option linter.all false
set_option linter.unusedVariables false
set_option linter.unusedSimpArgs false
set_option linter.unusedSectionVars false
namespace Go.Abs
open Go.Proofs
/-! readings and arcs -/
structure Rd where
  a : Int
  b : Int
  lo : Int
  hi : Int
structure Ar where
  f : Int
  t : Int
  len : Int
  sg : Int
abbrev rd0 : Rd := ⟨0, 0, 0, 0⟩
abbrev ar0 : Ar := ⟨0, 0, 0, 0⟩
abbrev rrow (r : Rd) : List AV := [i64 r.a, i64 r.b, i64 r.lo, i64 r.hi]
abbrev arow (r : Ar) : List AV := [i64 r.f, i64 r.t, i64 r.len, i64 r.sg]
def rows4 (l : List Rd) : List (List AV) := l.map rrow
def arows (l : List Ar) : List (List AV) := l.map arow
abbrev rdgs (nil : Bool) (l : List Rd) : AV := .sl nil 4 (rows4 l)
theorem rows4_len (l : List Rd) : (rows4 l).length = l.length := by simp [rows4]
theorem arows_len (l : List Ar) : (arows l).length = l.length := by simp [arows]
theorem rows4_get {l : List Rd} {k : Nat} (h : k < l.length) : (rows4 l).getD k [] = rrow (l.getD k rd0) := by simp [rows4, List.getD, h]
theorem arows_get {l : List Ar} {k : Nat} (h : k < l.length) : (arows l).getD k [] = arow (l.getD k ar0) := by simp [arows, List.getD, h]
@[simp] theorem plainR_rows4 (l : List Rd) : plainR (rows4 l) = true := plainR_map _ (fun _ => rfl) l
@[simp] theorem plainR_arows (l : List Ar) : plainR (arows l) = true := plainR_map _ (fun _ => rfl) l
theorem renR_rows4 (ρ : Nat → Option Nat) (l : List Rd) : renR ρ (rows4 l) = rows4 l := renR_plain ρ _ (plainR_rows4 l)
theorem renR_arows (ρ : Nat → Option Nat) (l : List Ar) : renR ρ (arows l) = arows l := renR_plain ρ _ (plainR_arows l)
theorem renR_app4 (ρ : Nat → Option Nat) : ∀ a b : List (List AV), renR ρ (a ++ b) = renR ρ a ++ renR ρ b
  | [], b => rfl
  | x :: a, b => by simp only [List.cons_append, renR, renR_app4 ρ a b]
theorem arows_app (a b : List Ar) : arows (a ++ b) = arows a ++ arows b := by simp [arows]
theorem arows_two (p q : Ar) : arows [p, q] = [arow p, arow q] := rfl
theorem take_rows4 (h : Nat → Blk) (n : Nat) (l : List Rd) : List.take l.length (List.map (fun r => List.map (rfy h (n + 1)) r) (rows4 l)) = rows4 l := by
  rw [List.take_of_length_le (by simp [rows4])]; simp only [rows4, List.map_map]; exact List.map_congr_left fun x _ => rfl
theorem take_rows4' (h : Nat → Blk) (l : List Rd) : List.take l.length (List.map (fun r => List.map (rfy h 5) r) (rows4 l)) = rows4 l := take_rows4 h 4 l
theorem flat_rows4 (h : Nat → Blk) (n k : Nat) (l : List Rd) : (List.take n (rows4 l)).flatMap (fun r => r.flatMap (lids h (k + 1))) = [] := by
  rw [List.flatMap_eq_nil_iff]
  intro r hr
  obtain ⟨x, _, rfl⟩ := List.mem_map.1 (List.mem_of_mem_take hr)
  rfl
theorem flat_rows4' (h : Nat → Blk) (n : Nat) (l : List Rd) : (List.take n (rows4 l)).flatMap (fun r => r.flatMap (lids h 5)) = [] := flat_rows4 h n 4 l
def fewB (n : Nat) (m : Int) : Bool := decide ((n : Int) ≤ m) || (decide (100 < n) && decide (n ≤ 103))
set_option maxHeartbeats 8000000 in
theorem k5 (nil : Bool) (l : List Rd) (m : Int) : Fn Tryz.prog 5 [rdgs nil l, i64 m] (bl (fewB l.length m)) [] := by
  refine fn_of e5 ?_
  unfold c5
  have hrl := rows4_len l
  repeat' (first | (with_reducible first | refine T_seq ?_ | refine T_reg ?_ | refine T_skip ?_ | refine T_exit ?_ | refine T_block ?_ | refine T_cond_t rfl ?_ | refine T_cond_f rfl ?_ | ((first | refine T_cond rfl (fun hc => ?_) (fun hc => ?_) | refine wguard_split (fun hc => ?_) (fun hc => ?_)) <;> have hd := hc <;> (try simp (disch := omega) only [wrapI] at hd) <;> have hs := hd <;> (try simp only [decide_eq_true_eq, decide_eq_false_iff_not, Bool.not_true, Bool.not_false, gt_iff_lt, Int.not_lt, Int.not_le] at hd) <;> (try simp at hs)) | refine T_ret ?_ | refine leave_of (.inr rfl) _ rfl ?_ | refine leave_of (.inl rfl) _ rfl ?_ | refine wif_intro ?_ (fun hc => ?_) | refine And.intro ?_ ?_ | intro hc) | simp (maxSteps := 4000000) only [wops_nil, wops_cons, wstep_none, wstep_some, wguard_true, wguard_ff, wguard_tf, wguard_ft, wguard_undef, wrun_mv, wrun_pick, wrun_bin, wrun_len, get_mk, wop, aop, ev, look, put_some, writes, ores_some, ores_map, ores_bind, binV, thenK, intV, lenOf, hget, tupOf, List.map_cons, List.map_nil, List.length_nil, List.append_nil, List.replicate_zero, List.zipIdx_cons, List.zipIdx_nil, Option.pure_def, Option.bind_eq_bind, Option.map_some, if_true, if_false, Nat.reduceEqDiff, Nat.reduceAdd, Nat.zero_add, Nat.zero_ne_one, reduceCtorEq, Bool.not_true, Bool.false_eq_true, eq_self, decide_true, ren, *] | simp (disch := omega) only [getD_ints, wrapI] | omega)
  all_goals unfold fewB
  all_goals first | rfl | omega | (exfalso; omega) | (refine congrArg bl ?_; rw [Bool.eq_iff_iff]; simp; done) | (refine congrArg bl ?_; rw [Bool.eq_iff_iff]; simp; omega) | (simp_all; done) | (simp_all; omega) | ((repeat' split) <;> first | rfl | omega | (exfalso; omega) | (refine congrArg bl ?_; rw [Bool.eq_iff_iff]; simp; done) | (refine congrArg bl ?_; rw [Bool.eq_iff_iff]; simp; omega) | (simp_all; done) | (simp_all; omega))
set_option maxHeartbeats 8000000 in
theorem k7 (nil : Bool) (l : List Rd) (hl : l.length < 1000000) : Fn Tryz.prog 7 [rdgs nil l] (.lsl 0 0 l.length) [.cells true false 4 (rows4 l)] := by
  refine fn_of e7 ?_
  unfold c7
  have hrl := rows4_len l
  repeat' (first | (with_reducible first | refine T_seq ?_ | refine T_reg ?_ | refine T_skip ?_ | refine T_exit ?_ | refine T_block ?_ | refine T_cond_t rfl ?_ | refine T_cond_f rfl ?_ | refine T_ret ?_ | refine leave_ids (.inr rfl) _ [1] rfl (by simp) (by simp) ?_ | refine leave_ids (.inl rfl) _ [1] rfl (by simp) (by simp) ?_ | refine wif_intro ?_ (fun hc => ?_) | refine And.intro ?_ ?_ | intro hc) | simp (maxSteps := 4000000) only [wops_nil, wops_cons, wstep_none, wrun_mv, wrun_bslice, wrun_app, get_mk, wop, aop, ev, look, put_some, writes, ores_some, ores_ite_none, thenK, elsOf, szOk, hget, fillA, tupOf, List.flatten_nil, rowsOf, List.map_cons, List.map_nil, List.length_nil, List.getElem?_cons_zero, List.getElem?_cons_succ, List.set_cons_zero, List.set_cons_succ, List.take_nil, List.drop_nil, List.nil_append, List.append_nil, List.replicate_zero, List.replicate_succ, List.zipIdx_cons, List.zipIdx_nil, Option.getD_some, Option.map_some, Option.map_none, if_true, if_false, Nat.reduceEqDiff, Nat.add_zero, Nat.zero_add, Nat.sub_self, Nat.le_refl, reduceCtorEq, Bool.false_and, Bool.or_true, eq_self, true_and, beq_self_eq_true, ren, renB, renO, keepρ, pos, Nat.not_lt_zero, renR_rows4, *] | simp (disch := omega) only [getD_ints, wrapI] | omega)
def arcsL (l : List Rd) : Nat → List Ar
  | 0 => []
  | k + 1 => arcsL l k ++ [⟨(l.getD k rd0).a, (l.getD k rd0).b, (l.getD k rd0).hi, (k : Int) + 1⟩, ⟨(l.getD k rd0).b, (l.getD k rd0).a, -(l.getD k rd0).lo, -(k : Int) - 1⟩]
theorem arcsL_len (l : List Rd) : ∀ k, (arcsL l k).length = 2 * k
  | 0 => rfl
  | k + 1 => by have := arcsL_len l k; unfold arcsL; simp only [List.length_append, List.length_cons, List.length_nil]; omega
def arV (id : Nat) (xs : List Ar) : AV := if xs = [] then .sl true 0 [] else .lsl id 0 xs.length
def arB (xs : List Ar) : List Blk := if xs = [] then [] else [.cells true false 4 (arows xs)]
def S116 (nil : Bool) (l : List Rd) (k : Nat) : St := ⟨[(3, arV 0 (arcsL l k)), (6, rdgs nil l), (7, i64 l.length), (8, i64 k)], arB (arcsL l k)⟩
def okRd (l : List Rd) : Prop := ∀ k, k < l.length → (-1000000 ≤ (l.getD k rd0).lo ∧ (l.getD k rd0).lo ≤ 1000000)
set_option maxHeartbeats 8000000 in
theorem k64 (nil : Bool) (l : List Rd) (hl : l.length < 1000000) (hr : okRd l) : Fn Tryz.prog 64 [rdgs nil l] (arV 0 (arcsL l l.length)) (arB (arcsL l l.length)) := by
  refine fn_of e64 ?_
  unfold c64
  have hrl := rows4_len l
  repeat' (first | (with_reducible first | refine T_seq ?_ | refine T_reg ?_ | refine T_skip ?_ | refine T_exit ?_ | refine T_block ?_ | refine T_cond_t rfl ?_ | refine T_cond_f rfl ?_ | refine T_ret ?_ | refine leave_of (.inr rfl) _ rfl ?_ | refine leave_of (.inl rfl) _ rfl ?_ | refine wif_intro ?_ (fun hc => ?_) | refine And.intro ?_ ?_ | intro hc) | simp (maxSteps := 4000000) only [wops_nil, wops_cons, wstep_none, wrun_mv, wrun_len, wop, aop, ev, look, put_some, writes, ores_some, ores_map, ores_bind, thenK, intV, lenOf, hget, List.map_cons, List.map_nil, List.length_nil, List.append_nil, List.replicate_zero, List.zipIdx_cons, List.zipIdx_nil, Option.pure_def, Option.bind_eq_bind, if_true, if_false, Nat.reduceEqDiff, Nat.zero_add, reduceCtorEq, eq_self, *] | simp (disch := omega) only [getD_ints, wrapI] | omega)
  refine T_for_keep [3, 6, 7, 8] (S116 nil l) l.length (fun _ => True) 0 ⟨[], by simp, by simp, by simp, ?_⟩ trivial (Nat.zero_le _) ?_
  · simp [St.keep, get_mk, look, ren, renR, renB, hget, renR_rows4, S116, arcsL, arV, arB]
  intro k hk _
  unfold c64l0 S116
  by_cases hkn : k < l.length
  · have hg : (rows4 l).getD ((k : Nat) : Int).toNat [] = rrow (l.getD k rd0) := rows4_get hkn
    have hb := hr k hkn
    have e0 : ∀ x : Int, 0 - x = -x := fun x => by omega
    have hal := arcsL_len l k
    have hal2 := arows_len (arcsL l k)
    have e : arcsL l (k + 1) = arcsL l k ++ [⟨(l.getD k rd0).a, (l.getD k rd0).b, (l.getD k rd0).hi, (k : Int) + 1⟩, ⟨(l.getD k rd0).b, (l.getD k rd0).a, -(l.getD k rd0).lo, -(k : Int) - 1⟩] := rfl
    rw [e]
    have hk2 : id (k ≤ 1000000) := show k ≤ 1000000 by omega
    by_cases hx : arcsL l k = []
    · simp only [arV, arB, hx, if_true]
      repeat' (first | (with_reducible first | refine T_seq ?_ | refine T_reg ?_ | refine T_skip ?_ | refine T_exit ?_ | refine T_block ?_ | refine T_cond_t rfl ?_ | refine T_cond_f rfl ?_ | ((first | refine T_cond rfl (fun hc => ?_) (fun hc => ?_) | refine wguard_split (fun hc => ?_) (fun hc => ?_)) <;> have hd := hc <;> (try simp (disch := omega) only [wrapI] at hd) <;> have hs := hd <;> (try simp only [decide_eq_true_eq, decide_eq_false_iff_not, Int.not_lt] at hd) <;> (try simp at hs)) | refine T_ret ?_ | refine leave_of (.inr rfl) _ rfl ?_ | refine leave_of (.inl rfl) _ rfl ?_ | refine wif_intro ?_ (fun hc => ?_) | refine And.intro ?_ ?_ | intro hc) | simp (maxSteps := 4000000) only [wops_nil, wops_cons, wstep_none, wrun_mv, wrun_bin, wrun_neg, wrun_build, wrun_load, wrun_store, wrun_faddr, wrun_iaddrS, wrun_alloc, wrun_bslice, wrun_app, get_mk, wop, aop, ev, look, put_some, put_none, writes, ores_some, ores_ite_none, ores_map, wif_true, binV, thenK, blockK, elsOf, szOk, value, cut, hget, fillA, putCells, AV.parts, isOne, toLits, mkAgg, tupOf, ofValue_int, List.flatten_cons, List.flatten_nil, rowsOf, List.map_cons, List.map_nil, List.length_cons, List.length_nil, List.getElem?_cons_zero, List.getElem?_cons_succ, List.set_cons_zero, List.set_cons_succ, List.take_succ_cons, List.take_zero, List.take_nil, List.drop_succ_cons, List.drop_zero, List.drop_nil, List.cons_append, List.nil_append, List.append_nil, List.append_assoc, List.replicate_zero, List.replicate_succ, List.getD_cons_zero, List.all_cons, List.all_nil, List.isEmpty_cons, List.length_append, Option.getD_some, Option.map_some, if_true, if_false, Nat.reduceEqDiff, Nat.reduceAdd, Nat.reduceMul, Nat.reduceLeDiff, Nat.reduceLT, Nat.add_zero, Nat.zero_add, Nat.sub_zero, Nat.zero_mul, Nat.le_refl, reduceCtorEq, Bool.and_true, Bool.or_true, Bool.false_eq_true, eq_self, true_and, and_true, and_self, decide_true, beq_self_eq_true, List.all_cons, ren, renR, *] | simp (disch := omega) only [wrapI] | omega)
      refine ⟨[2], by simp, by simp, ?_⟩
      simp [St.keep, get_mk, look, ren, renL, renR, renB, renO, keepρ, pos, hget, arows, renR_rows4]
    · simp only [arV, arB, hx, if_false]
      repeat' (first | (with_reducible first | refine T_seq ?_ | refine T_reg ?_ | refine T_skip ?_ | refine T_exit ?_ | refine T_block ?_ | refine T_cond_t rfl ?_ | refine T_cond_f rfl ?_ | ((first | refine T_cond rfl (fun hc => ?_) (fun hc => ?_) | refine wguard_split (fun hc => ?_) (fun hc => ?_)) <;> have hd := hc <;> (try simp (disch := omega) only [wrapI] at hd) <;> have hs := hd <;> (try simp only [decide_eq_true_eq, decide_eq_false_iff_not, Int.not_lt] at hd) <;> (try simp at hs)) | refine T_ret ?_ | refine leave_of (.inr rfl) _ rfl ?_ | refine leave_of (.inl rfl) _ rfl ?_ | refine wif_intro ?_ (fun hc => ?_) | refine And.intro ?_ ?_ | intro hc) | simp (maxSteps := 4000000) only [wops_nil, wops_cons, wstep_none, wrun_mv, wrun_bin, wrun_neg, wrun_build, wrun_load, wrun_store, wrun_faddr, wrun_iaddrS, wrun_alloc, wrun_bslice, wrun_app, get_mk, wop, aop, ev, look, put_some, put_none, writes, ores_some, ores_ite_none, ores_map, wif_true, binV, thenK, blockK, elsOf, szOk, value, cut, hget, fillA, putCells, AV.parts, isOne, toLits, mkAgg, tupOf, ofValue_int, List.flatten_cons, List.flatten_nil, rowsOf, List.map_cons, List.map_nil, List.length_cons, List.length_nil, List.getElem?_cons_zero, List.getElem?_cons_succ, List.set_cons_zero, List.set_cons_succ, List.take_succ_cons, List.take_zero, List.take_nil, List.drop_succ_cons, List.drop_zero, List.drop_nil, List.cons_append, List.nil_append, List.append_nil, List.append_assoc, List.replicate_zero, List.replicate_succ, List.getD_cons_zero, List.all_cons, List.all_nil, List.isEmpty_cons, List.length_append, Option.getD_some, Option.map_some, Option.map_none, if_true, if_false, Nat.reduceEqDiff, Nat.reduceAdd, Nat.reduceMul, Nat.reduceLeDiff, Nat.reduceLT, Nat.add_zero, Nat.zero_add, Nat.sub_zero, Nat.zero_mul, Nat.le_refl, reduceCtorEq, Bool.and_true, Bool.and_false, Bool.or_true, Bool.false_eq_true, eq_self, true_and, and_true, and_self, decide_true, beq_self_eq_true, List.all_cons, ren, keepρ, pos, Nat.not_lt_zero, *] | simp (disch := omega) only [wrapI] | omega)
      refine ⟨[3], by simp, by simp, ?_⟩
      simp [St.keep, get_mk, look, ren, renL, renR, renB, renO, keepρ, pos, hget, renR_app4, renR_rows4, arows_app, arows_two]
      rw [List.take_of_length_le (by omega), renR_arows]
  · have hke : k = l.length := by omega
    subst hke
    by_cases hx : arcsL l l.length = []
    · simp only [arV, arB, hx, if_true]
      repeat' (first | (with_reducible first | refine T_seq ?_ | refine T_reg ?_ | refine T_skip ?_ | refine T_exit ?_ | refine T_block ?_ | refine T_cond_t rfl ?_ | refine T_cond_f rfl ?_ | ((first | refine T_cond rfl (fun hc => ?_) (fun hc => ?_) | refine wguard_split (fun hc => ?_) (fun hc => ?_)) <;> have hd := hc <;> (try simp (disch := omega) only [wrapI] at hd) <;> have hs := hd <;> (try simp only [decide_eq_true_eq, decide_eq_false_iff_not, Int.not_lt] at hd) <;> (try simp at hs)) | refine T_ret ?_ | refine leave_of (.inr rfl) _ rfl ?_ | refine leave_of (.inl rfl) _ rfl ?_ | refine wif_intro ?_ (fun hc => ?_) | refine And.intro ?_ ?_ | intro hc) | simp (maxSteps := 4000000) only [wops_nil, wops_cons, wstep_none, wrun_mv, wrun_bin, get_mk, wop, aop, ev, look, put_some, writes, ores_some, binV, thenK, blockK, tupOf, List.length_nil, List.append_nil, List.replicate_zero, Option.map_some, if_true, if_false, Nat.reduceEqDiff, reduceCtorEq, eq_self, and_true, false_and, ren, renR, *] | simp (disch := omega) only [getD_ints, wrapI] | omega)
    · simp only [arV, arB, hx, if_false]
      repeat' (first | (with_reducible first | refine T_seq ?_ | refine T_reg ?_ | refine T_skip ?_ | refine T_exit ?_ | refine T_block ?_ | refine T_cond_t rfl ?_ | refine T_cond_f rfl ?_ | ((first | refine T_cond rfl (fun hc => ?_) (fun hc => ?_) | refine wguard_split (fun hc => ?_) (fun hc => ?_)) <;> have hd := hc <;> (try simp (disch := omega) only [wrapI] at hd) <;> have hs := hd <;> (try simp only [decide_eq_true_eq, decide_eq_false_iff_not, Int.not_lt] at hd) <;> (try simp at hs)) | refine T_ret ?_ | refine leave_ids (.inr rfl) _ [0] rfl (by simp) (by simp) ?_ | refine leave_ids (.inl rfl) _ [0] rfl (by simp) (by simp) ?_ | refine wif_intro ?_ (fun hc => ?_) | refine And.intro ?_ ?_ | intro hc) | simp (maxSteps := 4000000) only [wops_nil, wops_cons, wstep_none, wrun_mv, wrun_bin, get_mk, wop, aop, ev, look, put_some, writes, ores_some, binV, thenK, blockK, hget, tupOf, List.map_cons, List.map_nil, List.length_cons, List.length_nil, List.getElem?_cons_zero, List.append_nil, List.replicate_zero, Option.getD_some, Option.map_some, Option.map_none, if_true, if_false, Nat.reduceEqDiff, Nat.zero_add, reduceCtorEq, eq_self, and_true, false_and, ren, renB, renO, keepρ, pos, Nat.not_lt_zero, renR_arows, *] | simp (disch := omega) only [getD_ints, wrapI] | omega)
end Go.Abs
