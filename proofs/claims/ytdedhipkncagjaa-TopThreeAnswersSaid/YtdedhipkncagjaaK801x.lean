import Derived.Test.YtdedhipkncagjaaPCmin
set_option linter.all false
set_option linter.unusedVariables false
set_option linter.unusedSimpArgs false
set_option linter.unusedSectionVars false
namespace Go.Abs
open Go.Proofs
set_option maxHeartbeats 8000000 in
theorem k49 (n lo hi : Int) : Fn Try.prog 49 [i64 n, i64 lo, i64 hi] (bl (decide (lo ≤ n) && decide (n ≤ hi))) [] := by
  refine fn_of e49 ?_
  unfold c49
  repeat' (first | (with_reducible first | refine T_seq ?_ | refine T_reg ?_ | refine T_skip ?_ | refine T_exit ?_ | refine T_block ?_ | refine T_cond_t rfl ?_ | refine T_cond_f rfl ?_ | ((first | refine T_cond rfl (fun hc => ?_) (fun hc => ?_) | refine wguard_split (fun hc => ?_) (fun hc => ?_)) <;> have hd := hc <;> (try simp (disch := omega) only [wrapI] at hd) <;> have hs := hd <;> (try simp only [decide_eq_true_eq, decide_eq_false_iff_not, Bool.not_true, Int.not_le] at hd) <;> (try simp at hs)) | refine T_ret ?_ | refine leave_of (.inr rfl) _ rfl ?_ | refine leave_of (.inl rfl) _ rfl ?_ | refine leaveA_of (.inr rfl) _ rfl ?_ | refine leaveA_of (.inl rfl) _ rfl ?_ | refine wif_intro ?_ (fun hc => ?_) | refine And.intro ?_ ?_ | intro hc) | simp (maxSteps := 4000000) only [wops_nil, wops_cons, wstep_none, wstep_some, wguard_true, wguard_ft, wrun_mv, wrun_pick, wrun_bin, get_mk, wop, aop, ev, look, put_some, writes, ores_some, binV, thenK, tupOf, List.map_cons, List.map_nil, List.length_nil, List.append_nil, List.replicate_zero, List.zipIdx_cons, List.zipIdx_nil, Option.map_some, if_true, if_false, Nat.reduceEqDiff, Nat.reduceAdd, Nat.zero_add, Nat.zero_ne_one, reduceCtorEq, Bool.not_true, Bool.true_and, Bool.false_and, Bool.false_eq_true, eq_self, decide_true, ren, *] | simp (disch := omega) only [getD_ints, wrapI] | omega)
  all_goals simp_all
end Go.Abs
namespace Go.Abs
open Go.Proofs
end Go.Abs
namespace Go.Abs
open Go.Proofs
theorem wcall_rawfnP {P : Program} {s : List (Nat × AV)} {h : List Blk} {K : St → Prop} {g : FuncId} {args : List AV} {v : Value} {d : Option Nat} (hf : Fn P g args (.lit v) []) (hp : plainL args = true)
    (hk : K (St.put ⟨s, h⟩ d (.lit v))) : wcall P true (.lit (.func (.func g) #[] #[])) args d ⟨s, h⟩ K := by
  refine wcall_raw ((acall_frame hp hf).mono fun r H' ⟨r0, new, ⟨e201, e202⟩, e203, e204⟩ => ?_)
  subst e201 e202
  simp only [ren, List.map_nil, List.append_nil] at e203 e204
  subst e203 e204
  exact hk
end Go.Abs
namespace Go.Abs
open Go.Proofs
def findBP (p : Int → Bool) : List Int → Int → Int
  | [], _ => -1
  | x :: r, k => if p x then k else findBP p r (k + 1)
end Go.Abs
namespace Go.Abs
open Go.Proofs
/-! readings and arcs -/
structure Rd where
  a : Int
  b : Int
  lo : Int
  hi : Int
structure Ar where
  f : Int
  t : Int
  len : Int
  sg : Int
abbrev rd0 : Rd := ⟨0, 0, 0, 0⟩
abbrev ar0 : Ar := ⟨0, 0, 0, 0⟩
abbrev rrow (r : Rd) : List AV := [i64 r.a, i64 r.b, i64 r.lo, i64 r.hi]
abbrev arow (r : Ar) : List AV := [i64 r.f, i64 r.t, i64 r.len, i64 r.sg]
def rows4 (l : List Rd) : List (List AV) := l.map rrow
def arows (l : List Ar) : List (List AV) := l.map arow
abbrev rdgs (nil : Bool) (l : List Rd) : AV := .sl nil 4 (rows4 l)
theorem rows4_len (l : List Rd) : (rows4 l).length = l.length := by simp [rows4]
theorem arows_len (l : List Ar) : (arows l).length = l.length := by simp [arows]
theorem rows4_get {l : List Rd} {k : Nat} (h : k < l.length) : (rows4 l).getD k [] = rrow (l.getD k rd0) := by simp [rows4, List.getD, h]
theorem arows_get {l : List Ar} {k : Nat} (h : k < l.length) : (arows l).getD k [] = arow (l.getD k ar0) := by simp [arows, List.getD, h]
@[simp] theorem plainR_rows4 (l : List Rd) : plainR (rows4 l) = true := plainR_map _ (fun _ => rfl) l
@[simp] theorem plainR_arows (l : List Ar) : plainR (arows l) = true := plainR_map _ (fun _ => rfl) l
theorem renR_rows4 (ρ : Nat → Option Nat) (l : List Rd) : renR ρ (rows4 l) = rows4 l := renR_plain ρ _ (plainR_rows4 l)
theorem renR_arows (ρ : Nat → Option Nat) (l : List Ar) : renR ρ (arows l) = arows l := renR_plain ρ _ (plainR_arows l)
theorem renR_app4 (ρ : Nat → Option Nat) : ∀ a b : List (List AV), renR ρ (a ++ b) = renR ρ a ++ renR ρ b
  | [], b => rfl
  | x :: a, b => by simp only [List.cons_append, renR, renR_app4 ρ a b]
theorem arows_app (a b : List Ar) : arows (a ++ b) = arows a ++ arows b := by simp [arows]
theorem arows_two (p q : Ar) : arows [p, q] = [arow p, arow q] := rfl
def arcsL (l : List Rd) : Nat → List Ar
  | 0 => []
  | k + 1 => arcsL l k ++ [⟨(l.getD k rd0).a, (l.getD k rd0).b, (l.getD k rd0).hi, (k : Int) + 1⟩, ⟨(l.getD k rd0).b, (l.getD k rd0).a, -(l.getD k rd0).lo, -(k : Int) - 1⟩]
theorem arcsL_len (l : List Rd) : ∀ k, (arcsL l k).length = 2 * k
  | 0 => rfl
  | k + 1 => by have := arcsL_len l k; unfold arcsL; simp only [List.length_append, List.length_cons, List.length_nil]; omega
def arV (id : Nat) (xs : List Ar) : AV := if xs = [] then .sl true 0 [] else .lsl id 0 xs.length
def arB (xs : List Ar) : List Blk := if xs = [] then [] else [.cells true false 4 (arows xs)]
def S50 (nil : Bool) (l : List Rd) (k : Nat) : St := ⟨[(3, arV 0 (arcsL l k)), (6, rdgs nil l), (7, i64 l.length), (8, i64 k)], arB (arcsL l k)⟩
def okRd (l : List Rd) : Prop := ∀ k, k < l.length → (-1000000 ≤ (l.getD k rd0).lo ∧ (l.getD k rd0).lo ≤ 1000000)
set_option maxHeartbeats 8000000 in
theorem k50 (nil : Bool) (l : List Rd) (hl : l.length < 1000000) (hr : okRd l) : Fn Try.prog 50 [rdgs nil l] (arV 0 (arcsL l l.length)) (arB (arcsL l l.length)) := by
  refine fn_of e50 ?_
  unfold c50
  have hrl := rows4_len l
  repeat' (first | (with_reducible first | refine T_seq ?_ | refine T_reg ?_ | refine T_skip ?_ | refine T_exit ?_ | refine T_block ?_ | refine T_cond_t rfl ?_ | refine T_cond_f rfl ?_ | refine T_ret ?_ | refine leave_of (.inr rfl) _ rfl ?_ | refine leave_of (.inl rfl) _ rfl ?_ | refine leaveA_of (.inr rfl) _ rfl ?_ | refine leaveA_of (.inl rfl) _ rfl ?_ | refine wif_intro ?_ (fun hc => ?_) | refine And.intro ?_ ?_ | intro hc) | simp (maxSteps := 4000000) only [wops_nil, wops_cons, wstep_none, wrun_mv, wrun_len, wop, aop, ev, look, put_some, writes, ores_some, ores_map, ores_bind, thenK, intV, lenOf, hget, List.map_cons, List.map_nil, List.length_nil, List.append_nil, List.replicate_zero, List.zipIdx_cons, List.zipIdx_nil, Option.pure_def, Option.bind_eq_bind, if_true, if_false, Nat.reduceEqDiff, Nat.zero_add, reduceCtorEq, eq_self, *] | simp (disch := omega) only [getD_ints, wrapI] | omega)
  refine T_for_keep [3, 6, 7, 8] (S50 nil l) l.length (fun _ => True) 0 ⟨[], by simp, by simp, by simp, ?_⟩ trivial (Nat.zero_le _) ?_
  · simp [St.keep, get_mk, look, ren, renR, renB, hget, renR_rows4, S50, arcsL, arV, arB]
  intro k hk _
  unfold c50l0 S50
  by_cases hkn : k < l.length
  · have hg : (rows4 l).getD ((k : Nat) : Int).toNat [] = rrow (l.getD k rd0) := rows4_get hkn
    have hb := hr k hkn
    have e200 : ∀ x : Int, 0 - x = -x := fun x => by omega
    have hal := arcsL_len l k
    have hal2 := arows_len (arcsL l k)
    have e : arcsL l (k + 1) = arcsL l k ++ [⟨(l.getD k rd0).a, (l.getD k rd0).b, (l.getD k rd0).hi, (k : Int) + 1⟩, ⟨(l.getD k rd0).b, (l.getD k rd0).a, -(l.getD k rd0).lo, -(k : Int) - 1⟩] := rfl
    rw [e]
    have hk2 : id (k ≤ 1000000) := show k ≤ 1000000 by omega
    by_cases hx : arcsL l k = []
    · simp only [arV, arB, hx, if_true]
      repeat' (first | (with_reducible first | refine T_seq ?_ | refine T_reg ?_ | refine T_skip ?_ | refine T_exit ?_ | refine T_block ?_ | refine T_cond_t rfl ?_ | refine T_cond_f rfl ?_ | ((first | refine T_cond rfl (fun hc => ?_) (fun hc => ?_) | refine wguard_split (fun hc => ?_) (fun hc => ?_)) <;> have hd := hc <;> (try simp (disch := omega) only [wrapI] at hd) <;> have hs := hd <;> (try simp only [decide_eq_true_eq, decide_eq_false_iff_not, Int.not_lt] at hd) <;> (try simp at hs)) | refine T_ret ?_ | refine leave_of (.inr rfl) _ rfl ?_ | refine leave_of (.inl rfl) _ rfl ?_ | refine leaveA_of (.inr rfl) _ rfl ?_ | refine leaveA_of (.inl rfl) _ rfl ?_ | refine wif_intro ?_ (fun hc => ?_) | refine And.intro ?_ ?_ | intro hc) | simp (maxSteps := 4000000) only [wops_nil, wops_cons, wstep_none, wrun_mv, wrun_bin, wrun_neg, wrun_build, wrun_load, wrun_store, wrun_faddr, wrun_iaddrS, wrun_alloc, wrun_bslice, wrun_app, get_mk, wop, aop, ev, look, put_some, put_none, writes, ores_some, ores_ite_none, ores_map, wif_true, binV, thenK, blockK, elsOf, szOk, value, cut, hget, fillA, putCells, AV.parts, isOne, toLits, mkAgg, tupOf, ofValue_int, List.flatten_cons, List.flatten_nil, rowsOf, List.map_cons, List.map_nil, List.length_cons, List.length_nil, List.getElem?_cons_zero, List.getElem?_cons_succ, List.set_cons_zero, List.set_cons_succ, List.take_succ_cons, List.take_zero, List.take_nil, List.drop_succ_cons, List.drop_zero, List.drop_nil, List.cons_append, List.nil_append, List.append_nil, List.append_assoc, List.replicate_zero, List.replicate_succ, List.getD_cons_zero, List.all_cons, List.all_nil, List.isEmpty_cons, List.length_append, Option.getD_some, Option.map_some, if_true, if_false, Nat.reduceEqDiff, Nat.reduceAdd, Nat.reduceMul, Nat.reduceLeDiff, Nat.reduceLT, Nat.add_zero, Nat.zero_add, Nat.sub_zero, Nat.zero_mul, Nat.le_refl, reduceCtorEq, Bool.and_true, Bool.or_true, Bool.false_eq_true, eq_self, true_and, and_true, and_self, decide_true, beq_self_eq_true, List.all_cons, ren, renR, *] | simp (disch := omega) only [wrapI] | omega)
      refine ⟨[2], by simp, by simp, ?_⟩
      simp [St.keep, get_mk, look, ren, renL, renR, renB, renO, keepρ, pos, hget, arows, renR_rows4]
    · simp only [arV, arB, hx, if_false]
      repeat' (first | (with_reducible first | refine T_seq ?_ | refine T_reg ?_ | refine T_skip ?_ | refine T_exit ?_ | refine T_block ?_ | refine T_cond_t rfl ?_ | refine T_cond_f rfl ?_ | ((first | refine T_cond rfl (fun hc => ?_) (fun hc => ?_) | refine wguard_split (fun hc => ?_) (fun hc => ?_)) <;> have hd := hc <;> (try simp (disch := omega) only [wrapI] at hd) <;> have hs := hd <;> (try simp only [decide_eq_true_eq, decide_eq_false_iff_not, Int.not_lt] at hd) <;> (try simp at hs)) | refine T_ret ?_ | refine leave_of (.inr rfl) _ rfl ?_ | refine leave_of (.inl rfl) _ rfl ?_ | refine leaveA_of (.inr rfl) _ rfl ?_ | refine leaveA_of (.inl rfl) _ rfl ?_ | refine wif_intro ?_ (fun hc => ?_) | refine And.intro ?_ ?_ | intro hc) | simp (maxSteps := 4000000) only [wops_nil, wops_cons, wstep_none, wrun_mv, wrun_bin, wrun_neg, wrun_build, wrun_load, wrun_store, wrun_faddr, wrun_iaddrS, wrun_alloc, wrun_bslice, wrun_app, get_mk, wop, aop, ev, look, put_some, put_none, writes, ores_some, ores_ite_none, ores_map, wif_true, binV, thenK, blockK, elsOf, szOk, value, cut, hget, fillA, putCells, AV.parts, isOne, toLits, mkAgg, tupOf, ofValue_int, List.flatten_cons, List.flatten_nil, rowsOf, List.map_cons, List.map_nil, List.length_cons, List.length_nil, List.getElem?_cons_zero, List.getElem?_cons_succ, List.set_cons_zero, List.set_cons_succ, List.take_succ_cons, List.take_zero, List.take_nil, List.drop_succ_cons, List.drop_zero, List.drop_nil, List.cons_append, List.nil_append, List.append_nil, List.append_assoc, List.replicate_zero, List.replicate_succ, List.getD_cons_zero, List.all_cons, List.all_nil, List.isEmpty_cons, List.length_append, Option.getD_some, Option.map_some, Option.map_none, if_true, if_false, Nat.reduceEqDiff, Nat.reduceAdd, Nat.reduceMul, Nat.reduceLeDiff, Nat.reduceLT, Nat.add_zero, Nat.zero_add, Nat.sub_zero, Nat.zero_mul, Nat.le_refl, reduceCtorEq, Bool.and_true, Bool.and_false, Bool.or_true, Bool.false_eq_true, eq_self, true_and, and_true, and_self, decide_true, beq_self_eq_true, List.all_cons, ren, keepρ, pos, Nat.not_lt_zero, *] | simp (disch := omega) only [wrapI] | omega)
      refine ⟨[3], by simp, by simp, ?_⟩
      simp [St.keep, get_mk, look, ren, renL, renR, renB, renO, keepρ, pos, hget, renR_app4, renR_rows4, arows_app, arows_two]
      rw [List.take_of_length_le (by omega), renR_arows]
  · have hke : k = l.length := by omega
    subst hke
    by_cases hx : arcsL l l.length = []
    · simp only [arV, arB, hx, if_true]
      repeat' (first | (with_reducible first | refine T_seq ?_ | refine T_reg ?_ | refine T_skip ?_ | refine T_exit ?_ | refine T_block ?_ | refine T_cond_t rfl ?_ | refine T_cond_f rfl ?_ | ((first | refine T_cond rfl (fun hc => ?_) (fun hc => ?_) | refine wguard_split (fun hc => ?_) (fun hc => ?_)) <;> have hd := hc <;> (try simp (disch := omega) only [wrapI] at hd) <;> have hs := hd <;> (try simp only [decide_eq_true_eq, decide_eq_false_iff_not, Int.not_lt] at hd) <;> (try simp at hs)) | refine T_ret ?_ | refine leave_of (.inr rfl) _ rfl ?_ | refine leave_of (.inl rfl) _ rfl ?_ | refine leaveA_of (.inr rfl) _ rfl ?_ | refine leaveA_of (.inl rfl) _ rfl ?_ | refine wif_intro ?_ (fun hc => ?_) | refine And.intro ?_ ?_ | intro hc) | simp (maxSteps := 4000000) only [wops_nil, wops_cons, wstep_none, wrun_mv, wrun_bin, get_mk, wop, aop, ev, look, put_some, writes, ores_some, binV, thenK, blockK, tupOf, List.length_nil, List.append_nil, List.replicate_zero, Option.map_some, if_true, if_false, Nat.reduceEqDiff, reduceCtorEq, eq_self, and_true, false_and, ren, renR, *] | simp (disch := omega) only [getD_ints, wrapI] | omega)
    · simp only [arV, arB, hx, if_false]
      repeat' (first | (with_reducible first | refine T_seq ?_ | refine T_reg ?_ | refine T_skip ?_ | refine T_exit ?_ | refine T_block ?_ | refine T_cond_t rfl ?_ | refine T_cond_f rfl ?_ | ((first | refine T_cond rfl (fun hc => ?_) (fun hc => ?_) | refine wguard_split (fun hc => ?_) (fun hc => ?_)) <;> have hd := hc <;> (try simp (disch := omega) only [wrapI] at hd) <;> have hs := hd <;> (try simp only [decide_eq_true_eq, decide_eq_false_iff_not, Int.not_lt] at hd) <;> (try simp at hs)) | refine T_ret ?_ | refine leave_ids (.inr rfl) _ [0] rfl (by simp) (by simp) ?_ | refine leave_ids (.inl rfl) _ [0] rfl (by simp) (by simp) ?_ | refine leaveA_of (.inr rfl) _ rfl ?_ | refine leaveA_of (.inl rfl) _ rfl ?_ | refine wif_intro ?_ (fun hc => ?_) | refine And.intro ?_ ?_ | intro hc) | simp (maxSteps := 4000000) only [wops_nil, wops_cons, wstep_none, wrun_mv, wrun_bin, get_mk, wop, aop, ev, look, put_some, writes, ores_some, binV, thenK, blockK, hget, tupOf, List.map_cons, List.map_nil, List.length_cons, List.length_nil, List.getElem?_cons_zero, List.append_nil, List.replicate_zero, Option.getD_some, Option.map_some, Option.map_none, if_true, if_false, Nat.reduceEqDiff, Nat.zero_add, reduceCtorEq, eq_self, and_true, false_and, ren, renB, renO, keepρ, pos, Nat.not_lt_zero, renR_arows, *] | simp (disch := omega) only [getD_ints, wrapI] | omega)
end Go.Abs
namespace Go.Abs
open Go.Proofs
/-- whole numbers out of rows -/
def unI : List (List AV) → Option (List Int)
  | [] => some []
  | [.lit (.int .i64 x)] :: r => (unI r).map (x :: ·)
  | _ => none
theorem unI_ok : ∀ {l : List (List AV)} {xs : List Int}, unI l = some xs → l = xs.map fun x => [i64 x]
  | [], xs, h => by obtain rfl := Option.some.inj h; rfl
  | [.lit (.int .i64 x)] :: r, xs, h => by
    simp only [unI, Option.map_eq_some_iff] at h
    obtain ⟨ys, h1, rfl⟩ := h
    rw [unI_ok h1]; rfl
abbrev far : Int := 1099511627776
noncomputable def rep1 (z : Nat) : Bool := match rcall Try.prog muts noPrim noIters 400 52 [.sl false 1 [[i64 far]], i64 z] [] with
  | some (.lsl 0 0 n, [.cells true false 1 r]) => decide (n = z) && decide (unI r = some (List.replicate z far))
  | _ => false
theorem rep1_ok {z : Nat} (h : rep1 z = true) : Fn Try.prog 52 [ints false [far], i64 z] (.lsl 0 0 z) [.cells true false 1 ((List.replicate z far).map fun x => [i64 x])] := by
  unfold rep1 at h
  split at h
  · rename_i n r hr
    simp only [Bool.and_eq_true, decide_eq_true_eq] at h
    obtain ⟨h201, h202⟩ := h
    rw [unI_ok h202, h201] at hr
    exact rcall_ok (noPrim_ok _) (noIters_ok _) hr
  · simp at h
theorem rep_all : (List.range 41).all (fun z => z == 0 || rep1 z) = true := by kernel_rfl
theorem k52 (z : Nat) (hz : 1 ≤ z ∧ z ≤ 40) : Fn Try.prog 52 [ints false [far], i64 z] (.lsl 0 0 z) [.cells true false 1 ((List.replicate z far).map fun x => [i64 x])] := by
  have h := List.all_eq_true.1 rep_all z (by simp; omega)
  simp only [Bool.or_eq_true, beq_iff_eq] at h
  rcases h with h | h
  · omega
  · exact rep1_ok h
end Go.Abs
