import Derived.Test.YtdedhipkncagjaaK530x
set_option linter.all false
set_option linter.unusedVariables false
set_option linter.unusedSimpArgs false
set_option linter.unusedSectionVars false
namespace Go.Abs
open Go.Proofs
theorem renR_rg (ρ : Nat → Option Nat) (L : List (Int × Int)) : renR ρ (rgR L) = rgR L := renR_plain ρ _ (plainR_rg L)
theorem rgR_get0 {L : List (Int × Int)} {k : Nat} (h : k < L.length) : (rgR L).getD k [] = [i64 (L.getD k (0, 0)).1, i64 (L.getD k (0, 0)).2] := rgR_get h
set_option maxHeartbeats 8000000 in
theorem k6p {hn pn en : Bool} {xs : List Int} {ps es : List (Int × Int)} (hxl : 1 ≤ xs.length ∧ xs.length ≤ 8) (hpl : ps.length ≤ 12) (hee : es.length = ps.length) (hMh : ∀ k, k < xs.length → gH (xs.getD k 0)) {k : Nat} (hk : k < ps.length) (gp : gP xs.length (ps.getD k (0, 0)) (es.getD k (0, 0))) (K : Exit → St → Prop) {bb : Nat} : T none Try.prog muts 131 0 c6l1 (S6b hn pn en xs ps es k) (thenK (fun s' => (k < ps.length ∧ True) ∧ ∃ ids : List Nat, 0 ≤ s'.heap.length ∧ (∀ id ∈ ids, 0 ≤ id ∧ id < s'.heap.length) ∧ ids.Nodup ∧ s'.keep 0 [1, 2, 6, 8, 9] ids = S6b hn pn en xs ps es (k + 1)) K) := by
  have e : rdM xs ps es (k + 1) = rdM xs ps es k ++ [rdOf xs (ps.getD k (0, 0)) (es.getD k (0, 0))] := rfl
  have g1 := rgR_get0 hk
  have g2 := rgR_get0 (L := es) (k := k) (by omega)
  have l1 := rgR_len ps
  have l2 := rgR_len es
  have hkn : (k : Int) < (ps.length : Int) := by omega
  have hke : (k : Int) < (es.length : Int) := by omega
  generalize hP : ps.getD k (0, 0) = P at *
  generalize hE : es.getD k (0, 0) = E at *
  obtain ⟨a, b⟩ := P
  obtain ⟨u, v⟩ := E
  obtain ⟨⟨⟨a1, a2⟩, b1, b2⟩, hne, ⟨u1, u2⟩, v1, v2⟩ := gp
  dsimp only at *
  have h10a := k10 a 0 ((xs.length : Int) - 1)
  have h10b := k10 b 0 ((xs.length : Int) - 1)
  have h10c := k10 u 0 100000
  have h10d := k10 v 0 100000
  rw [decide_eq_true a1, decide_eq_true a2, Bool.and_true] at h10a
  rw [decide_eq_true b1, decide_eq_true b2, Bool.and_true] at h10b
  rw [decide_eq_true u1, decide_eq_true u2, Bool.and_true] at h10c
  rw [decide_eq_true v1, decide_eq_true v2, Bool.and_true] at h10d
  have ew1 : IntKind.i64.wrap ((xs.length : Int) - 1) = (xs.length : Int) - 1 := wrapI (by omega) (by omega)
  have dne : decide (a = b) = false := decide_eq_false hne
  have ga : (xs.map fun x => [i64 x]).getD a.toNat [] = [i64 (xs.getD a.toNat 0)] := getD_ints (by omega)
  have gb : (xs.map fun x => [i64 x]).getD b.toNat [] = [i64 (xs.getD b.toNat 0)] := getD_ints (by omega)
  have Ha := hMh a.toNat (by omega)
  have Hb := hMh b.toNat (by omega)
  unfold gH at Ha Hb
  have hlh := (by simp : (xs.map fun x => [i64 x]).length = xs.length)
  have er : rdOf xs (a, b) (u, v) = ⟨a, b, xs.getD b.toNat 0 - xs.getD a.toNat 0 - u, xs.getD b.toNat 0 - xs.getD a.toNat 0 + v⟩ := rfl
  rw [er] at e
  generalize xs.getD a.toNat 0 = xa at *
  generalize xs.getD b.toNat 0 = xb at *
  have ew2 : IntKind.i64.wrap (xb - xa) = xb - xa := wrapI (by omega) (by omega)
  have ew3 : IntKind.i64.wrap (xb - xa - u) = xb - xa - u := wrapI (by omega) (by omega)
  have ew4 : IntKind.i64.wrap (xb - xa + v) = xb - xa + v := wrapI (by omega) (by omega)
  have et1 : u.tdiv 1 = u := Int.tdiv_one u
  have et2 : v.tdiv 1 = v := Int.tdiv_one v
  have ra : a < (xs.length : Int) := by omega
  have rb : b < (xs.length : Int) := by omega
  have hrl := rdM_len xs ps es k
  have hal2 := rows4_len (rdM xs ps es k)
  have tz : Int.toNat 0 = 0 := rfl
  have wu : IntKind.i64.wrap u = u := wrapI (by omega) (by omega)
  have wv : IntKind.i64.wrap v = v := wrapI (by omega) (by omega)
  have to1 : Int.toNat 1 = 1 := rfl
  clear hMh Ha Hb hP hE er
  clear a2 b2 u1 u2 v1 v2
  replace hne := PLift.up hne
  unfold S6b
  rw [e]
  clear e
  by_cases hx : rdM xs ps es k = []
  · simp only [reV, reB, hx, if_true]
    unfold c6l1
    repeat' (first | ((with_reducible refine T_calm ?_ ?_); rfl) | (with_reducible first | refine T_seq ?_ | refine T_reg ?_ | refine T_draw ?_ | refine T_skip ?_ | refine T_exit ?_ | refine T_block ?_ | refine T_cond_t rfl ?_ | refine T_cond_f rfl ?_ | refine wdW_cons rfl ?_ | (show wcall _ false (.lit (.func (.func 10) _ _)) _ _ _ _; refine wcall_fn (h10a) rfl (by simp [plainL, plain]) ?_) | (show wcallX _ false (.lit (.func (.func 10) _ _)) _ _ _ _; refine wcallX_fn (h10a) rfl (by simp [plainL, plain, plainR, Int.toNat_natCast]) ?_) | (show wcall _ false (.lit (.func (.func 10) _ _)) _ _ _ _; refine wcall_fn (h10b) rfl (by simp [plainL, plain]) ?_) | (show wcallX _ false (.lit (.func (.func 10) _ _)) _ _ _ _; refine wcallX_fn (h10b) rfl (by simp [plainL, plain, plainR, Int.toNat_natCast]) ?_) | (show wcall _ false (.lit (.func (.func 10) _ _)) _ _ _ _; refine wcall_fn (h10c) rfl (by simp [plainL, plain]) ?_) | (show wcallX _ false (.lit (.func (.func 10) _ _)) _ _ _ _; refine wcallX_fn (h10c) rfl (by simp [plainL, plain, plainR, Int.toNat_natCast]) ?_) | (show wcall _ false (.lit (.func (.func 10) _ _)) _ _ _ _; refine wcall_fn (h10d) rfl (by simp [plainL, plain]) ?_) | (show wcallX _ false (.lit (.func (.func 10) _ _)) _ _ _ _; refine wcallX_fn (h10d) rfl (by simp [plainL, plain, plainR, Int.toNat_natCast]) ?_) | ((first | refine T_cond rfl (fun hc => ?_) (fun hc => ?_) | refine wguard_split (fun hc => ?_) (fun hc => ?_) | refine wguardX_split (fun hc => ?_) (fun hc => ?_)) <;> have hd := hc <;> (try simp (disch := omega) only [wrapI] at hd) <;> have hs := hd <;> (try simp only [beq_iff_eq, beq_eq_false_iff_ne, Bool.not_false, ne_eq] at hd) <;> (try simp at hs)) | refine T_ret ?_ | refine wif_intro ?_ (fun hc => ?_) | refine And.intro ?_ ?_ | intro hc) | simp (maxSteps := 4000000) only [wops_nil, wops_cons, wstep_none, wstep_some, wguard_ff, wguard_tf, wrun_call, wrun_mv, wrun_pick, wrun_bin, wrun_not, wrun_build, wrun_load, wrun_store, wrun_faddr, wrun_iaddrS, wrun_iaddrA, wrun_len, wrun_alloc, wrun_bslice, wrun_app, wrunX_mv, wrunX_bin, wrunX_build, wrunX_load, wrunX_store, wrunX_faddr, wrunX_iaddrS, wrunX_iaddrA, wrunX_alloc, wrunX_bslice, wrunX_app, wdW_nil, wstepX_none, wop, aop, ev, look, put_some, put_none, writes, ores_some, ores_ite_none, ores_none_ite, ores_map, ores_bind, binV, thenK, blockK, boolV, intV, lenOf, elsOf, szOk, value, cut, hget, fillA, putCells, AV.parts, isOne, toLits, mkAgg, ofValue_int, List.flatten_cons, List.flatten_nil, rowsOf, List.map_cons, List.map_nil, List.length_cons, List.length_nil, List.getElem?_cons_zero, List.getElem?_cons_succ, List.set_cons_zero, List.set_cons_succ, List.take_succ_cons, List.take_zero, List.take_nil, List.drop_succ_cons, List.drop_zero, List.drop_nil, List.cons_append, List.nil_append, List.append_nil, List.replicate_zero, List.replicate_succ, List.getD_cons_zero, List.all_cons, List.all_nil, List.isEmpty_cons, Option.pure_def, Option.bind_eq_bind, Option.getD_some, Option.map_some, if_true, if_false, Nat.reduceEqDiff, Nat.reduceAdd, Nat.reduceMul, Nat.reduceLeDiff, Nat.reduceLT, Nat.add_zero, Nat.zero_add, Nat.sub_zero, Nat.zero_mul, Nat.mul_one, Nat.le_refl, reduceCtorEq, Bool.not_true, Bool.and_true, Bool.or_true, Bool.false_eq_true, eq_self, true_and, and_true, and_self, decide_true, beq_self_eq_true, freeze, lidsL, lids, List.flatMap_cons, List.flatMap_nil, List.all_cons, ren, Int.toNat_natCast, *] | simp (disch := omega) only [wrapI] | (with_reducible show wcall _ false (.lit (.func (.func 10) _ _)) _ _ _ _; refine wcall_fn (h10a) ?_ ?_ ?_; (next => simp [rfyL, rfy, hget, ints, take_rfy, Int.toNat_natCast]); (next => simp [plainL, plain, plainR, Int.toNat_natCast])) | (with_reducible show wcallX _ false (.lit (.func (.func 10) _ _)) _ _ _ _; refine wcallX_fn (h10a) ?_ ?_ ?_; (next => simp [rfyL, rfy, hget, ints, take_rfy, Int.toNat_natCast]); (next => simp [plainL, plain, plainR, Int.toNat_natCast])) | (with_reducible show wcall _ false (.lit (.func (.func 10) _ _)) _ _ _ _; refine wcall_fn (h10b) ?_ ?_ ?_; (next => simp [rfyL, rfy, hget, ints, take_rfy, Int.toNat_natCast]); (next => simp [plainL, plain, plainR, Int.toNat_natCast])) | (with_reducible show wcallX _ false (.lit (.func (.func 10) _ _)) _ _ _ _; refine wcallX_fn (h10b) ?_ ?_ ?_; (next => simp [rfyL, rfy, hget, ints, take_rfy, Int.toNat_natCast]); (next => simp [plainL, plain, plainR, Int.toNat_natCast])) | (with_reducible show wcall _ false (.lit (.func (.func 10) _ _)) _ _ _ _; refine wcall_fn (h10c) ?_ ?_ ?_; (next => simp [rfyL, rfy, hget, ints, take_rfy, Int.toNat_natCast]); (next => simp [plainL, plain, plainR, Int.toNat_natCast])) | (with_reducible show wcallX _ false (.lit (.func (.func 10) _ _)) _ _ _ _; refine wcallX_fn (h10c) ?_ ?_ ?_; (next => simp [rfyL, rfy, hget, ints, take_rfy, Int.toNat_natCast]); (next => simp [plainL, plain, plainR, Int.toNat_natCast])) | (with_reducible show wcall _ false (.lit (.func (.func 10) _ _)) _ _ _ _; refine wcall_fn (h10d) ?_ ?_ ?_; (next => simp [rfyL, rfy, hget, ints, take_rfy, Int.toNat_natCast]); (next => simp [plainL, plain, plainR, Int.toNat_natCast])) | (with_reducible show wcallX _ false (.lit (.func (.func 10) _ _)) _ _ _ _; refine wcallX_fn (h10d) ?_ ?_ ?_; (next => simp [rfyL, rfy, hget, ints, take_rfy, Int.toNat_natCast]); (next => simp [plainL, plain, plainR, Int.toNat_natCast])) | (with_reducible refine wdW_cons ?_ ?_; (next => simp [chk, foot, compatB, argsOf, St.get, target, ev, look, lidsL, hget, kind, AOp.isRaw, wids, wtops, tops, opds, topId, Int.toNat_natCast]; done)) | omega)
    all_goals first | (exact absurd (by assumption) hne.down) | skip
    refine ⟨[0, 4], by simp, by simp, ?_⟩
    simp [St.keep, get_mk, look, ren, renL, renR, renB, renO, keepρ, pos, hget, renR_ints, rows4_one, renR_rg]
  · simp only [reV, reB, hx, if_false]
    unfold c6l1
    repeat' (first | ((with_reducible refine T_calm ?_ ?_); rfl) | (with_reducible first | refine T_seq ?_ | refine T_reg ?_ | refine T_draw ?_ | refine T_skip ?_ | refine T_exit ?_ | refine T_block ?_ | refine T_cond_t rfl ?_ | refine T_cond_f rfl ?_ | refine wdW_cons rfl ?_ | (show wcall _ false (.lit (.func (.func 10) _ _)) _ _ _ _; refine wcall_fn (h10a) rfl (by simp [plainL, plain]) ?_) | (show wcallX _ false (.lit (.func (.func 10) _ _)) _ _ _ _; refine wcallX_fn (h10a) rfl (by simp [plainL, plain, plainR, Int.toNat_natCast]) ?_) | (show wcall _ false (.lit (.func (.func 10) _ _)) _ _ _ _; refine wcall_fn (h10b) rfl (by simp [plainL, plain]) ?_) | (show wcallX _ false (.lit (.func (.func 10) _ _)) _ _ _ _; refine wcallX_fn (h10b) rfl (by simp [plainL, plain, plainR, Int.toNat_natCast]) ?_) | (show wcall _ false (.lit (.func (.func 10) _ _)) _ _ _ _; refine wcall_fn (h10c) rfl (by simp [plainL, plain]) ?_) | (show wcallX _ false (.lit (.func (.func 10) _ _)) _ _ _ _; refine wcallX_fn (h10c) rfl (by simp [plainL, plain, plainR, Int.toNat_natCast]) ?_) | (show wcall _ false (.lit (.func (.func 10) _ _)) _ _ _ _; refine wcall_fn (h10d) rfl (by simp [plainL, plain]) ?_) | (show wcallX _ false (.lit (.func (.func 10) _ _)) _ _ _ _; refine wcallX_fn (h10d) rfl (by simp [plainL, plain, plainR, Int.toNat_natCast]) ?_) | ((first | refine T_cond rfl (fun hc => ?_) (fun hc => ?_) | refine wguard_split (fun hc => ?_) (fun hc => ?_) | refine wguardX_split (fun hc => ?_) (fun hc => ?_)) <;> have hd := hc <;> (try simp (disch := omega) only [wrapI] at hd) <;> have hs := hd <;> (try simp only [beq_iff_eq, beq_eq_false_iff_ne, Bool.not_false, ne_eq] at hd) <;> (try simp at hs)) | refine T_ret ?_ | refine wif_intro ?_ (fun hc => ?_) | refine And.intro ?_ ?_ | intro hc) | simp (maxSteps := 4000000) only [wops_nil, wops_cons, wstep_none, wstep_some, wguard_ff, wguard_tf, wrun_call, wrun_mv, wrun_pick, wrun_bin, wrun_not, wrun_build, wrun_load, wrun_store, wrun_faddr, wrun_iaddrS, wrun_iaddrA, wrun_len, wrun_alloc, wrun_bslice, wrun_app, wrunX_mv, wrunX_bin, wrunX_build, wrunX_load, wrunX_store, wrunX_faddr, wrunX_iaddrS, wrunX_iaddrA, wrunX_alloc, wrunX_bslice, wrunX_app, wdW_nil, wstepX_none, wop, aop, ev, look, put_some, put_none, writes, ores_some, ores_ite_none, ores_none_ite, ores_map, ores_bind, binV, thenK, blockK, boolV, intV, lenOf, elsOf, szOk, value, cut, hget, fillA, putCells, AV.parts, isOne, toLits, mkAgg, ofValue_int, List.flatten_cons, List.flatten_nil, rowsOf, List.map_cons, List.map_nil, List.length_cons, List.length_nil, List.getElem?_cons_zero, List.getElem?_cons_succ, List.set_cons_zero, List.set_cons_succ, List.take_succ_cons, List.take_zero, List.take_nil, List.drop_succ_cons, List.drop_zero, List.drop_nil, List.cons_append, List.nil_append, List.append_nil, List.replicate_zero, List.replicate_succ, List.getD_cons_zero, List.all_cons, List.all_nil, List.isEmpty_cons, List.length_append, Option.pure_def, Option.bind_eq_bind, Option.getD_some, Option.map_some, if_true, if_false, Nat.reduceEqDiff, Nat.reduceAdd, Nat.reduceLeDiff, Nat.reduceLT, Nat.add_zero, Nat.zero_add, Nat.sub_zero, Nat.zero_mul, Nat.mul_one, Nat.le_refl, reduceCtorEq, Bool.not_true, Bool.and_true, Bool.and_false, Bool.or_true, Bool.false_eq_true, eq_self, true_and, and_true, and_self, decide_true, beq_self_eq_true, freeze, lidsL, lids, List.flatMap_cons, List.flatMap_nil, List.all_cons, ren, Int.toNat_natCast, *] | simp (disch := omega) only [wrapI] | (with_reducible show wcall _ false (.lit (.func (.func 10) _ _)) _ _ _ _; refine wcall_fn (h10a) ?_ ?_ ?_; (next => simp [rfyL, rfy, hget, ints, take_rfy, Int.toNat_natCast]); (next => simp [plainL, plain, plainR, Int.toNat_natCast])) | (with_reducible show wcallX _ false (.lit (.func (.func 10) _ _)) _ _ _ _; refine wcallX_fn (h10a) ?_ ?_ ?_; (next => simp [rfyL, rfy, hget, ints, take_rfy, Int.toNat_natCast]); (next => simp [plainL, plain, plainR, Int.toNat_natCast])) | (with_reducible show wcall _ false (.lit (.func (.func 10) _ _)) _ _ _ _; refine wcall_fn (h10b) ?_ ?_ ?_; (next => simp [rfyL, rfy, hget, ints, take_rfy, Int.toNat_natCast]); (next => simp [plainL, plain, plainR, Int.toNat_natCast])) | (with_reducible show wcallX _ false (.lit (.func (.func 10) _ _)) _ _ _ _; refine wcallX_fn (h10b) ?_ ?_ ?_; (next => simp [rfyL, rfy, hget, ints, take_rfy, Int.toNat_natCast]); (next => simp [plainL, plain, plainR, Int.toNat_natCast])) | (with_reducible show wcall _ false (.lit (.func (.func 10) _ _)) _ _ _ _; refine wcall_fn (h10c) ?_ ?_ ?_; (next => simp [rfyL, rfy, hget, ints, take_rfy, Int.toNat_natCast]); (next => simp [plainL, plain, plainR, Int.toNat_natCast])) | (with_reducible show wcallX _ false (.lit (.func (.func 10) _ _)) _ _ _ _; refine wcallX_fn (h10c) ?_ ?_ ?_; (next => simp [rfyL, rfy, hget, ints, take_rfy, Int.toNat_natCast]); (next => simp [plainL, plain, plainR, Int.toNat_natCast])) | (with_reducible show wcall _ false (.lit (.func (.func 10) _ _)) _ _ _ _; refine wcall_fn (h10d) ?_ ?_ ?_; (next => simp [rfyL, rfy, hget, ints, take_rfy, Int.toNat_natCast]); (next => simp [plainL, plain, plainR, Int.toNat_natCast])) | (with_reducible show wcallX _ false (.lit (.func (.func 10) _ _)) _ _ _ _; refine wcallX_fn (h10d) ?_ ?_ ?_; (next => simp [rfyL, rfy, hget, ints, take_rfy, Int.toNat_natCast]); (next => simp [plainL, plain, plainR, Int.toNat_natCast])) | (with_reducible refine wdW_cons ?_ ?_; (next => simp [chk, foot, compatB, argsOf, St.get, target, ev, look, lidsL, hget, kind, AOp.isRaw, wids, wtops, tops, opds, topId, Int.toNat_natCast]; done)) | omega)
    all_goals first | (exact absurd (by assumption) hne.down) | skip
    refine ⟨[0, 5], by simp, by simp, ?_⟩
    simp [St.keep, get_mk, look, ren, renL, renR, renB, renO, keepρ, pos, hget, renR_ints, renR_app4, rows4_app, rows4_one, renR_rg]
    rw [List.take_of_length_le (by omega), renR_rows4]
end Go.Abs
