import Derived.Test.YtodheeifecoebaaK247x
set_option linter.all false
set_option linter.unusedVariables false
set_option linter.unusedSimpArgs false
set_option linter.unusedSectionVars false
namespace Go.Abs
open Go.Proofs
/-! MirrorPart, its list at hand -/
section
variable {n s : Nat} {nil : Bool} {rows : List (Bool × List Int)}
set_option maxHeartbeats 8000000 in
theorem k21p (h : TmOk n s rows) : ACall Try.prog 21 [tmV n nil rows] [] (QP n (pl (fun i => lowD (mir (V rows) rows.length s n i) (rows.length * rows.length)) n)) := by
  have h0 := h.chk
  refine envOf_all e21 ?_
  obtain ⟨hk, hn, hn2, hr, hb⟩ := h
  have h37 := k37 (S := (n : Int)) (nil := nil) (rows := rows) (by omega) (fun t ht => by rw [hr t ht]; omega)
  rw [h0] at h37
  have h86 := k86 (nil := nil) hk hn hn2 hr hb
  have hkk : 1 ≤ (rows.length : Int) * (rows.length : Int) ∧ (rows.length : Int) * (rows.length : Int) ≤ 144 := by
    have h1 := Nat.mul_le_mul hk.1 hk.1
    have h2 := Nat.mul_le_mul hk.2 hk.2
    rw [← Int.natCast_mul]; omega
  have ew : IntKind.i64.wrap ((rows.length : Int) * (rows.length : Int)) = (rows.length : Int) * (rows.length : Int) := wrapI (by omega) (by omega)
  have hl := mk_len n (rst (V rows) rows.length)
  have hl2 := mk_len n (mir (V rows) rows.length s n)
  have h87 := k87 (nl := false) (xs := mk n (mir (V rows) rows.length s n)) (d := rows.length * rows.length) (fun k hk2 => by
    rw [hl2] at hk2
    rw [mk_get hk2]
    have := mirp_bd (V := V rows) (k := rows.length) (s := s) (n := n) (j := k) (u := rows.length) (by omega) hk.2 (Nat.le_refl _) hb
    have e1 : mirp (V rows) rows.length s n rows.length k = mir (V rows) rows.length s n k := rfl
    omega) (by omega) (by omega)
  have e : pl (fun i => lowD ((mk n (mir (V rows) rows.length s n)).getD i 0) (rows.length * rows.length)) n = pl (fun i => lowD (mir (V rows) rows.length s n i) (rows.length * rows.length)) n := pl_congr fun i hi => by rw [mk_get hi]
  rw [hl2, e] at h87
  have hlr : (rows.map fun r => [ints r.1 r.2]).length = rows.length := by simp
  have hp := plain_rws rows
  clear hr hb h0 e
  generalize mk n (rst (V rows) rows.length) = L at *
  generalize mk n (mir (V rows) rows.length s n) = M at *
  generalize pl (fun i => lowD (mir (V rows) rows.length s n i) (rows.length * rows.length)) n = Q at *
  replace h37 := And.intro h37 trivial
  replace h86 := And.intro h86 trivial
  replace h87 := And.intro h87 trivial
  unfold c21
  repeat' (first
    | with_reducible first
      | refine T_seq ?_
      | refine T_reg ?_
      | refine T_skip ?_
      | refine T_exit ?_
      | refine T_block ?_
      | refine T_cond_t rfl ?_
      | refine T_cond_f rfl ?_
      | (show wcall _ false (.lit (.func (.func 37) _ _)) _ _ _ _; refine wcall_fn (h37.1) rfl (by simp [plainL, plain, plain_rws]) ?_)
      | (show wcall _ false (.lit (.func (.func 86) _ _)) _ _ _ _; refine wcall_fn (h86.1) rfl (by simp [plainL, plain, plain_rws]) ?_)
      | ((first | refine T_cond rfl (fun hc => ?_) (fun hc => ?_) | refine wguard_split (fun hc => ?_) (fun hc => ?_)) <;> have hd := hc <;> (try simp (disch := omega) only [wrapI] at hd) <;> have hs := hd <;> (try simp only [Bool.not_eq_true', Bool.not_eq_false', Bool.and_eq_true, Bool.and_eq_false_iff, Bool.or_eq_true, Bool.or_eq_false_iff, decide_eq_true_eq, decide_eq_false_iff_not, beq_iff_eq, bne_iff_ne, beq_eq_false_iff_ne, bne_eq_false_iff_eq, Bool.not_true, Bool.not_false, gt_iff_lt, ge_iff_le, Int.not_lt, Int.not_le, ne_eq, Decidable.not_not] at hd) <;> (try simp at hs))
      | refine T_ret ?_
      | refine wif_intro ?_ (fun hc => ?_)
      | refine And.intro ?_ ?_
      | intro hc
    | simp (maxSteps := 4000000) only [wops_nil, wops_cons, wstep_none, wrun_call, wrun_mv, wrun_bin, wrun_ext, wrun_load, wrun_faddr, wrun_len, wrun_box, wop, aop, ev, look, put_some, writes, ores_some, ores_map, ores_bind, binV, thenK, intV, lenOf, value, cut, hget, AV.parts, isOne, toLits, mkAgg, List.map_cons, List.map_nil, List.length_cons, List.length_nil, List.getElem?_cons_zero, List.getElem?_cons_succ, List.set_cons_zero, List.take_succ_cons, List.take_nil, List.drop_succ_cons, List.drop_zero, List.cons_append, List.nil_append, List.append_nil, List.replicate_zero, List.replicate_succ, List.getD_cons_zero, List.zipIdx_cons, List.zipIdx_nil, List.all_cons, List.all_nil, Option.pure_def, Option.bind_eq_bind, Option.getD_some, Option.map_some, Option.map_none, if_true, if_false, Nat.reduceEqDiff, Nat.reduceAdd, Nat.add_zero, Nat.zero_add, Nat.zero_ne_one, reduceCtorEq, Bool.and_true, Bool.false_eq_true, eq_self, true_and, and_self, freeze, lidsL, lids, List.flatMap_cons, List.flatMap_nil, List.all_cons, ren, renL, renB, shiftρ, renR_ints, *]
    | simp (disch := omega) only [getD_ints, wrapI]
    | (with_reducible show wcall _ false (.lit (.func (.func 37) _ _)) _ _ _ _; refine wcall_fn (h37.1) ?_ ?_ ?_; (next => simp [rfyL, rfy, hget, ints, take_rfy, renR_rws, renR_prR, plain_rws]); (next => simp [plainL, plain, plainR, renR_rws, renR_prR, plain_rws]))
    | (with_reducible show wcall _ false (.lit (.func (.func 86) _ _)) _ _ _ _; refine wcall_fn (h86.1) ?_ ?_ ?_; (next => simp [rfyL, rfy, hget, ints, take_rfy, renR_rws, renR_prR, plain_rws]); (next => simp [plainL, plain, plainR, renR_rws, renR_prR, plain_rws]))
    | omega)
  refine wcall_Q h87.1 (by simp only [rfyL, List.map_cons, List.map_nil]; rw [rfy_iB (d := 5) (own := true) (xs := M) rfl hl2]; rfl) (by simp [plainL, plain]) ?_
  rintro r N F hF hx hR ⟨rfl, rfl⟩
  have hc : (F ++ [Blk.cells true false 2 (prR Q)].map (renB (shiftρ F.length)))[0 + F.length]? = some (.cells true false 2 (prR Q)) := by
    have := at_shift (F := F) (N := [Blk.cells true false 2 (prR Q)]) (id := 0) rfl
    simpa only [renB, renR_prR] using this
  have er : ren (shiftρ F.length) (.lsl 0 0 n) = .lsl (0 + F.length) 0 n := rfl
  rw [er]
  generalize F ++ [Blk.cells true false 2 (prR Q)].map (renB (shiftρ F.length)) = H' at *
  generalize 0 + F.length = id at *
  clear h87 hx hR er hF
  replace hc := And.intro hc trivial
  repeat' (first
    | with_reducible first
      | refine T_seq ?_
      | refine T_reg ?_
      | refine T_skip ?_
      | refine T_exit ?_
      | refine T_block ?_
      | refine T_cond_t rfl ?_
      | refine T_cond_f rfl ?_
      | ((first | refine T_cond rfl (fun hc => ?_) (fun hc => ?_) | refine wguard_split (fun hc => ?_) (fun hc => ?_)) <;> have hd := hc <;> (try simp (disch := omega) only [wrapI] at hd) <;> have hs := hd <;> (try simp only [Bool.not_eq_true', Bool.not_eq_false', Bool.and_eq_true, Bool.and_eq_false_iff, Bool.or_eq_true, Bool.or_eq_false_iff, decide_eq_true_eq, decide_eq_false_iff_not, beq_iff_eq, bne_iff_ne, beq_eq_false_iff_ne, bne_eq_false_iff_eq, Bool.not_true, Bool.not_false, gt_iff_lt, ge_iff_le, Int.not_lt, Int.not_le, ne_eq, Decidable.not_not] at hd) <;> (try simp at hs))
      | refine T_ret ?_
      | refine wif_intro ?_ (fun hc => ?_)
      | refine And.intro ?_ ?_
      | intro hc
    | simp (maxSteps := 4000000) only [wops_nil, wops_cons, wstep_none, wrun_mv, wop, aop, ev, look, put_some, writes, ores_some, thenK, if_true, if_false, Nat.reduceEqDiff, reduceCtorEq, eq_self, *]
    | simp (disch := omega) only [getD_ints, wrapI]
    | omega)
  exact ⟨[.lsl id 0 n, i64 0], rfl, id, true, rfl, hc.1⟩
end
end Go.Abs
