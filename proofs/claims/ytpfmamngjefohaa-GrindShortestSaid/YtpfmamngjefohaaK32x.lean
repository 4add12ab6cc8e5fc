import Derived.Test.YtpfmamngjefohaaK22x
set_option linter.all false
set_option linter.unusedVariables false
set_option linter.unusedSimpArgs false
set_option linter.unusedSectionVars false
namespace Go.Abs
open Go.Proofs
/-! best: one round -/
abbrev R66 (nil : Bool) (l : List Gr) (d want : Int) (f : Int → Pol) (k : Nat) (s' : St) : Prop := (k < l.length ∧ True) ∧ ∃ ids : List Nat, 0 ≤ s'.heap.length ∧ (∀ id ∈ ids, 0 ≤ id ∧ id < s'.heap.length) ∧ ids.Nodup ∧ s'.keep 0 [0, 1, 2, 6, 7, 15, 16, 17] ids = S66 nil l d want f (k + 1)
/- a grit that is too coarse -/
set_option maxHeartbeats 8000000 in
theorem k66a {nil : Bool} {l : List Gr} {d want : Int} {f : Int → Pol} {k : Nat} (hl : l.length < 1000000) (hk : k < l.length) (hge : (l.getD k gr0).dm ≥ d) (K : Exit → St → Prop) :
    T none Try.prog muts 50 0 c66l0 (S66 nil l d want f k) (thenK (R66 nil l d want f k) K) := by
  have hll := gR_len l
  have g1 := gR_get hk
  have eo : bsf l f d (k + 1) = bsf l f d k := by
    show bpick (bcand l f d k) (bsf l f d k) = _
    unfold bcand; rw [if_pos hge]; rfl
  have d1 : decide ((l.getD k gr0).dm ≥ d) = true := decide_eq_true hge
  unfold R66 S66
  rw [eo]
  clear eo hge
  generalize bsf l f d k = o at *
  cases o with
  | none =>
    unfold S66h S66s
    unfold c66l0
    repeat' (first
      | ((with_reducible refine T_calm ?_ ?_); rfl)
      | with_reducible first
        | refine T_seq ?_
        | refine T_reg ?_
        | refine T_draw ?_
        | refine T_skip ?_
        | refine T_exit ?_
        | refine T_block ?_
        | refine T_cond_t rfl ?_
        | refine T_cond_f rfl ?_
        | refine wdW_cons rfl ?_
        | ((first | refine T_cond rfl (fun hc => ?_) (fun hc => ?_) | refine wguard_split (fun hc => ?_) (fun hc => ?_) | refine wguardX_split (fun hc => ?_) (fun hc => ?_)) <;> have hd := hc <;> (try simp (disch := omega) only [wrapI] at hd) <;> have hs := hd <;> (try simp only [decide_eq_true_eq, decide_eq_false_iff_not, Int.not_lt] at hd) <;> (try simp at hs))
        | refine T_ret ?_
        | refine leave_of (.inr rfl) _ rfl ?_
        | refine leave_of (.inl rfl) _ rfl ?_
        | refine leaveA_of (.inr rfl) _ rfl ?_
        | refine leaveA_of (.inl rfl) _ rfl ?_
        | refine wif_intro ?_ (fun hc => ?_)
        | refine And.intro ?_ ?_
        | intro hc
      | simp (maxSteps := 4000000) only [wops_nil, wops_cons, wstep_none, wrun_mv, wrun_bin, wrun_load, wrun_store, wrun_faddr, wrun_iaddrS, wrun_alloc, wop, aop, ev, look, put_some, put_none, writes, ores_some, ores_ite_none, binV, thenK, blockK, value, cut, hget, putCells, AV.parts, isOne, toLits, mkAgg, ofValue_int, ofValue_str, List.map_cons, List.map_nil, List.length_cons, List.length_nil, List.getElem?_cons_zero, List.getElem?_cons_succ, List.set_cons_zero, List.set_cons_succ, List.take_succ_cons, List.take_zero, List.take_nil, List.drop_succ_cons, List.drop_zero, List.drop_nil, List.cons_append, List.nil_append, List.append_nil, List.append_assoc, List.replicate_zero, List.replicate_succ, List.getD_cons_zero, List.all_cons, List.all_nil, Option.getD_some, Option.map_some, if_true, if_false, Nat.reduceEqDiff, Nat.reduceAdd, Nat.reduceLeDiff, Nat.reduceLT, Nat.add_zero, Nat.zero_add, Nat.le_refl, Nat.zero_ne_one, reduceCtorEq, Bool.and_true, Bool.false_eq_true, eq_self, true_and, and_true, and_self, decide_true, List.all_cons, Int.toNat_natCast, *]
      | simp (disch := omega) only [wrapI]
      | omega)
    all_goals first | (refine ⟨[0, 1], by simp, by simp, ?_⟩; simp [St.keep, get_mk, look, ren, renL, renR, renB, renO, keepρ, pos, hget, renR_gR]; done)
  | some x =>
    obtain ⟨p, m⟩ := x
    have hpl : (p.map fun x => [i64 x]).length = p.length := by simp
    unfold S66h S66s
    unfold c66l0
    repeat' (first
      | ((with_reducible refine T_calm ?_ ?_); rfl)
      | with_reducible first
        | refine T_seq ?_
        | refine T_reg ?_
        | refine T_draw ?_
        | refine T_skip ?_
        | refine T_exit ?_
        | refine T_block ?_
        | refine T_cond_t rfl ?_
        | refine T_cond_f rfl ?_
        | refine wdW_cons rfl ?_
        | ((first | refine T_cond rfl (fun hc => ?_) (fun hc => ?_) | refine wguard_split (fun hc => ?_) (fun hc => ?_) | refine wguardX_split (fun hc => ?_) (fun hc => ?_)) <;> have hd := hc <;> (try simp (disch := omega) only [wrapI] at hd) <;> have hs := hd <;> (try simp only [decide_eq_true_eq, decide_eq_false_iff_not, Int.not_lt] at hd) <;> (try simp at hs))
        | refine T_ret ?_
        | refine leave_of (.inr rfl) _ rfl ?_
        | refine leave_of (.inl rfl) _ rfl ?_
        | refine leaveA_of (.inr rfl) _ rfl ?_
        | refine leaveA_of (.inl rfl) _ rfl ?_
        | refine wif_intro ?_ (fun hc => ?_)
        | refine And.intro ?_ ?_
        | intro hc
      | simp (maxSteps := 4000000) only [wops_nil, wops_cons, wstep_none, wrun_mv, wrun_bin, wrun_load, wrun_store, wrun_faddr, wrun_iaddrS, wrun_alloc, wop, aop, ev, look, put_some, put_none, writes, ores_some, ores_ite_none, binV, thenK, blockK, value, cut, hget, putCells, AV.parts, isOne, toLits, mkAgg, ofValue_int, ofValue_str, List.map_cons, List.map_nil, List.length_cons, List.length_nil, List.getElem?_cons_zero, List.getElem?_cons_succ, List.set_cons_zero, List.set_cons_succ, List.take_succ_cons, List.take_zero, List.take_nil, List.drop_succ_cons, List.drop_zero, List.drop_nil, List.cons_append, List.nil_append, List.append_nil, List.append_assoc, List.replicate_zero, List.replicate_succ, List.getD_cons_zero, List.all_cons, List.all_nil, Option.getD_some, Option.map_some, if_true, if_false, Nat.reduceEqDiff, Nat.reduceAdd, Nat.reduceLeDiff, Nat.reduceLT, Nat.add_zero, Nat.zero_add, Nat.le_refl, Nat.zero_ne_one, reduceCtorEq, Bool.and_true, Bool.false_eq_true, eq_self, true_and, and_true, and_self, decide_true, List.all_cons, Int.toNat_natCast, *]
      | simp (disch := omega) only [wrapI]
      | omega)
    all_goals first | (refine ⟨[0, 1, 2], by simp, by simp, ?_⟩; simp [St.keep, get_mk, look, ren, renL, renR, renB, renO, keepρ, pos, hget, renR_ints, renR_gR]; done)
end Go.Abs
