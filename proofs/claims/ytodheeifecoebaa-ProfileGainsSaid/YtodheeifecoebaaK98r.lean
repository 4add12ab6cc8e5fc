import Derived.Test.YtodheeifecoebaaK42x
import Derived.Test.YtodheeifecoebaaK97x
set_option linter.all false
set_option linter.unusedVariables false
set_option linter.unusedSimpArgs false
set_option linter.unusedSectionVars false
namespace Go.Abs
open Go.Proofs
/-! the table of readings that agree -/
theorem leave_tabQ2 {z : Nat} {M : List (List Int)} (hs : Sq z M) (s : List (Nat × AV)) (h4 : look s 4 = .lsl 0 0 z) (h5 : look s 5 = i64 0) : leave 0 [ARes.tmp 4, ARes.tmp 5] (fun r' H' => r' = AV.tup [AV.lsl 0 0 z, i64 0] ∧ H' = tabB M z) .ret ⟨s, tabB M z⟩ := by
  have hH : IsQ z M (tabB M z) := ⟨rfl, fun i hi => by
    rw [show 1 + i = i + 1 by omega]
    show (M.map rowB)[i]? = _
    simp [List.getD, hs.hl, hi, rowB]⟩
  refine leave_ids (.inr rfl) [.lsl 0 0 z, i64 0] (List.range (z + 1)) ?_ (fun id hid => ?_) List.nodup_range ⟨?_, leave_tq hH hs⟩
  · simp [resL, resAV, St.get, h4, h5]
  · have := List.mem_range.1 hid
    show id < (tabB M z).length
    simp [tabB, hs.hl]; omega
  · have : keepρ 0 (List.range (z + 1)) 0 = some 0 := by
      unfold keepρ
      rw [if_neg (by omega), pos_rng (by omega)]
      rfl
    simp [tupOf, ren, renL, this]
end Go.Abs
namespace Go.Abs
open Go.Proofs
set_option maxHeartbeats 8000000 in
theorem k119n {z : Nat} {nil : Bool} {l : List Rd} (h : checkR z l = 0) (hnil : ∃ r, r ≤ z ∧ (rnds (arcsL l l.length) z (r + 1)).at_ < 0) : Fn Try.prog 119 [i64 z, rdgs nil l] (.tup [.lsl 0 0 z, i64 0]) (tabB (tabM (arcsL l l.length) z) z) := by
  obtain ⟨hz, hl, hrd⟩ := checkR_ok h
  obtain ⟨hA, hN, hok⟩ := arcs_ok hrd
  have hn : (arcsL l l.length).length ≤ 200 := by have := arcsL_len l l.length; omega
  obtain ⟨P, hP1, hP2⟩ := rest_bound hA hn hnil (by omega)
  have h89 := k89 z nil l (by omega)
  rw [h] at h89
  have h95 := k95n (nil := nil) hl hok (z := z) (by omega) rfl hA hnil
  have h96 := k96 (nil := nil) hl hok (z := z) (by omega) rfl hA hP1 hP2
  have hlb : Lb z P (tabM (arcsL l l.length) z) := ((iniM_lb hP2).arM hA hP1 _ (Nat.le_refl _)).fwK z (Nat.le_refl _)
  have hM := hlb.sq
  generalize tabM (arcsL l l.length) z = M at *
  have hlt := leave_tabQ2 (z := z) (M := M) hM
  clear hnil hP1 hP2 hlb hA hN hok hrd
  refine fn_of e119 ?_
  unfold c119
  repeat' (first
    | with_reducible first
      | refine T_seq ?_
      | refine T_reg ?_
      | refine T_skip ?_
      | refine T_exit ?_
      | refine T_block ?_
      | refine T_cond_t rfl ?_
      | refine T_cond_f rfl ?_
      | (show wcall _ false (.lit (.func (.func 89) _ _)) _ _ _ _; refine wcall_fn (h89) rfl (by simp [plainL, plain]) ?_)
      | (show wcall _ false (.lit (.func (.func 95) _ _)) _ _ _ _; refine wcall_fn (h95) rfl (by simp [plainL, plain]) ?_)
      | (show wcall _ false (.lit (.func (.func 96) _ _)) _ _ _ _; refine wcall_fn (h96) rfl (by simp [plainL, plain]) ?_)
      | ((first | refine T_cond rfl (fun hc => ?_) (fun hc => ?_) | refine wguard_split (fun hc => ?_) (fun hc => ?_)) <;> have hd := hc <;> (try simp (disch := omega) only [wrapI] at hd) <;> have hs := hd <;> (try simp only [Bool.not_eq_true', Bool.not_eq_false', Bool.and_eq_true, Bool.and_eq_false_iff, Bool.or_eq_true, Bool.or_eq_false_iff, decide_eq_true_eq, decide_eq_false_iff_not, beq_iff_eq, bne_iff_ne, beq_eq_false_iff_ne, bne_eq_false_iff_eq, Bool.not_true, Bool.not_false, gt_iff_lt, ge_iff_le, Int.not_lt, Int.not_le, ne_eq, Decidable.not_not] at hd) <;> (try simp at hs))
      | refine T_ret ?_
      | refine wif_intro ?_ (fun hc => ?_)
      | refine And.intro ?_ ?_
      | intro hc
    | simp (maxSteps := 4000000) only [wops_nil, wops_cons, wstep_none, wrun_call, wrun_mv, wrun_bin, wrun_eqNil, wop, aop, ev, look, put_some, writes, ores_some, binV, thenK, boolV, List.map_cons, List.map_nil, List.length_nil, List.nil_append, List.append_nil, List.replicate_zero, List.zipIdx_cons, List.zipIdx_nil, Option.map_some, if_true, if_false, Nat.reduceEqDiff, Nat.reduceAdd, Nat.add_zero, Nat.zero_add, Nat.zero_ne_one, reduceCtorEq, Bool.not_true, eq_self, freeze, lidsL, lids, List.flatMap_cons, List.flatMap_nil, ren, renR, shiftρ, tab_ren, *]
    | simp (disch := omega) only [getD_ints, wrapI]
    | (with_reducible show wcall _ false (.lit (.func (.func 89) _ _)) _ _ _ _; refine wcall_fn (h89) ?_ ?_ ?_; (next => simp [rfyL, rfy, hget, ints, take_rfy, tab_ren]); (next => simp [plainL, plain, plainR, tab_ren]))
    | (with_reducible show wcall _ false (.lit (.func (.func 95) _ _)) _ _ _ _; refine wcall_fn (h95) ?_ ?_ ?_; (next => simp [rfyL, rfy, hget, ints, take_rfy, tab_ren]); (next => simp [plainL, plain, plainR, tab_ren]))
    | (with_reducible show wcall _ false (.lit (.func (.func 96) _ _)) _ _ _ _; refine wcall_fn (h96) ?_ ?_ ?_; (next => simp [rfyL, rfy, hget, ints, take_rfy, tab_ren]); (next => simp [plainL, plain, plainR, tab_ren]))
    | omega)
set_option maxHeartbeats 8000000 in
theorem k119e {zi : Int} {nil : Bool} {l : List Rd} (hl : l.length < 1000000) (h : checkR zi l ≠ 0) : Fn Try.prog 119 [i64 zi, rdgs nil l] (.tup [.sl true 0 [], i64 (checkR zi l)]) [] := by
  refine fn_of e119 ?_
  have h89 := k89 zi nil l hl
  unfold c119
  repeat' (first
    | with_reducible first
      | refine T_seq ?_
      | refine T_reg ?_
      | refine T_skip ?_
      | refine T_exit ?_
      | refine T_block ?_
      | refine T_cond_t rfl ?_
      | refine T_cond_f rfl ?_
      | (show wcall _ false (.lit (.func (.func 89) _ _)) _ _ _ _; refine wcall_fn (h89) rfl (by simp [plainL, plain]) ?_)
      | ((first | refine T_cond rfl (fun hc => ?_) (fun hc => ?_) | refine wguard_split (fun hc => ?_) (fun hc => ?_)) <;> have hd := hc <;> (try simp (disch := omega) only [wrapI] at hd) <;> have hs := hd <;> (try simp only [bne_iff_ne, bne_eq_false_iff_eq, ne_eq] at hd) <;> (try simp at hs))
      | refine T_ret ?_
      | refine leave_of (.inr rfl) _ rfl ?_
      | refine leave_of (.inl rfl) _ rfl ?_
      | refine leaveA_of (.inr rfl) _ rfl ?_
      | refine leaveA_of (.inl rfl) _ rfl ?_
      | refine wif_intro ?_ (fun hc => ?_)
      | refine And.intro ?_ ?_
      | intro hc
    | simp (maxSteps := 4000000) only [wops_nil, wops_cons, wstep_none, wrun_call, wrun_mv, wrun_bin, get_mk, wop, aop, ev, look, put_some, writes, ores_some, binV, thenK, tupOf, List.map_cons, List.map_nil, List.length_nil, List.append_nil, List.replicate_zero, List.zipIdx_cons, List.zipIdx_nil, Option.map_some, if_true, if_false, Nat.reduceEqDiff, Nat.reduceAdd, Nat.zero_add, Nat.zero_ne_one, reduceCtorEq, eq_self, freeze, lidsL, lids, List.flatMap_cons, List.flatMap_nil, ren, renL, renR, *]
    | simp (disch := omega) only [getD_ints, wrapI]
    | (with_reducible show wcall _ false (.lit (.func (.func 89) _ _)) _ _ _ _; refine wcall_fn (h89) ?_ ?_ ?_; (next => simp [rfyL, rfy, hget, ints, take_rfy]); (next => simp [plainL, plain, plainR]))
    | omega)
end Go.Abs
