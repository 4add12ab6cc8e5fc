import Derived.Test.YtpfmamngjefohaaK309x
set_option linter.all false
set_option linter.unusedVariables false
set_option linter.unusedSimpArgs false
set_option linter.unusedSectionVars false
namespace Go.Abs
open Go.Proofs
/-! sessions -/
structure Ss where
  mi : ByteArray
  st : ByteArray
  mn : Int
def ss0 : Ss := ⟨⟨#[]⟩, ⟨#[]⟩, 0⟩
def ssR (l : List Ss) : List (List AV) := l.map fun g => [tx g.mi, tx g.st, i64 g.mn]
abbrev sss (nil : Bool) (l : List Ss) : AV := .sl nil 3 (ssR l)
theorem ssR_len (l : List Ss) : (ssR l).length = l.length := by simp [ssR]
theorem ssR_get {l : List Ss} {k : Nat} (h : k < l.length) : (ssR l).getD k [] = [tx (l.getD k ss0).mi, tx (l.getD k ss0).st, i64 (l.getD k ss0).mn] := by
  simp [ssR, List.getD_eq_getElem?_getD, h]
theorem plainR_ss (l : List Ss) : plainR (ssR l) = true := plainR_map _ (fun _ => rfl) l
theorem renR_ss (ρ : Nat → Option Nat) (l : List Ss) : renR ρ (ssR l) = ssR l := renR_plain ρ _ (plainR_ss l)
theorem ss_take (l : List Ss) : List.take l.length (ssR l) = ssR l := List.take_of_length_le (by rw [ssR_len]; exact Nat.le_refl _)
def zEr (l : List Sk) (s : List Ss) (k : Nat) : Int := if nmB (s.getD k ss0).mi = false then 4 else if decide (sAt l (s.getD k ss0).st < 0) = true then 6 else if (decide (1 ≤ (s.getD k ss0).mn) && decide ((s.getD k ss0).mn ≤ 10000)) = false then 2 else 0
def zE (l : List Sk) (s : List Ss) : Int := if s.length > 200 then 8 else fe (zEr l s) s.length
/-! the limits, the copy -/
def fwS (s : Ss) : Bool := decide (s.mi.size ≤ 30) && decide (s.st.size ≤ 30)
def fwB (l : List Ss) : Bool := l.all fwS && (decide (l.length ≤ 10) || (decide (200 < l.length) && decide (l.length ≤ 203)))
theorem all_getSs {p : Ss → Bool} {l : List Ss} : l.all p = true ↔ ∀ k, k < l.length → p (l.getD k ss0) = true := by
  constructor
  · intro h k hk
    rw [List.all_eq_true] at h
    exact h _ (by rw [List.getD_eq_getElem?_getD, List.getElem?_eq_getElem hk]; exact List.getElem_mem hk)
  · intro h
    rw [List.all_eq_true]
    intro x hx
    obtain ⟨k, hk, rfl⟩ := List.mem_iff_getElem.1 hx
    have := h k hk
    rwa [List.getD_eq_getElem?_getD, List.getElem?_eq_getElem hk] at this
set_option maxHeartbeats 8000000 in
theorem k28 (nil : Bool) (l : List Ss) (hl : l.length ≤ 9223372036854775807) : Fn Try.prog 28 [sss nil l] (bl (fwB l)) [] := by
  refine fn_of e28 ?_
  have hll := ssR_len l
  have hB : ∀ k, k < l.length → fwS (l.getD k ss0) = false → fwB l = false := fun k hk h => by
    have : l.all fwS = false := by
      cases hs9 : l.all fwS with
      | false => rfl
      | true => have := all_getSs.1 hs9 k hk; rw [this] at h; simp at h
    unfold fwB; rw [this]; rfl
  have hG : (∀ k, k < l.length → fwS (l.getD k ss0) = true) → fwB l = (decide (l.length ≤ 10) || (decide (200 < l.length) && decide (l.length ≤ 203))) := fun h => by
    unfold fwB; rw [all_getSs.2 h]; rfl
  replace hB := PLift.up hB
  replace hG := PLift.up hG
  generalize fwB l = R at *
  unfold c28
  repeat' (first | (with_reducible first | refine T_seq ?_ | refine T_reg ?_ | refine T_skip ?_ | refine T_exit ?_ | refine T_block ?_ | refine T_cond_t rfl ?_ | refine T_cond_f rfl ?_ | refine T_ret ?_ | refine leave_of (.inr rfl) _ rfl ?_ | refine leave_of (.inl rfl) _ rfl ?_ | refine leaveA_of (.inr rfl) _ rfl ?_ | refine leaveA_of (.inl rfl) _ rfl ?_ | refine wif_intro ?_ (fun hc => ?_) | refine And.intro ?_ ?_ | intro hc) | simp (maxSteps := 4000000) only [wops_nil, wops_cons, wstep_none, wrun_mv, wop, aop, ev, put_some, writes, ores_some, thenK, List.map_cons, List.map_nil, List.length_nil, List.append_nil, List.replicate_zero, List.zipIdx_cons, List.zipIdx_nil, Nat.zero_add, *] | simp (disch := omega) only [getD_ints, wrapI] | omega)
  refine T_for [0, 3] (fun k => ⟨[(0, sss nil l), (3, i64 k)], []⟩) l.length (fun k => ∀ j, j < k → fwS (l.getD j ss0) = true) 0 rfl (fun j hj => by omega) (Nat.zero_le _) ?_
  intro k hk hI
  by_cases hkn : k < l.length
  · have g1 := ssR_get hkn
    have hS : fwS (l.getD k ss0) = (decide ((l.getD k ss0).mi.size ≤ 30) && decide ((l.getD k ss0).st.size ≤ 30)) := rfl
    by_cases h1 : (l.getD k ss0).mi.size ≤ 30
    · have e1 : decide (((l.getD k ss0).mi.size : Int) > 30) = false := decide_eq_false (by omega)
      by_cases h2 : (l.getD k ss0).st.size ≤ 30
      · have e2 : decide (((l.getD k ss0).st.size : Int) > 30) = false := decide_eq_false (by omega)
        have hT : fwS (l.getD k ss0) = true := by rw [hS]; simp only [Bool.and_eq_true, decide_eq_true_eq]; omega
        have hI2 : ∀ j, j < k + 1 → fwS (l.getD j ss0) = true := fun j hj => by
          rcases Nat.lt_succ_iff_lt_or_eq.1 hj with h | rfl
          · exact hI j h
          · exact hT
        replace hI2 := PLift.up hI2
        clear hI hB hG h1 h2 hS hT
        unfold c28l0
        repeat' (first | (with_reducible first | refine T_seq ?_ | refine T_reg ?_ | refine T_skip ?_ | refine T_exit ?_ | refine T_block ?_ | refine T_cond_t rfl ?_ | refine T_cond_f rfl ?_ | ((first | refine T_cond rfl (fun hc => ?_) (fun hc => ?_) | refine wguard_split (fun hc => ?_) (fun hc => ?_)) <;> have hd := hc <;> (try simp (disch := omega) only [wrapI] at hd) <;> have hs := hd <;> (try simp only [decide_eq_true_eq, decide_eq_false_iff_not, Bool.not_true, Bool.not_false, gt_iff_lt, Int.not_lt, Int.not_le] at hd) <;> (try simp at hs)) | refine T_ret ?_ | refine leave_of (.inr rfl) _ rfl ?_ | refine leave_of (.inl rfl) _ rfl ?_ | refine leaveA_of (.inr rfl) _ rfl ?_ | refine leaveA_of (.inl rfl) _ rfl ?_ | refine wif_intro ?_ (fun hc => ?_) | refine And.intro ?_ ?_ | intro hc) | simp (maxSteps := 4000000) only [wops_nil, wops_cons, wstep_none, wstep_some, wguard_true, wguard_ff, wguard_tf, wguard_ft, wguard_undef, wrun_mv, wrun_pick, wrun_bin, wrun_load, wrun_faddr, wrun_iaddrS, wrun_len, wrun_lenS, get_mk, wop, aop, ev, look, put_some, writes, ores_some, ores_ite_none, ores_map, ores_bind, binV, thenK, blockK, intV, lenOf, value, cut, hget, mkAgg, tupOf, List.length_cons, List.length_nil, List.take_succ_cons, List.take_zero, List.drop_succ_cons, List.drop_zero, List.append_nil, List.replicate_zero, Option.pure_def, Option.bind_eq_bind, Option.map_some, if_true, if_false, Nat.reduceEqDiff, Nat.add_zero, Nat.zero_add, reduceCtorEq, Bool.not_true, Bool.false_eq_true, eq_self, true_and, and_true, and_self, decide_true, ren, Int.toNat_natCast, *] | simp (disch := omega) only [wrapI] | omega)
        all_goals first | exact hI2.down _ (by assumption) | (simp [St.only, get_mk, look]; done)
      · have e2 : decide (((l.getD k ss0).st.size : Int) > 30) = true := decide_eq_true (by omega)
        rw [hB.down k hkn (by rw [hS]; simp only [Bool.and_eq_false_iff, decide_eq_false_iff_not]; omega)]
        clear hI hB hG h1 h2 hS
        unfold c28l0
        repeat' (first | (with_reducible first | refine T_seq ?_ | refine T_reg ?_ | refine T_skip ?_ | refine T_exit ?_ | refine T_block ?_ | refine T_cond_t rfl ?_ | refine T_cond_f rfl ?_ | ((first | refine T_cond rfl (fun hc => ?_) (fun hc => ?_) | refine wguard_split (fun hc => ?_) (fun hc => ?_)) <;> have hd := hc <;> (try simp (disch := omega) only [wrapI] at hd) <;> have hs := hd <;> (try simp only [decide_eq_true_eq, decide_eq_false_iff_not, Bool.not_true, Bool.not_false, gt_iff_lt, Int.not_lt, Int.not_le] at hd) <;> (try simp at hs)) | refine T_ret ?_ | refine leave_of (.inr rfl) _ rfl ?_ | refine leave_of (.inl rfl) _ rfl ?_ | refine leaveA_of (.inr rfl) _ rfl ?_ | refine leaveA_of (.inl rfl) _ rfl ?_ | refine wif_intro ?_ (fun hc => ?_) | refine And.intro ?_ ?_ | intro hc) | simp (maxSteps := 4000000) only [wops_nil, wops_cons, wstep_none, wstep_some, wguard_true, wguard_ff, wguard_tf, wguard_ft, wguard_undef, wrun_mv, wrun_pick, wrun_bin, wrun_load, wrun_faddr, wrun_iaddrS, wrun_len, wrun_lenS, get_mk, wop, aop, ev, look, put_some, writes, ores_some, ores_ite_none, ores_map, ores_bind, binV, thenK, blockK, intV, lenOf, value, cut, hget, mkAgg, tupOf, List.length_cons, List.length_nil, List.take_succ_cons, List.take_zero, List.drop_succ_cons, List.drop_zero, List.append_nil, List.replicate_zero, Option.pure_def, Option.bind_eq_bind, Option.map_some, if_true, if_false, Nat.reduceEqDiff, Nat.add_zero, Nat.zero_add, reduceCtorEq, Bool.not_true, Bool.false_eq_true, eq_self, true_and, and_true, and_self, decide_true, ren, Int.toNat_natCast, *] | simp (disch := omega) only [getD_ints, wrapI] | omega)
        all_goals first | rfl
    · have e1 : decide (((l.getD k ss0).mi.size : Int) > 30) = true := decide_eq_true (by omega)
      rw [hB.down k hkn (by rw [hS]; simp only [Bool.and_eq_false_iff, decide_eq_false_iff_not]; omega)]
      clear hI hB hG h1 hS
      unfold c28l0
      repeat' (first | (with_reducible first | refine T_seq ?_ | refine T_reg ?_ | refine T_skip ?_ | refine T_exit ?_ | refine T_block ?_ | refine T_cond_t rfl ?_ | refine T_cond_f rfl ?_ | ((first | refine T_cond rfl (fun hc => ?_) (fun hc => ?_) | refine wguard_split (fun hc => ?_) (fun hc => ?_)) <;> have hd := hc <;> (try simp (disch := omega) only [wrapI] at hd) <;> have hs := hd <;> (try simp only [decide_eq_true_eq, decide_eq_false_iff_not, Bool.not_true, Bool.not_false, gt_iff_lt, Int.not_lt, Int.not_le] at hd) <;> (try simp at hs)) | refine T_ret ?_ | refine leave_of (.inr rfl) _ rfl ?_ | refine leave_of (.inl rfl) _ rfl ?_ | refine leaveA_of (.inr rfl) _ rfl ?_ | refine leaveA_of (.inl rfl) _ rfl ?_ | refine wif_intro ?_ (fun hc => ?_) | refine And.intro ?_ ?_ | intro hc) | simp (maxSteps := 4000000) only [wops_nil, wops_cons, wstep_none, wstep_some, wguard_true, wguard_ff, wguard_tf, wguard_ft, wguard_undef, wrun_mv, wrun_pick, wrun_bin, wrun_load, wrun_faddr, wrun_iaddrS, wrun_len, wrun_lenS, get_mk, wop, aop, ev, look, put_some, writes, ores_some, ores_ite_none, ores_map, ores_bind, binV, thenK, blockK, intV, lenOf, value, cut, hget, mkAgg, tupOf, List.length_cons, List.length_nil, List.take_succ_cons, List.take_zero, List.drop_zero, List.append_nil, List.replicate_zero, Option.pure_def, Option.bind_eq_bind, Option.map_some, if_true, if_false, Nat.reduceEqDiff, Nat.add_zero, Nat.zero_add, reduceCtorEq, Bool.not_true, Bool.false_eq_true, eq_self, true_and, and_true, and_self, decide_true, ren, Int.toNat_natCast, *] | simp (disch := omega) only [getD_ints, wrapI] | omega)
      all_goals first | rfl
  · have hke : k = l.length := by omega
    subst hke
    have hg := hG.down hI
    rw [hg]
    clear hI hB hG hg
    unfold c28l0
    repeat' (first | (with_reducible first | refine T_seq ?_ | refine T_reg ?_ | refine T_skip ?_ | refine T_exit ?_ | refine T_block ?_ | refine T_cond_t rfl ?_ | refine T_cond_f rfl ?_ | ((first | refine T_cond rfl (fun hc => ?_) (fun hc => ?_) | refine wguard_split (fun hc => ?_) (fun hc => ?_)) <;> have hd := hc <;> (try simp (disch := omega) only [wrapI] at hd) <;> have hs := hd <;> (try simp only [decide_eq_true_eq, decide_eq_false_iff_not, Bool.not_true, Bool.not_false, gt_iff_lt, Int.not_lt, Int.not_le] at hd) <;> (try simp at hs)) | refine T_ret ?_ | refine leave_of (.inr rfl) _ rfl ?_ | refine leave_of (.inl rfl) _ rfl ?_ | refine leaveA_of (.inr rfl) _ rfl ?_ | refine leaveA_of (.inl rfl) _ rfl ?_ | refine wif_intro ?_ (fun hc => ?_) | refine And.intro ?_ ?_ | intro hc) | simp (maxSteps := 4000000) only [wops_nil, wops_cons, wstep_none, wstep_some, wguard_true, wguard_ff, wguard_tf, wguard_ft, wguard_undef, wrun_mv, wrun_pick, wrun_bin, wrun_len, get_mk, wop, aop, ev, look, put_some, writes, ores_some, ores_map, ores_bind, binV, thenK, blockK, intV, lenOf, hget, tupOf, List.length_nil, List.append_nil, List.replicate_zero, Option.pure_def, Option.bind_eq_bind, Option.map_some, if_true, if_false, Nat.reduceEqDiff, reduceCtorEq, Bool.not_true, Bool.false_eq_true, eq_self, false_and, decide_true, ren, *] | simp (disch := omega) only [getD_ints, wrapI] | omega)
    all_goals first | rfl | (refine congrArg bl ?_; rw [Bool.eq_iff_iff]; simp; omega)
set_option maxHeartbeats 8000000 in
theorem k30 (nil : Bool) (l : List Ss) (hl : l.length < 1000000) : Fn Try.prog 30 [sss nil l] (.lsl 0 0 l.length) [.cells true false 3 (ssR l)] := by
  refine fn_of e30 ?_
  have hll := ssR_len l
  unfold c30
  repeat' (first | (with_reducible first | refine T_seq ?_ | refine T_reg ?_ | refine T_skip ?_ | refine T_exit ?_ | refine T_block ?_ | refine T_cond_t rfl ?_ | refine T_cond_f rfl ?_ | refine T_ret ?_ | refine leave_ids (.inr rfl) _ [1] rfl (by simp) (by simp) ?_ | refine leave_ids (.inl rfl) _ [1] rfl (by simp) (by simp) ?_ | refine leaveA_of (.inr rfl) _ rfl ?_ | refine leaveA_of (.inl rfl) _ rfl ?_ | refine wif_intro ?_ (fun hc => ?_) | refine And.intro ?_ ?_ | intro hc) | simp (maxSteps := 4000000) only [wops_nil, wops_cons, wstep_none, wrun_mv, wrun_bslice, wrun_app, get_mk, wop, aop, ev, look, put_some, writes, ores_some, ores_ite_none, thenK, elsOf, szOk, hget, fillA, tupOf, List.flatten_nil, rowsOf, List.map_cons, List.map_nil, List.length_nil, List.getElem?_cons_zero, List.getElem?_cons_succ, List.set_cons_zero, List.set_cons_succ, List.take_nil, List.drop_nil, List.nil_append, List.append_nil, List.replicate_zero, List.replicate_succ, List.zipIdx_cons, List.zipIdx_nil, Option.getD_some, Option.map_some, Option.map_none, if_true, if_false, Nat.reduceEqDiff, Nat.add_zero, Nat.zero_add, Nat.sub_self, Nat.le_refl, reduceCtorEq, Bool.false_and, Bool.or_true, eq_self, true_and, beq_self_eq_true, ren, renB, renO, keepρ, pos, Nat.not_lt_zero, renR_ss, *] | simp (disch := omega) only [getD_ints, wrapI] | omega)
  all_goals first | rfl
end Go.Abs
