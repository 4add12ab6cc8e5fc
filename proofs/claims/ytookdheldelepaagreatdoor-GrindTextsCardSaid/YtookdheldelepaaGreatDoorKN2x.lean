import Derived.Test.YtookdheldelepaaGreatDoorAbsK
set_option linter.all false
set_option linter.unusedVariables false
set_option linter.unusedSimpArgs false
set_option linter.unusedSectionVars false
namespace Go.Abs
open Go.Proofs
theorem itoa_dhd {n : Int} (h : n ≠ 0) : Lib.itoa n = if n < 0 then 45 :: dhd n else dhd n := by
  unfold Lib.itoa dhd
  rw [if_neg h]
  split
  · rfl
  · rw [show n.toNat = n.natAbs by omega]
theorem ba_ext {a b : ByteArray} (h : a.data.toList = b.data.toList) : a = b := ByteArray.ext (Array.toList_inj.1 h)
theorem ba_app (a b : ByteArray) : (a ++ b).data.toList = a.data.toList ++ b.data.toList := by simp
theorem ba_len (a : ByteArray) : a.data.toList.length = a.size := by rw [Array.length_toList]; rfl
def I38 (n : Int) (c : Nat) (st : St) : Prop := ∃ (m : Int) (t : ByteArray), c = m.natAbs ∧ dhd n = dhd m ++ t.data.toList ∧ okI m ∧ (m ≠ 0 → (m < 0 ↔ n < 0)) ∧ t.size ≤ 21 ∧ st = ⟨[(0, i64 n), (3, strV t), (4, i64 m)], []⟩
set_option maxHeartbeats 8000000 in
theorem k49 {n : Int} (hn : okI n) : Fn Tryz.prog 49 [i64 n] (strV (itoaB n)) [] := by
  refine fn_of e49 ?_
  by_cases h0 : n = 0
  · subst h0
    have e : itoaB 0 = ⟨#[48]⟩ := by
      refine ba_ext ?_
      show Lib.itoa 0 = [48]
      unfold Lib.itoa
      rw [if_neg (by decide), show (0 : Int).toNat = 0 from rfl, Lib.decDigits_one (by decide)]
      rfl
    rw [e]
    unfold c49
    repeat' (first | (with_reducible first | refine T_seq ?_ | refine T_reg ?_ | refine T_skip ?_ | refine T_exit ?_ | refine T_block ?_ | refine T_cond_t rfl ?_ | refine T_cond_f rfl ?_ | refine T_ret ?_ | refine leave_of (.inr rfl) _ rfl ?_ | refine leave_of (.inl rfl) _ rfl ?_ | refine wif_intro ?_ (fun hc => ?_) | refine And.intro ?_ ?_ | intro hc) | simp (maxSteps := 4000000) only [wops_nil, wops_cons, wstep_none, wrun_mv, wrun_bin, get_mk, wop, aop, ev, look, put_some, writes, ores_some, binV, thenK, tupOf, List.map_cons, List.map_nil, List.length_nil, List.append_nil, List.replicate_zero, List.zipIdx_cons, List.zipIdx_nil, Option.map_some, if_true, if_false, Nat.reduceEqDiff, Nat.zero_add, reduceCtorEq, eq_self, beq_self_eq_true, ren, *] | simp (disch := omega) only [getD_ints, wrapI] | omega)
  · have hres : ∀ t : ByteArray, dhd n = t.data.toList → itoaB n = if n < 0 then (⟨#[45]⟩ : ByteArray) ++ t else t := fun t ht => by
      refine ba_ext ?_
      show Lib.itoa n = _
      rw [itoa_dhd h0, ht]
      split
      · rw [ba_app]; rfl
      · rfl
    have hlen : (dhd n).length ≤ 21 := (dhd_len (m := n)).resolve_right (fun h => h hn)
    generalize itoaB n = R at *
    replace hres := PLift.up hres
    have hn' := hn
    replace hn := PLift.up hn
    unfold okI at hn'
    unfold c49
    repeat' (first | (with_reducible first | refine T_seq ?_ | refine T_reg ?_ | refine T_skip ?_ | refine T_exit ?_ | refine T_block ?_ | refine T_cond_t rfl ?_ | refine T_cond_f rfl ?_ | ((first | refine T_cond rfl (fun hc => ?_) (fun hc => ?_) | refine wguard_split (fun hc => ?_) (fun hc => ?_)) <;> have hd := hc <;> (try simp (disch := omega) only [wrapI] at hd) <;> have hs := hd <;> (try simp only [beq_iff_eq, beq_eq_false_iff_ne, ne_eq] at hd) <;> (try simp at hs)) | refine T_ret ?_ | refine leave_of (.inr rfl) _ rfl ?_ | refine leave_of (.inl rfl) _ rfl ?_ | refine wif_intro ?_ (fun hc => ?_) | refine And.intro ?_ ?_ | intro hc) | simp (maxSteps := 4000000) only [wops_nil, wops_cons, wstep_none, wrun_mv, wrun_bin, get_mk, wop, aop, ev, look, put_some, writes, ores_some, binV, thenK, tupOf, List.map_cons, List.map_nil, List.length_nil, List.append_nil, List.replicate_zero, List.zipIdx_cons, List.zipIdx_nil, Option.map_some, if_true, if_false, Nat.reduceEqDiff, Nat.zero_add, reduceCtorEq, eq_self, beq_self_eq_true, ren, *] | simp (disch := omega) only [getD_ints, wrapI] | omega)
    refine T_loop_keep [0, 3, 4] (I38 n) n.natAbs ⟨[], by simp, by simp, by simp, n, ⟨#[]⟩, rfl, by simp, hn.down, fun _ => Iff.rfl, by decide, ?_⟩ ?_
    · simp [St.keep, get_mk, look, ren, renB, hget]
    rintro c st ⟨m, t, rfl, hd1, hm, hsg, ht, rfl⟩
    have hmm := hm
    unfold okI at hmm
    by_cases hm0 : m = 0
    · subst hm0
      have hR := hres.down t (by rw [hd1]; rfl)
      clear hres hd1 hsg hm
      unfold c49l0
      by_cases hneg : n < 0
      · rw [if_pos hneg] at hR
        subst hR
        have hif : ¬ (((ByteArray.mk #[45]).size + t.size : Nat) : Int) > 9223372036854775807 := by rw [size_strlit]; omega
        repeat' (first | (with_reducible first | refine T_seq ?_ | refine T_reg ?_ | refine T_skip ?_ | refine T_exit ?_ | refine T_block ?_ | refine T_cond_t rfl ?_ | refine T_cond_f rfl ?_ | refine T_ret ?_ | refine leave_of (.inr rfl) _ rfl ?_ | refine leave_of (.inl rfl) _ rfl ?_ | refine wif_intro ?_ (fun hc => ?_) | refine And.intro ?_ ?_ | intro hc) | simp (maxSteps := 4000000) only [wops_nil, wops_cons, wstep_none, wrun_mv, wrun_bin, get_mk, wop, aop, ev, look, put_some, writes, ores_some, binV, thenK, blockK, tupOf, List.length_nil, List.append_nil, List.replicate_zero, Option.map_some, if_true, if_false, Nat.reduceEqDiff, reduceCtorEq, eq_self, decide_true, ren, i64max, *] | simp (disch := omega) only [getD_ints, wrapI] | omega)
      · rw [if_neg hneg] at hR
        subst hR
        repeat' (first | (with_reducible first | refine T_seq ?_ | refine T_reg ?_ | refine T_skip ?_ | refine T_exit ?_ | refine T_block ?_ | refine T_cond_t rfl ?_ | refine T_cond_f rfl ?_ | refine T_ret ?_ | refine leave_of (.inr rfl) _ rfl ?_ | refine leave_of (.inl rfl) _ rfl ?_ | refine wif_intro ?_ (fun hc => ?_) | refine And.intro ?_ ?_ | intro hc) | simp (maxSteps := 4000000) only [wops_nil, wops_cons, wstep_none, wrun_mv, wrun_bin, get_mk, wop, aop, ev, look, put_some, writes, ores_some, binV, thenK, blockK, tupOf, List.length_nil, List.append_nil, List.replicate_zero, Option.map_some, if_true, if_false, Nat.reduceEqDiff, reduceCtorEq, eq_self, decide_false, ren, *] | simp (disch := omega) only [getD_ints, wrapI] | omega)
    · have hab : (m.tmod 10).natAbs = m.natAbs % 10 := by rw [Int.natAbs_tmod]; rfl
      have h74 := k74 (m.tmod 10) (by omega)
      rw [hab] at h74
      have hq : (m.tdiv 10).natAbs = m.natAbs / 10 := by rw [Int.natAbs_tdiv]; rfl
      have hqb : -9223372036854775808 ≤ m.tdiv 10 ∧ m.tdiv 10 ≤ 9223372036854775807 := by omega
      have hst : I38 n (m.tdiv 10).natAbs ⟨[(0, i64 n), (3, strV (digB m.natAbs ++ t)), (4, i64 (m.tdiv 10))], []⟩ := by
        refine ⟨m.tdiv 10, digB m.natAbs ++ t, rfl, ?_, hqb, fun _ => ?_, ?_, rfl⟩
        · rw [ba_app, ← List.append_assoc, ← dhd_step hm0]; exact hd1
        · rw [← hsg hm0]
          have s1 : 0 ≤ m → 0 ≤ m.tdiv 10 := fun h => Int.tdiv_nonneg h (by omega)
          have s2 : m ≤ 0 → m.tdiv 10 ≤ 0 := fun h => by
            have := Int.tdiv_nonneg (a := -m) (b := 10) (by omega) (by omega)
            rw [Int.neg_tdiv] at this; omega
          omega
        · rw [hd1, dhd_step hm0] at hlen
          rw [← ba_len, ba_app]
          simp only [List.length_append] at hlen ⊢
          omega
      have hdg : (⟨#[UInt8.ofNat (IntKind.u8.wrap (48 + ((m.natAbs % 10 : Nat) : Int))).toNat]⟩ : ByteArray) = digB m.natAbs := by
        rw [wrap8 (by omega) (by omega)]
        unfold digB
        rw [show (48 + ((m.natAbs % 10 : Nat) : Int)).toNat = 48 + m.natAbs % 10 by omega]
      have hif : ¬ (((digB m.natAbs).size + t.size : Nat) : Int) > 9223372036854775807 := by
        rw [show (digB m.natAbs).size = 1 from rfl]; omega
      have hd9 : 0 ≤ ((m.natAbs % 10 : Nat) : Int) ∧ ((m.natAbs % 10 : Nat) : Int) ≤ 9 := by omega
      have hds : (digB m.natAbs).size = 1 := rfl
      have hlt : (m.tdiv 10).natAbs < m.natAbs := by omega
      replace hst := PLift.up hst
      clear hres hd1 hsg hm hlen hq
      generalize hx : ((m.natAbs % 10 : Nat) : Int) = d at *
      generalize digB m.natAbs = D at *
      unfold c49l0
      repeat' (first | (with_reducible first | refine T_seq ?_ | refine T_reg ?_ | refine T_skip ?_ | refine T_exit ?_ | refine T_block ?_ | refine T_cond_t rfl ?_ | refine T_cond_f rfl ?_ | (show wcall _ false (.lit (.func (.func 74) _ _)) _ _ _ _; refine wcall_fn (h74) rfl (by simp [plainL, plain]) ?_) | ((first | refine T_cond rfl (fun hc => ?_) (fun hc => ?_) | refine wguard_split (fun hc => ?_) (fun hc => ?_)) <;> have hd := hc <;> (try simp (disch := omega) only [wrapI] at hd) <;> have hs := hd <;> (try simp only [decide_eq_true_eq, decide_eq_false_iff_not, bne_iff_ne, bne_eq_false_iff_eq, Int.not_lt, ne_eq] at hd) <;> (try simp at hs)) | refine T_ret ?_ | refine leave_of (.inr rfl) _ rfl ?_ | refine leave_of (.inl rfl) _ rfl ?_ | refine wif_intro ?_ (fun hc => ?_) | refine And.intro ?_ ?_ | intro hc) | simp (maxSteps := 4000000) only [wops_nil, wops_cons, wstep_none, wrun_call, wrun_mv, wrun_bin, wrun_cvInt, wrun_cvS, wrun_bslice, get_mk, wop, aop, ev, look, put_some, writes, ores_some, ores_none_ite, ores_map, binV, thenK, blockK, elsOf, hget, fillA, putCells, AV.parts, isOne, tupOf, List.flatten_cons, List.flatten_nil, rowsOf, List.map_cons, List.map_nil, List.length_cons, List.length_nil, List.getElem?_cons_zero, List.set_cons_zero, List.take_succ_cons, List.take_zero, List.take_nil, List.drop_succ_cons, List.drop_zero, List.drop_nil, List.nil_append, List.append_nil, List.replicate_zero, List.replicate_succ, List.all_cons, List.all_nil, Option.getD_some, Option.map_some, if_true, if_false, Nat.reduceEqDiff, Nat.reduceLeDiff, Nat.add_zero, Nat.zero_add, Nat.sub_zero, Nat.mul_one, Nat.le_refl, reduceCtorEq, Bool.and_true, eq_self, true_and, and_self, not_false_eq_true, decide_true, ne_eq, freeze, lidsL, lids, List.flatMap_cons, List.flatMap_nil, List.all_cons, ren, i64max, bytesA, *] | simp (disch := omega) only [wrapI] | (with_reducible show wcall _ false (.lit (.func (.func 74) _ _)) _ _ _ _; refine wcall_fn (h74) ?_ ?_ ?_; (next => simp [rfyL, rfy, hget, ints, take_rfy, i64max, bytesA, hdg]); (next => simp [plainL, plain, plainR, i64max, bytesA, hdg])) | omega)
      all_goals first | exact ⟨_, hlt, [], by simp, by simp, by simpa [St.keep, get_mk, look, ren, renL, renR, renB, renO, keepρ, pos, hget] using hst.down⟩
end Go.Abs
