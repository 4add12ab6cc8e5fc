import Derived.Test.YtodheeifecoebaaK98r
import Derived.Test.YtodheeifecoebaaK99
set_option linter.all false
set_option linter.unusedVariables false
set_option linter.unusedSimpArgs false
set_option linter.unusedSectionVars false
namespace Go.Abs
open Go.Proofs
set_option maxHeartbeats 8000000 in
theorem k49e {zi : Int} {nil : Bool} {l : List Rd} (hl : l.length < 1000000) (h : checkR zi l ≠ 0) : Fn Try.prog 49 [i64 zi, rdgs nil l] (.tup [.sl true 0 [], i64 (checkR zi l)]) [] := by
  refine fn_of e49 ?_
  have h29 := k29 zi nil l hl
  unfold c49
  repeat' (first
    | with_reducible first
      | refine T_seq ?_
      | refine T_reg ?_
      | refine T_skip ?_
      | refine T_exit ?_
      | refine T_block ?_
      | refine T_cond_t rfl ?_
      | refine T_cond_f rfl ?_
      | (show wcall _ false (.lit (.func (.func 29) _ _)) _ _ _ _; refine wcall_fn (h29) rfl (by simp [plainL, plain]) ?_)
      | ((first | refine T_cond rfl (fun hc => ?_) (fun hc => ?_) | refine wguard_split (fun hc => ?_) (fun hc => ?_)) <;> have hd := hc <;> (try simp (disch := omega) only [wrapI] at hd) <;> have hs := hd <;> (try simp only [bne_iff_ne, bne_eq_false_iff_eq, ne_eq] at hd) <;> (try simp at hs))
      | refine T_ret ?_
      | refine leave_of (.inr rfl) _ rfl ?_
      | refine leave_of (.inl rfl) _ rfl ?_
      | refine leaveA_of (.inr rfl) _ rfl ?_
      | refine leaveA_of (.inl rfl) _ rfl ?_
      | refine wif_intro ?_ (fun hc => ?_)
      | refine And.intro ?_ ?_
      | intro hc
    | simp (maxSteps := 4000000) only [wops_nil, wops_cons, wstep_none, wrun_call, wrun_mv, wrun_bin, get_mk, wop, aop, ev, look, put_some, writes, ores_some, binV, thenK, tupOf, List.map_cons, List.map_nil, List.length_nil, List.append_nil, List.replicate_zero, List.zipIdx_cons, List.zipIdx_nil, Option.map_some, if_true, if_false, Nat.reduceEqDiff, Nat.reduceAdd, Nat.zero_add, Nat.zero_ne_one, reduceCtorEq, eq_self, freeze, lidsL, lids, List.flatMap_cons, List.flatMap_nil, ren, renL, renR, *]
    | simp (disch := omega) only [getD_ints, wrapI]
    | (with_reducible show wcall _ false (.lit (.func (.func 29) _ _)) _ _ _ _; refine wcall_fn (h29) ?_ ?_ ?_; (next => simp [rfyL, rfy, hget, ints, take_rfy]); (next => simp [plainL, plain, plainR]))
    | omega)
set_option maxHeartbeats 8000000 in
theorem k49c {z : Nat} {nil : Bool} {l : List Rd} (h : checkR z l = 0) (hcyc : ∀ r, r ≤ z → 0 ≤ (rnds (arcsL l l.length) z (r + 1)).at_) : Fn Try.prog 49 [i64 z, rdgs nil l] (.tup [.sl true 0 [], i64 13]) [] := by
  refine fn_of e49 ?_
  obtain ⟨hz2, hl, hrd⟩ := checkR_ok h
  have h29 := k29 z nil l (by omega)
  rw [h] at h29
  have h70 := (k70 (nil := nil) h).2 hcyc
  clear hcyc hrd
  unfold c49
  repeat' (first
    | with_reducible first
      | refine T_seq ?_
      | refine T_reg ?_
      | refine T_skip ?_
      | refine T_exit ?_
      | refine T_block ?_
      | refine T_cond_t rfl ?_
      | refine T_cond_f rfl ?_
      | (show wcall _ false (.lit (.func (.func 29) _ _)) _ _ _ _; refine wcall_fn (h29) rfl (by simp [plainL, plain]) ?_)
      | (show wcall _ false (.lit (.func (.func 70) _ _)) _ _ _ _; refine wcall_fn (h70) rfl (by simp [plainL, plain]) ?_)
      | ((first | refine T_cond rfl (fun hc => ?_) (fun hc => ?_) | refine wguard_split (fun hc => ?_) (fun hc => ?_)) <;> have hd := hc <;> (try simp (disch := omega) only [wrapI] at hd) <;> have hs := hd <;> (try simp only [Bool.not_eq_true', Bool.not_eq_false', Bool.and_eq_true, Bool.and_eq_false_iff, Bool.or_eq_true, Bool.or_eq_false_iff, decide_eq_true_eq, decide_eq_false_iff_not, beq_iff_eq, bne_iff_ne, beq_eq_false_iff_ne, bne_eq_false_iff_eq, Bool.not_true, Bool.not_false, gt_iff_lt, ge_iff_le, Int.not_lt, Int.not_le, ne_eq, Decidable.not_not] at hd) <;> (try simp at hs))
      | refine T_ret ?_
      | refine leave_of (.inr rfl) _ rfl ?_
      | refine leave_of (.inl rfl) _ rfl ?_
      | refine leaveA_of (.inr rfl) _ rfl ?_
      | refine leaveA_of (.inl rfl) _ rfl ?_
      | refine wif_intro ?_ (fun hc => ?_)
      | refine And.intro ?_ ?_
      | intro hc
    | simp (maxSteps := 4000000) only [wops_nil, wops_cons, wstep_none, wrun_call, wrun_mv, wrun_bin, wrun_not, wrun_ext, get_mk, wop, aop, ev, look, put_some, writes, ores_some, binV, thenK, boolV, tupOf, List.map_cons, List.map_nil, List.length_nil, List.getElem?_cons_zero, List.getElem?_cons_succ, List.append_nil, List.replicate_zero, List.zipIdx_cons, List.zipIdx_nil, Option.map_some, if_true, if_false, Nat.reduceEqDiff, Nat.reduceAdd, Nat.zero_add, Nat.zero_ne_one, reduceCtorEq, Bool.not_false, eq_self, freeze, lidsL, lids, List.flatMap_cons, List.flatMap_nil, ren, renL, renR, *]
    | simp (disch := omega) only [getD_ints, wrapI]
    | (with_reducible show wcall _ false (.lit (.func (.func 29) _ _)) _ _ _ _; refine wcall_fn (h29) ?_ ?_ ?_; (next => simp [rfyL, rfy, hget, ints, take_rfy]); (next => simp [plainL, plain, plainR]))
    | (with_reducible show wcall _ false (.lit (.func (.func 70) _ _)) _ _ _ _; refine wcall_fn (h70) ?_ ?_ ?_; (next => simp [rfyL, rfy, hget, ints, take_rfy]); (next => simp [plainL, plain, plainR]))
    | omega)
set_option maxHeartbeats 8000000 in
theorem k49n {z : Nat} {nil : Bool} {l : List Rd} (h : checkR z l = 0) (hnil : ∃ r, r ≤ z ∧ (rnds (arcsL l l.length) z (r + 1)).at_ < 0) :
    (((tabM (arcsL l l.length) z).getD 0 []).any isFar = true → Fn Try.prog 49 [i64 z, rdgs nil l] (.tup [.sl true 0 [], i64 25]) []) ∧
    (((tabM (arcsL l l.length) z).getD 0 []).any isFar = false → Fn Try.prog 49 [i64 z, rdgs nil l] (.tup [.lsl 0 0 z, i64 0]) (tabB (toR (tabM (arcsL l l.length) z)) z)) := by
  obtain ⟨hz2, hl, hrd⟩ := checkR_ok h
  obtain ⟨hA, hN, hok⟩ := arcs_ok hrd
  have hn : (arcsL l l.length).length ≤ 200 := by have := arcsL_len l l.length; omega
  have h29 := k29 z nil l (by omega)
  rw [h] at h29
  have h70 := (k70 (nil := nil) h).1 hnil
  obtain ⟨P, hP1, hP2⟩ := rest_bound hA hn hnil (by omega)
  have hS := tab_stt hA hN (by omega) hP1 hP2
  have hbd := fun j (hj : j < z) => hS.bd hA (Nat.le_refl _) (by omega) (i := 0) (j := j) (by omega) hj
  have hM := hS.sq
  generalize tabM (arcsL l l.length) z = M at *
  have hfar : far = 1099511627776 := rfl
  have hD := toR_sq hM
  have hget0 := fun j (hj : j < z) => toR_get hM (i := 0) (j := j) (by omega) hj
  have hlt := leave_tabQ2 (z := z) hD
  have hT := tabB_is (z := z) (M := toR M) hD.hl
  obtain ⟨⟨w, ht⟩, hr⟩ := hT
  obtain ⟨w0, hr0⟩ := hr 0 (by omega)
  have hz1 : 1 ≤ z ∧ z ≤ 40 := by omega
  clear hr hnil hP1 hP2 hS hA hN hok hrd
  have hanyT : ∀ j, j < z → mget M 0 j = far → (M.getD 0 []).any isFar = true := fun j hj hf => by
    have hj2 : j < (M.getD 0 []).length := by rw [hM.hr 0 (by omega)]; exact hj
    rw [List.any_eq_true]
    refine ⟨mget M 0 j, ?_, by unfold isFar; rw [hf]; rfl⟩
    unfold mget
    rw [List.getD_eq_getElem?_getD (l := M.getD 0 []), List.getElem?_eq_getElem hj2]
    exact List.getElem_mem hj2
  have hanyF : (∀ j, j < z → mget M 0 j ≠ far) → (M.getD 0 []).any isFar = false := fun hall => by
    rw [List.any_eq_false]
    intro x hx
    obtain ⟨j, hj, rfl⟩ := List.getElem_of_mem hx
    have hjz : j < z := by rw [hM.hr 0 (by omega)] at hj; exact hj
    have := hall j hjz
    unfold mget at this
    rw [List.getD_eq_getElem?_getD (l := M.getD 0 []), List.getElem?_eq_getElem hj] at this
    simpa [isFar] using this
  have key : ∀ (R : AV) (new : List Blk), ((M.getD 0 []).any isFar = false → R = .tup [.lsl 0 0 z, i64 0] ∧ new = tabB (toR M) z) → ((M.getD 0 []).any isFar = true → R = .tup [.sl true 0 [], i64 25] ∧ new = []) → Fn Try.prog 49 [i64 z, rdgs nil l] R new := by
    intro R new hyes hno
    refine fn_of e49 ?_
    replace hyes := And.intro hyes trivial
    replace hno := And.intro hno trivial
    replace hanyT := And.intro hanyT trivial
    replace hanyF := And.intro hanyF trivial
    replace hget0 := And.intro hget0 trivial
    replace hbd := And.intro hbd trivial
    have hlt0 := And.intro hlt trivial
    clear hlt
    have hrow0 := hD.hr 0 (by omega)
    unfold c49
    repeat' (first
      | with_reducible first
        | refine T_seq ?_
        | refine T_reg ?_
        | refine T_skip ?_
        | refine T_exit ?_
        | refine T_block ?_
        | refine T_cond_t rfl ?_
        | refine T_cond_f rfl ?_
        | (show wcall _ false (.lit (.func (.func 29) _ _)) _ _ _ _; refine wcall_fn (h29) rfl (by simp [plainL, plain]) ?_)
        | (show wcall _ false (.lit (.func (.func 70) _ _)) _ _ _ _; refine wcall_fn (h70) rfl (by simp [plainL, plain]) ?_)
        | ((first | refine T_cond rfl (fun hc => ?_) (fun hc => ?_) | refine wguard_split (fun hc => ?_) (fun hc => ?_)) <;> have hd := hc <;> (try simp (disch := omega) only [wrapI] at hd) <;> have hs := hd <;> (try simp only [Bool.not_eq_true', Bool.not_eq_false', Bool.and_eq_true, Bool.and_eq_false_iff, Bool.or_eq_true, Bool.or_eq_false_iff, decide_eq_true_eq, decide_eq_false_iff_not, beq_iff_eq, bne_iff_ne, beq_eq_false_iff_ne, bne_eq_false_iff_eq, Bool.not_true, Bool.not_false, gt_iff_lt, ge_iff_le, Int.not_lt, Int.not_le, ne_eq, Decidable.not_not] at hd) <;> (try simp at hs))
        | refine T_ret ?_
        | refine leave_of (.inr rfl) _ rfl ?_
        | refine leave_of (.inl rfl) _ rfl ?_
        | refine leaveA_of (.inr rfl) _ rfl ?_
        | refine leaveA_of (.inl rfl) _ rfl ?_
        | refine wif_intro ?_ (fun hc => ?_)
        | refine And.intro ?_ ?_
        | intro hc
      | simp (maxSteps := 4000000) only [wops_nil, wops_cons, wstep_none, wrun_call, wrun_mv, wrun_bin, wrun_not, wrun_ext, wop, aop, ev, look, put_some, writes, ores_some, binV, thenK, boolV, List.map_cons, List.map_nil, List.length_nil, List.getElem?_cons_zero, List.getElem?_cons_succ, List.nil_append, List.append_nil, List.replicate_zero, List.zipIdx_cons, List.zipIdx_nil, Option.map_some, if_true, if_false, Nat.reduceEqDiff, Nat.reduceAdd, Nat.add_zero, Nat.zero_add, Nat.zero_ne_one, reduceCtorEq, Bool.not_true, eq_self, freeze, lidsL, lids, List.flatMap_cons, List.flatMap_nil, ren, renL, shiftρ, tab_ren, *]
      | simp (disch := omega) only [getD_ints, wrapI]
      | (with_reducible show wcall _ false (.lit (.func (.func 29) _ _)) _ _ _ _; refine wcall_fn (h29) ?_ ?_ ?_; (next => simp [rfyL, rfy, hget, ints, take_rfy, tab_ren]); (next => simp [plainL, plain, plainR, tab_ren]))
      | (with_reducible show wcall _ false (.lit (.func (.func 70) _ _)) _ _ _ _; refine wcall_fn (h70) ?_ ?_ ?_; (next => simp [rfyL, rfy, hget, ints, take_rfy, tab_ren]); (next => simp [plainL, plain, plainR, tab_ren]))
      | omega)
    refine T_for [0, 7, 9] (fun b => ⟨[(0, i64 z), (7, .lsl 0 0 z), (9, i64 b)], tabB (toR M) z⟩) z (fun b => ∀ j, j < b → mget M 0 j ≠ far) 0 rfl (fun j hj => by omega) (Nat.zero_le _) ?_
    intro b hb hI
    replace hI : id (∀ j, j < b → mget M 0 j ≠ far) := hI
    unfold c49l0
    by_cases hbz : b < z
    · have hv := hget0.1 b hbz
      have hx := hbd.1 b hbz
      have e00 : Int.toNat 0 = 0 := rfl
      have htr : ((List.range z).map fun i => [AV.lsl (1 + i) 0 z]).getD 0 [] = [AV.lsl (1 + 0) 0 z] := by
        have h0 : 0 < z := by omega
        simp [List.getD, h0]
      have g1 : (((toR M).getD 0 []).map fun x => [i64 x]).getD b [] = [i64 (rv (mget M 0 b))] := by rw [← hv]; exact getD_ints (by omega)
      have hr1 : (tabB (toR M) z)[1]? = some (.cells w0 false 1 (((toR M).getD 0 []).map fun x => [i64 x])) := hr0
      by_cases hf : mget M 0 b = far
      · have hd : decide (rv (mget M 0 b) ≥ 1000000000000) = true := by unfold rv; rw [if_neg (by omega)]; rfl
        obtain ⟨rfl, rfl⟩ := hno.1 (hanyT.1 b hbz hf)
        clear hv hI
        repeat' (first
          | with_reducible first
            | refine T_seq ?_
            | refine T_reg ?_
            | refine T_skip ?_
            | refine T_exit ?_
            | refine T_block ?_
            | refine T_cond_t rfl ?_
            | refine T_cond_f rfl ?_
            | ((first | refine T_cond rfl (fun hc => ?_) (fun hc => ?_) | refine wguard_split (fun hc => ?_) (fun hc => ?_)) <;> have hd := hc <;> (try simp (disch := omega) only [wrapI] at hd) <;> have hs := hd <;> (try simp only [decide_eq_true_eq, decide_eq_false_iff_not, Int.not_lt] at hd) <;> (try simp at hs))
            | refine T_ret ?_
            | refine leave_of (.inr rfl) _ rfl ?_
            | refine leave_of (.inl rfl) _ rfl ?_
            | refine leaveA_of (.inr rfl) _ rfl ?_
            | refine leaveA_of (.inl rfl) _ rfl ?_
            | refine wif_intro ?_ (fun hc => ?_)
            | refine And.intro ?_ ?_
            | intro hc
          | simp (maxSteps := 4000000) only [wops_nil, wops_cons, wstep_none, wrun_mv, wrun_bin, wrun_load, wrun_iaddrS, get_mk, wop, aop, ev, look, put_some, writes, ores_some, ores_ite_none, binV, thenK, blockK, value, cut, hget, mkAgg, tupOf, List.length_cons, List.length_nil, List.take_succ_cons, List.take_nil, List.drop_zero, List.append_nil, List.replicate_zero, Option.getD_some, Option.map_some, Option.map_none, if_true, if_false, Nat.reduceEqDiff, Nat.add_zero, Nat.zero_add, reduceCtorEq, Bool.false_eq_true, eq_self, true_and, and_true, and_self, decide_true, ne_eq, ren, renL, renR, keepρ, pos, Nat.not_lt_zero, Int.toNat_natCast, *]
          | simp (disch := omega) only [getD_ints, wrapI]
          | omega)
      · have hd : decide (rv (mget M 0 b) ≥ 1000000000000) = false := by simp only [decide_eq_false_iff_not]; unfold rv; rw [if_pos (by omega)]; omega
        have hI2 : ∀ j, j < b + 1 → mget M 0 j ≠ far := fun j hj => by
          rcases Nat.lt_succ_iff_lt_or_eq.1 hj with h | h
          · exact hI j h
          · rw [h]; exact hf
        replace hI2 := And.intro hI2 trivial
        clear hv
        repeat' (first
          | with_reducible first
            | refine T_seq ?_
            | refine T_reg ?_
            | refine T_skip ?_
            | refine T_exit ?_
            | refine T_block ?_
            | refine T_cond_t rfl ?_
            | refine T_cond_f rfl ?_
            | ((first | refine T_cond rfl (fun hc => ?_) (fun hc => ?_) | refine wguard_split (fun hc => ?_) (fun hc => ?_)) <;> have hd := hc <;> (try simp (disch := omega) only [wrapI] at hd) <;> have hs := hd <;> (try simp only [decide_eq_true_eq, decide_eq_false_iff_not, Int.not_lt] at hd) <;> (try simp at hs))
            | refine T_ret ?_
            | refine leave_of (.inr rfl) _ rfl ?_
            | refine leave_of (.inl rfl) _ rfl ?_
            | refine leaveA_of (.inr rfl) _ rfl ?_
            | refine leaveA_of (.inl rfl) _ rfl ?_
            | refine wif_intro ?_ (fun hc => ?_)
            | refine And.intro ?_ ?_
            | intro hc
          | simp (maxSteps := 4000000) only [wops_nil, wops_cons, wstep_none, wrun_mv, wrun_bin, wrun_load, wrun_iaddrS, get_mk, wop, aop, ev, look, put_some, writes, ores_some, ores_ite_none, binV, thenK, blockK, value, cut, hget, mkAgg, tupOf, List.length_cons, List.length_nil, List.take_succ_cons, List.take_nil, List.drop_zero, List.append_nil, List.replicate_zero, Option.getD_some, Option.map_some, Option.map_none, if_true, if_false, Nat.reduceEqDiff, Nat.add_zero, Nat.zero_add, reduceCtorEq, Bool.false_eq_true, eq_self, true_and, and_true, and_self, not_false_eq_true, decide_true, ne_eq, ren, renL, keepρ, pos, Nat.not_lt_zero, Int.toNat_natCast, *]
          | simp (disch := omega) only [wrapI]
          | omega)
        all_goals first | exact rfl | exact hI2.1 _ (by assumption)
    · have hbe : b = z := by omega
      subst hbe
      obtain ⟨rfl, rfl⟩ := hyes.1 (hanyF.1 hI)
      clear hI
      repeat' (first
        | with_reducible first
          | refine T_seq ?_
          | refine T_reg ?_
          | refine T_skip ?_
          | refine T_exit ?_
          | refine T_block ?_
          | refine T_cond_t rfl ?_
          | refine T_cond_f rfl ?_
          | ((first | refine T_cond rfl (fun hc => ?_) (fun hc => ?_) | refine wguard_split (fun hc => ?_) (fun hc => ?_)) <;> have hd := hc <;> (try simp (disch := omega) only [wrapI] at hd) <;> have hs := hd <;> (try simp only [decide_eq_true_eq, decide_eq_false_iff_not, Int.not_lt] at hd) <;> (try simp at hs))
          | refine T_ret ?_
          | refine wif_intro ?_ (fun hc => ?_)
          | refine And.intro ?_ ?_
          | intro hc
        | simp (maxSteps := 4000000) only [wops_nil, wops_cons, wstep_none, wrun_mv, wrun_bin, wop, aop, ev, look, put_some, writes, ores_some, binV, thenK, blockK, List.append_nil, List.replicate_zero, Option.map_some, if_true, if_false, Nat.reduceEqDiff, reduceCtorEq, eq_self, false_and, ne_eq, *]
        | simp (disch := omega) only [getD_ints, wrapI]
        | omega)
  exact ⟨fun hw => key _ _ (fun h2 => by rw [hw] at h2; simp at h2) (fun _ => ⟨rfl, rfl⟩), fun hw => key _ _ (fun _ => ⟨rfl, rfl⟩) (fun h2 => by rw [hw] at h2; simp at h2)⟩
end Go.Abs
