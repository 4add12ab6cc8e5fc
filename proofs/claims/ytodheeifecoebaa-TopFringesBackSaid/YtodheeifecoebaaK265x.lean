import Derived.Test.YtodheeifecoebaaK264x
set_option linter.all false
set_option linter.unusedVariables false
set_option linter.unusedSimpArgs false
set_option linter.unusedSectionVars false
namespace Go.Abs
open Go.Proofs
/-! loop: the loop that two neighbours close -/
section
variable {n : Nat} {th : Nat → Bool} {ed : Nat → Nat → Bool} {st : Nat → Nat → Int} {o : List Nat} {h fr : Nat → Int} {X Y : List Nat}
/-- stripped so often -/
structure Stp (X Y : List Nat) (t : Nat) : Prop where
  hx : t < X.length
  hy : t < Y.length
  hc : X.getD (X.length - 1 - t) 0 = Y.getD (Y.length - 1 - t) 0
def StpEnd (X Y : List Nat) (t : Nat) : Prop := ¬(1 < X.length - t ∧ 1 < Y.length - t ∧ X.getD (X.length - t - 2) 0 = Y.getD (Y.length - t - 2) 0)
theorem lpL_eq {X Y : List Nat} {t : Nat} (hx : t < X.length) (hy : t < Y.length) :
    ((cz X).map fun x => [i64 x]).take (X.length - t) ++ ((mk Y.length fun j => if j < Y.length - t - 1 then (fun j => ((Y.getD j 0 : Nat) : Int)) (Y.length - t - 1 - 1 - j) else (fun j => ((Y.getD j 0 : Nat) : Int)) j).map fun x => [i64 x]).take (Y.length - t - 1) = (cz (lpL X Y t)).map fun x => [i64 x] := by
  have hll := lpL_len (X := X) (Y := Y) (t := t)
  rw [← List.map_take, ← List.map_take, ← List.map_append]
  congr 1
  refine List.ext_getElem (by simp [cz_len, mk_len, hll]; omega) fun i h1 h2 => ?_
  have hil : i < (lpL X Y t).length := by rw [cz_len] at h2; exact h2
  have e2 : (cz (lpL X Y t))[i] = ((lpL X Y t).getD i 0 : Nat) := by
    have := cz_get hil
    rw [List.getD_eq_getElem?_getD, List.getElem?_eq_getElem h2] at this
    exact this
  rw [e2]
  by_cases hix : i < X.length - t
  · rw [lpL_x hix, List.getElem_append_left (by simp [cz_len]; omega), List.getElem_take]
    have := cz_get (X := X) (j := i) (by omega)
    rw [List.getD_eq_getElem?_getD, List.getElem?_eq_getElem (by rw [cz_len]; omega)] at this
    exact this
  · obtain ⟨u, rfl⟩ : ∃ u, i = X.length - t + u := ⟨i - (X.length - t), by omega⟩
    have hu : u < Y.length - t - 1 := by omega
    rw [lpL_y (by omega) hu]
    have hl1 : (List.take (X.length - t) (cz X)).length = X.length - t := by simp [cz_len]
    rw [List.getElem_append_right (by omega)]
    simp only [hl1, Nat.add_sub_cancel_left, List.getElem_take]
    unfold mk
    simp only [List.getElem_map, List.getElem_range]
    rw [if_pos hu]
abbrev SL109 (ix iy : Nat) (X Y : List Nat) (t : Nat) : List (Nat × AV) := [(7, .lsl ix 0 (X.length - t)), (8, .lsl iy 0 (Y.length - t))]
set_option maxHeartbeats 8000000 in
theorem k109l {ix iy : Nat} {ox oy : Bool} {H : List Blk} (hlx : X.length ≤ 1000000) (hly : Y.length ≤ 1000000) (hix : H[ix]? = some (.cells ox false 1 ((cz X).map fun x => [i64 x]))) (hiy : H[iy]? = some (.cells oy false 1 ((cz Y).map fun x => [i64 x])))
    {B : Nat} (K : Exit → St → Prop) (t : Nat) (hS : Stp X Y t) (hend : StpEnd X Y t → ∀ σ : St, σ.heap = H → (σ.only [7, 8]).slots = SL109 ix iy X Y t → K (.exit 0) σ) :
    T none Try.prog muts 58 B c109l0 ⟨SL109 ix iy X Y t, H⟩ (thenK (fun s' => (t + 1 < X.length ∧ Stp X Y (t + 1)) ∧ s'.heap = H ∧ (s'.only [7, 8]).slots = SL109 ix iy X Y (t + 1)) K) := by
  obtain ⟨hx, hy, hc⟩ := hS
  have lx := (List.getElem?_eq_some_iff.1 hix).1
  have ly := (List.getElem?_eq_some_iff.1 hiy).1
  have gx : ∀ j, j < X.length → ((cz X).map fun x => [i64 x]).getD j [] = [i64 (X.getD j 0 : Nat)] := fun j hj => by rw [getD_ints (by rw [cz_len]; exact hj), cz_get hj]
  have gy : ∀ j, j < Y.length → ((cz Y).map fun x => [i64 x]).getD j [] = [i64 (Y.getD j 0 : Nat)] := fun j hj => by rw [getD_ints (by rw [cz_len]; exact hj), cz_get hj]
  have clx := cz_len X
  have cly := cz_len Y
  by_cases c1 : 1 < X.length - t
  · by_cases c2 : 1 < Y.length - t
    · have g1 := gx (X.length - t - 2) (by omega)
      have g2 := gy (Y.length - t - 2) (by omega)
      have hst : X.getD (X.length - t - 2) 0 = Y.getD (Y.length - t - 2) 0 → Stp X Y (t + 1) := fun e => ⟨by omega, by omega, by rw [show X.length - 1 - (t + 1) = X.length - t - 2 by omega, show Y.length - 1 - (t + 1) = Y.length - t - 2 by omega]; exact e⟩
      have hen : X.getD (X.length - t - 2) 0 ≠ Y.getD (Y.length - t - 2) 0 → StpEnd X Y t := fun e h => e h.2.2
      have gc1 : (cz X).getD (X.length - t - 2) 0 = (X.getD (X.length - t - 2) 0 : Nat) := cz_get (by omega)
      have gc2 : (cz Y).getD (Y.length - t - 2) 0 = (Y.getD (Y.length - t - 2) 0 : Nat) := cz_get (by omega)
      have ex : ((X.length - t : Nat) : Int) - 2 = ((X.length - t - 2 : Nat) : Int) := by omega
      have ey : ((Y.length - t : Nat) : Int) - 2 = ((Y.length - t - 2 : Nat) : Int) := by omega
      have ex1 : ((X.length - t : Nat) : Int) - 1 = ((X.length - (t + 1) : Nat) : Int) := by omega
      have ey1 : ((Y.length - t : Nat) : Int) - 1 = ((Y.length - (t + 1) : Nat) : Int) := by omega
      by_cases c3 : X.getD (X.length - t - 2) 0 = Y.getD (Y.length - t - 2) 0
      · have hst' := hst c3
        rw [c3] at g1 gc1
        clear hst hen hend gx gy hc c3
        have hp2 : X.length - t - 2 < X.length - t := by omega
        have hq2 : Y.length - t - 2 < Y.length - t := by omega
        have hpl : X.length - t - 2 < X.length := by omega
        have hql : Y.length - t - 2 < Y.length := by omega
        have hp3 : X.length - (t + 1) ≤ X.length - t := by omega
        have hq3 : Y.length - (t + 1) ≤ Y.length - t := by omega
        have hp4 : 0 ≤ ((X.length - (t + 1) : Nat) : Int) ∧ ((X.length - (t + 1) : Nat) : Int) ≤ ((X.length - t : Nat) : Int) := by omega
        have hq4 : 0 ≤ ((Y.length - (t + 1) : Nat) : Int) ∧ ((Y.length - (t + 1) : Nat) : Int) ≤ ((Y.length - t : Nat) : Int) := by omega
        have hb1 : (if 0 ≤ ((X.length - (t + 1) : Nat) : Int) ∧ ((X.length - (t + 1) : Nat) : Int) ≤ ((X.length - t : Nat) : Int) then some (X.length - (t + 1)) else none) = some (X.length - (t + 1)) := if_pos hp4
        have hb2 : (if 0 ≤ ((Y.length - (t + 1) : Nat) : Int) ∧ ((Y.length - (t + 1) : Nat) : Int) ≤ ((Y.length - t : Nat) : Int) then some (Y.length - (t + 1)) else none) = some (Y.length - (t + 1)) := if_pos hq4
        have htx : t + 1 < X.length := hst'.hx
        replace hst' := PLift.up hst'
        generalize Y.getD (Y.length - t - 2) 0 = v at *
        unfold c109l0
        repeat' (first
          | ((with_reducible refine T_calm ?_ ?_); rfl)
          | with_reducible first
            | refine T_seq ?_
            | refine T_reg ?_
            | refine T_draw ?_
            | refine T_skip ?_
            | refine T_exit ?_
            | refine T_block ?_
            | refine T_cond_t rfl ?_
            | refine T_cond_f rfl ?_
            | refine wdW_cons rfl ?_
            | ((first | refine T_cond rfl (fun hc => ?_) (fun hc => ?_) | refine wguard_split (fun hc => ?_) (fun hc => ?_) | refine wguardX_split (fun hc => ?_) (fun hc => ?_)) <;> have hd := hc <;> (try simp (disch := omega) only [wrapI] at hd) <;> have hs := hd <;> (try simp only [decide_eq_true_eq, decide_eq_false_iff_not, Bool.not_true, gt_iff_lt, Int.not_lt] at hd) <;> (try simp at hs))
            | refine T_ret ?_
            | refine leave_of (.inr rfl) _ rfl ?_
            | refine leave_of (.inl rfl) _ rfl ?_
            | refine leaveA_of (.inr rfl) _ rfl ?_
            | refine leaveA_of (.inl rfl) _ rfl ?_
            | refine wif_intro ?_ (fun hc => ?_)
            | refine And.intro ?_ ?_
            | intro hc
          | simp (maxSteps := 4000000) only [wops_nil, wops_cons, wstep_none, wstep_some, wguard_true, wguard_ft, wrun_mv, wrun_pick, wrun_bin, wrun_load, wrun_iaddrS, wrun_slc, wrun_len, wop, aop, ev, look, put_some, writes, ores_some, ores_ite_none, ores_map, ores_bind, wif_true, binV, thenK, blockK, intV, lenOf, szOk, value, cut, hget, mkAgg, boundOf, List.map_cons, List.map_nil, List.length_cons, List.length_nil, List.take_succ_cons, List.take_nil, List.drop_zero, List.append_nil, List.replicate_zero, Option.pure_def, Option.bind_eq_bind, Option.getD_some, Option.map_some, Option.map_none, Option.bind_some, if_true, if_false, Nat.reduceEqDiff, Nat.add_zero, Nat.zero_add, Nat.sub_zero, reduceCtorEq, Bool.not_true, Bool.or_true, Bool.false_eq_true, eq_self, true_and, and_true, and_self, decide_true, beq_self_eq_true, Int.toNat_natCast, *]
          | simp (disch := omega) only [getD_ints, wrapI]
          | (with_reducible refine wdW_cons ?_ ?_; (next => simp [chk, foot, compatB, argsOf, St.get, target, ev, look, lidsL, hget, kind, wids, wtops, tops, opds, topId, Int.toNat_natCast, lx, ly]; done))
          | omega)
        all_goals first | exact ⟨⟨htx, hst'.down⟩, rfl, by simp [St.only, get_mk, look]⟩ | exact hst'.down | (simp [St.only, get_mk, look]; done)
      · have hen' := hend (hen c3)
        have c4 : ((X.getD (X.length - t - 2) 0 : Nat) : Int) ≠ ((Y.getD (Y.length - t - 2) 0 : Nat) : Int) := by omega
        have c5 : (((X.getD (X.length - t - 2) 0 : Nat) : Int) == ((Y.getD (Y.length - t - 2) 0 : Nat) : Int)) = false := by simp only [beq_eq_false_iff_ne]; exact c4
        clear hst hen hend gx gy hc c3 c4
        have hp2 : X.length - t - 2 < X.length - t := by omega
        have hq2 : Y.length - t - 2 < Y.length - t := by omega
        have hpl : X.length - t - 2 < X.length := by omega
        have hql : Y.length - t - 2 < Y.length := by omega
        generalize Y.getD (Y.length - t - 2) 0 = v at *
        generalize X.getD (X.length - t - 2) 0 = u at *
        replace hen' := PLift.up hen'
        unfold c109l0
        repeat' (first
          | ((with_reducible refine T_calm ?_ ?_); rfl)
          | with_reducible first
            | refine T_seq ?_
            | refine T_reg ?_
            | refine T_draw ?_
            | refine T_skip ?_
            | refine T_exit ?_
            | refine T_block ?_
            | refine T_cond_t rfl ?_
            | refine T_cond_f rfl ?_
            | refine wdW_cons rfl ?_
            | ((first | refine T_cond rfl (fun hc => ?_) (fun hc => ?_) | refine wguard_split (fun hc => ?_) (fun hc => ?_) | refine wguardX_split (fun hc => ?_) (fun hc => ?_)) <;> have hd := hc <;> (try simp (disch := omega) only [wrapI] at hd) <;> have hs := hd <;> (try simp only [decide_eq_true_eq, decide_eq_false_iff_not, Bool.not_true, gt_iff_lt, Int.not_lt] at hd) <;> (try simp at hs))
            | refine T_ret ?_
            | refine leave_of (.inr rfl) _ rfl ?_
            | refine leave_of (.inl rfl) _ rfl ?_
            | refine leaveA_of (.inr rfl) _ rfl ?_
            | refine leaveA_of (.inl rfl) _ rfl ?_
            | refine wif_intro ?_ (fun hc => ?_)
            | refine And.intro ?_ ?_
            | intro hc
          | simp (maxSteps := 4000000) only [wops_nil, wops_cons, wstep_none, wstep_some, wguard_true, wguard_ft, wrun_mv, wrun_pick, wrun_bin, wrun_load, wrun_iaddrS, wrun_len, wop, aop, ev, look, put_some, writes, ores_some, ores_ite_none, ores_map, ores_bind, wif_true, binV, thenK, intV, lenOf, value, cut, hget, mkAgg, List.map_cons, List.map_nil, List.length_cons, List.length_nil, List.take_succ_cons, List.take_nil, List.drop_zero, List.append_nil, List.replicate_zero, Option.pure_def, Option.bind_eq_bind, Option.getD_some, Option.map_some, if_true, if_false, Nat.reduceEqDiff, Nat.zero_add, reduceCtorEq, Bool.not_true, Bool.false_eq_true, eq_self, and_true, decide_true, Int.toNat_natCast, *]
          | simp (disch := omega) only [getD_ints, wrapI]
          | (with_reducible refine wdW_cons ?_ ?_; (next => simp [chk, foot, compatB, argsOf, St.get, target, ev, look, lidsL, hget, kind, wids, wtops, tops, opds, topId, Int.toNat_natCast, lx, ly]; done))
          | omega)
        all_goals first | exact hen'.down _ rfl (by simp [St.only, get_mk, look]) | (refine hen'.down _ rfl ?_; simp [St.only, get_mk, look]; done)
    · have hen' := hend (fun h => c2 h.2.1)
      clear hend gx gy hc
      replace hen' := PLift.up hen'
      unfold c109l0
      repeat' (first
        | ((with_reducible refine T_calm ?_ ?_); rfl)
        | with_reducible first
          | refine T_seq ?_
          | refine T_reg ?_
          | refine T_draw ?_
          | refine T_skip ?_
          | refine T_exit ?_
          | refine T_block ?_
          | refine T_cond_t rfl ?_
          | refine T_cond_f rfl ?_
          | refine wdW_cons rfl ?_
          | ((first | refine T_cond rfl (fun hc => ?_) (fun hc => ?_) | refine wguard_split (fun hc => ?_) (fun hc => ?_) | refine wguardX_split (fun hc => ?_) (fun hc => ?_)) <;> have hd := hc <;> (try simp (disch := omega) only [wrapI] at hd) <;> have hs := hd <;> (try simp only [decide_eq_true_eq, decide_eq_false_iff_not, Bool.not_true, gt_iff_lt, Int.not_lt] at hd) <;> (try simp at hs))
          | refine T_ret ?_
          | refine leave_of (.inr rfl) _ rfl ?_
          | refine leave_of (.inl rfl) _ rfl ?_
          | refine leaveA_of (.inr rfl) _ rfl ?_
          | refine leaveA_of (.inl rfl) _ rfl ?_
          | refine wif_intro ?_ (fun hc => ?_)
          | refine And.intro ?_ ?_
          | intro hc
        | simp (maxSteps := 4000000) only [wops_nil, wops_cons, wstep_none, wstep_some, wguard_true, wguard_ft, wrun_mv, wrun_pick, wrun_bin, wrun_load, wrun_iaddrS, wrun_len, wop, aop, ev, look, put_some, writes, ores_some, ores_none, ores_ite_none, ores_map, ores_bind, wif_true, binV, thenK, intV, lenOf, value, cut, hget, mkAgg, List.map_cons, List.map_nil, List.length_cons, List.length_nil, List.take_succ_cons, List.take_nil, List.drop_zero, List.append_nil, List.replicate_zero, Option.pure_def, Option.bind_eq_bind, Option.getD_some, Option.map_some, if_true, if_false, Nat.reduceEqDiff, Nat.zero_add, reduceCtorEq, Bool.not_true, Bool.false_eq_true, eq_self, and_true, decide_true, *]
        | simp (disch := omega) only [getD_ints, wrapI]
        | (with_reducible refine wdW_cons ?_ ?_; (next => simp [chk, foot, compatB, argsOf, St.get, target, ev, look, lidsL, hget, kind, wids, wtops, tops, opds, topId, Int.toNat_natCast, lx, ly]; done))
        | omega)
      all_goals first | exact hen'.down _ rfl (by simp [St.only, get_mk, look]) | (refine hen'.down _ rfl ?_; simp [St.only, get_mk, look]; done)
  · have hen' := hend (fun h => c1 h.1)
    clear hend gx gy hc
    replace hen' := PLift.up hen'
    unfold c109l0
    repeat' (first
      | ((with_reducible refine T_calm ?_ ?_); rfl)
      | with_reducible first
        | refine T_seq ?_
        | refine T_reg ?_
        | refine T_draw ?_
        | refine T_skip ?_
        | refine T_exit ?_
        | refine T_block ?_
        | refine T_cond_t rfl ?_
        | refine T_cond_f rfl ?_
        | refine wdW_cons rfl ?_
        | ((first | refine T_cond rfl (fun hc => ?_) (fun hc => ?_) | refine wguard_split (fun hc => ?_) (fun hc => ?_) | refine wguardX_split (fun hc => ?_) (fun hc => ?_)) <;> have hd := hc <;> (try simp (disch := omega) only [wrapI] at hd) <;> have hs := hd <;> (try simp only [decide_eq_true_eq, decide_eq_false_iff_not, Bool.not_true, gt_iff_lt, Int.not_lt] at hd) <;> (try simp at hs))
        | refine T_ret ?_
        | refine leave_of (.inr rfl) _ rfl ?_
        | refine leave_of (.inl rfl) _ rfl ?_
        | refine leaveA_of (.inr rfl) _ rfl ?_
        | refine leaveA_of (.inl rfl) _ rfl ?_
        | refine wif_intro ?_ (fun hc => ?_)
        | refine And.intro ?_ ?_
        | intro hc
      | simp (maxSteps := 4000000) only [wops_nil, wops_cons, wstep_none, wstep_some, wguard_true, wguard_ft, wrun_mv, wrun_pick, wrun_bin, wrun_load, wrun_iaddrS, wrun_len, wop, aop, ev, look, put_some, writes, ores_some, ores_none, ores_ite_none, ores_map, ores_bind, wif_true, binV, thenK, intV, lenOf, value, cut, hget, mkAgg, List.map_cons, List.map_nil, List.length_cons, List.length_nil, List.take_succ_cons, List.take_nil, List.drop_zero, List.append_nil, List.replicate_zero, Option.pure_def, Option.bind_eq_bind, Option.getD_some, Option.map_some, if_true, if_false, Nat.reduceEqDiff, Nat.zero_add, reduceCtorEq, Bool.not_true, Bool.false_eq_true, eq_self, and_true, decide_true, *]
      | simp (disch := omega) only [getD_ints, wrapI]
      | (with_reducible refine wdW_cons ?_ ?_; (next => simp [chk, foot, compatB, argsOf, St.get, target, ev, look, lidsL, hget, kind, wids, wtops, tops, opds, topId, Int.toNat_natCast, lx, ly]; done))
      | omega)
    all_goals first | exact hen'.down _ rfl (by simp [St.only, get_mk, look]) | (refine hen'.down _ rfl ?_; simp [St.only, get_mk, look]; done)
end
end Go.Abs
