import Derived.Test.YtodheeifecoebaaK243x
set_option linter.all false
set_option linter.unusedVariables false
set_option linter.unusedSimpArgs false
set_option linter.unusedSectionVars false
namespace Go.Abs
open Go.Proofs
/-! Maps: the rounds -/
/-- what Maps yields: maps in memory -/
structure MvR (n k : Nat) (f : Nat → Nat → Int) (v : AV) (H : List Blk) : Prop where
  h : ∃ id o els, v = .agg [i64 n, .lsl id 0 k] ∧ H[id]? = some (.cells o false 1 els) ∧ els.length = k ∧ ∀ j, j < k → ∃ rid, els.getD j [] = [.lsl rid 0 n] ∧ ∃ o', H[rid]? = some (.cells o' false 1 ((mk n (f j)).map fun x => [i64 x]))
def Rw (n : Nat) (f : Nat → Nat → Int) (H : List Blk) (id t : Nat) (els : List (List AV)) : Prop := els.length = t ∧ ∀ j, j < t → ∃ rid, els.getD j [] = [.lsl rid 0 n] ∧ rid ≠ id ∧ ∃ o, H[rid]? = some (.cells o false 1 ((mk n (f j)).map fun x => [i64 x]))
structure J20o (n : Nat) (f : Nat → Nat → Int) (box : Blk) (t : Nat) (H : List Blk) : Prop where
  l : 3 ≤ H.length
  b0 : H[0]? = some box
  b1 : H[1]? = some (.cells true false 2 [[i64 0, .sl true 0 []]])
  b2 : t = 0 → H[2]? = some (.cells true false 2 [[i64 n, .sl true 0 []]])
  b3 : t ≠ 0 → ∃ id els, 2 < id ∧ H[2]? = some (.cells true false 2 [[i64 n, .lsl id 0 t]]) ∧ H[id]? = some (.cells true false 1 els) ∧ Rw n f H id t els
def Q20 (n k : Nat) (f : Nat → Nat → Int) (ok : Prop) (r : AV) (H : List Blk) : Prop := (¬ok ∧ r = .tup [.agg [i64 0, .sl true 0 []], bl false]) ∨ (ok ∧ ∃ v, r = .tup [v, bl true] ∧ MvR n k f v H)
def RG (ml il : List Int) (j : Nat) : Prop := (-50000 ≤ ml.getD j 0 ∧ ml.getD j 0 ≤ 50000) ∧ -50000 ≤ il.getD j 0 ∧ il.getD j 0 ≤ 50000
instance (ml il : List Int) (j : Nat) : Decidable (RG ml il j) := by unfold RG; infer_instance
def okM (ml il : List Int) (k : Nat) : Prop := (1 ≤ ml.length ∧ ml.length ≤ 24) ∧ il.length = ml.length ∧ (1 ≤ k ∧ k ≤ 12) ∧ ml.length % k = 0 ∧ ∀ j, j < ml.length → RG ml il j
theorem Rw.app {n : Nat} {f : Nat → Nat → Int} {H : List Blk} {id t : Nat} {els : List (List AV)} (h : Rw n f H id t els) (X : List Blk) : Rw n f (H ++ X) id t els :=
  ⟨h.1, fun j hj => by
    obtain ⟨rid, h1, h2, o, h3⟩ := h.2 j hj
    exact ⟨rid, h1, h2, o, by rw [List.getElem?_append_left (List.getElem?_eq_some_iff.1 h3).1]; exact h3⟩⟩
section
variable {b1 b2 : Bool} {ml il : List Int} {k s n : Nat}
abbrev SLo (n t : Nat) : List (Nat × AV) := [(1, .loc 0 0 0), (2, .loc 1 0 0), (4, i64 n), (5, .loc 2 0 0), (6, i64 t)]
set_option maxHeartbeats 8000000 in
theorem k20x (m : MdOk ml il k s n) {N0 t i : Nat} (hi : i < n) (hr : ¬RG ml il i) {H0 H : List Blk} {f : Nat → Nat → Int} (hJ : J20 N0 H0 (f t) i H) (hN0 : 3 ≤ N0) (hbox : H0[0]? = some (bM b1 b2 ml il k)) (hb1 : H0[1]? = some (.cells true false 2 [[i64 0, .sl true 0 []]])) (R : St → Prop) :
    T none Try.prog muts 96 0 c20l0 ⟨SLi n t i N0, H⟩ (thenK R (leaveA [.cell 2 true 2, .tmp 3] (Q20 n k f (okM ml il k)))) := by
  obtain ⟨hn, h1, h2, hk, hks⟩ := m
  have hno : ¬okM ml il k := fun h => hr (h.2.2.2.2 i (by omega))
  have h32a := k32 (ml.getD i 0) (-50000) 50000
  have h32b := k32 (il.getD i 0) (-50000) 50000
  have g1 : (ml.map fun x => [i64 x]).getD i [] = [i64 (ml.getD i 0)] := getD_ints (by omega)
  have g2 : (il.map fun x => [i64 x]).getD i [] = [i64 (il.getD i 0)] := getD_ints (by omega)
  have hb := (hJ.o 0 (by omega)).trans hbox
  have hb1' := (hJ.o 1 (by omega)).trans hb1
  have hl1 : 1 < H.length := (List.getElem?_eq_some_iff.1 hb1').1
  have fin : ∀ H' : List Blk, Q20 n k f (okM ml il k) (.tup [.agg [i64 0, .sl true 0 []], bl false]) H' := fun H' => .inl ⟨hno, rfl⟩
  have hs1 : ∀ B : Blk, (H.set 1 B)[1]? = some B := fun B => List.getElem?_set_self hl1
  unfold RG at hr
  generalize ml.getD i 0 = y at *
  generalize il.getD i 0 = z at *
  clear hJ hbox hb1
  by_cases ha : -50000 ≤ y ∧ y ≤ 50000
  · rw [show (decide (-50000 ≤ y) && decide (y ≤ 50000)) = true by rw [decide_eq_true ha.1, decide_eq_true ha.2]; rfl] at h32a
    have hz : ¬(-50000 ≤ z ∧ z ≤ 50000) := fun h => hr ⟨ha, h⟩
    rw [show (decide (-50000 ≤ z) && decide (z ≤ 50000)) = false by rw [← Bool.decide_and]; exact decide_eq_false hz] at h32b
    clear hr hno
    unfold c20l0
    repeat' (first
      | ((with_reducible refine T_calm ?_ ?_); rfl)
      | with_reducible first
        | refine T_seq ?_
        | refine T_reg ?_
        | refine T_draw ?_
        | refine T_skip ?_
        | refine T_exit ?_
        | refine T_block ?_
        | refine T_cond_t rfl ?_
        | refine T_cond_f rfl ?_
        | refine wdW_cons rfl ?_
        | (show wcall _ false (.lit (.func (.func 32) _ _)) _ _ _ _; refine wcall_fn (h32a) rfl (by simp [plainL, plain]) ?_)
        | (show wcallX _ false (.lit (.func (.func 32) _ _)) _ _ _ _; refine wcallX_fn (h32a) rfl (by simp [plainL, plain, plainR, Int.toNat_natCast]) ?_)
        | (show wcall _ false (.lit (.func (.func 32) _ _)) _ _ _ _; refine wcall_fn (h32b) rfl (by simp [plainL, plain]) ?_)
        | (show wcallX _ false (.lit (.func (.func 32) _ _)) _ _ _ _; refine wcallX_fn (h32b) rfl (by simp [plainL, plain, plainR, Int.toNat_natCast]) ?_)
        | ((first | refine T_cond rfl (fun hc => ?_) (fun hc => ?_) | refine wguard_split (fun hc => ?_) (fun hc => ?_) | refine wguardX_split (fun hc => ?_) (fun hc => ?_)) <;> have hd := hc <;> (try simp (disch := omega) only [wrapI] at hd) <;> have hs := hd <;> (try simp only [decide_eq_true_eq, decide_eq_false_iff_not, Int.not_lt] at hd) <;> (try simp at hs))
        | refine T_ret ?_
        | refine wif_intro ?_ (fun hc => ?_)
        | refine And.intro ?_ ?_
        | intro hc
      | simp (maxSteps := 4000000) only [wops_nil, wops_cons, wstep_none, wstep_some, wguard_ff, wrun_call, wrun_mv, wrun_pick, wrun_bin, wrun_not, wrun_build, wrun_load, wrun_store, wrun_faddr, wrun_iaddrS, wop, aop, ev, look, put_some, put_none, writes, ores_some, ores_ite_none, binV, thenK, blockK, boolV, value, cut, hget, fillA, putCells, AV.parts, isOne, toLits, mkAgg, List.map_cons, List.map_nil, List.length_cons, List.length_nil, List.set_cons_zero, List.take_succ_cons, List.take_zero, List.take_nil, List.drop_succ_cons, List.drop_zero, List.drop_nil, List.nil_append, List.append_nil, List.replicate_zero, List.getD_cons_zero, List.all_cons, List.all_nil, List.length_map, Option.getD_some, Option.map_some, Option.map_none, if_true, if_false, Nat.reduceEqDiff, Nat.reduceAdd, Nat.reduceLT, Nat.add_zero, Nat.zero_add, Nat.le_refl, reduceCtorEq, Bool.not_true, Bool.not_false, Bool.and_true, Bool.false_eq_true, eq_self, true_and, and_true, and_self, decide_true, Int.reduceNeg, freeze, lidsL, lids, List.flatMap_cons, List.flatMap_nil, List.all_cons, ren, Int.toNat_natCast, *]
      | simp (disch := omega) only [getD_ints, wrapI]
      | (with_reducible show wcall _ false (.lit (.func (.func 32) _ _)) _ _ _ _; refine wcall_fn (h32a) ?_ ?_ ?_; (next => simp [rfyL, rfy, hget, ints, take_rfy, Int.toNat_natCast]); (next => simp [plainL, plain, plainR, Int.toNat_natCast]))
      | (with_reducible show wcallX _ false (.lit (.func (.func 32) _ _)) _ _ _ _; refine wcallX_fn (h32a) ?_ ?_ ?_; (next => simp [rfyL, rfy, hget, ints, take_rfy, Int.toNat_natCast]); (next => simp [plainL, plain, plainR, Int.toNat_natCast]))
      | (with_reducible show wcall _ false (.lit (.func (.func 32) _ _)) _ _ _ _; refine wcall_fn (h32b) ?_ ?_ ?_; (next => simp [rfyL, rfy, hget, ints, take_rfy, Int.toNat_natCast]); (next => simp [plainL, plain, plainR, Int.toNat_natCast]))
      | (with_reducible show wcallX _ false (.lit (.func (.func 32) _ _)) _ _ _ _; refine wcallX_fn (h32b) ?_ ?_ ?_; (next => simp [rfyL, rfy, hget, ints, take_rfy, Int.toNat_natCast]); (next => simp [plainL, plain, plainR, Int.toNat_natCast]))
      | omega)
    all_goals first | (refine ⟨[.agg [i64 0, .sl true 0 []], bl false], ?_, fin _⟩; simp [resL, resAV, get_mk, look, aop, ev, hget, hs1]; rfl)
  · rw [show (decide (-50000 ≤ y) && decide (y ≤ 50000)) = false by rw [← Bool.decide_and]; exact decide_eq_false ha] at h32a
    clear hr hno
    unfold c20l0
    repeat' (first
      | ((with_reducible refine T_calm ?_ ?_); rfl)
      | with_reducible first
        | refine T_seq ?_
        | refine T_reg ?_
        | refine T_draw ?_
        | refine T_skip ?_
        | refine T_exit ?_
        | refine T_block ?_
        | refine T_cond_t rfl ?_
        | refine T_cond_f rfl ?_
        | refine wdW_cons rfl ?_
        | (show wcall _ false (.lit (.func (.func 32) _ _)) _ _ _ _; refine wcall_fn (h32a) rfl (by simp [plainL, plain]) ?_)
        | (show wcallX _ false (.lit (.func (.func 32) _ _)) _ _ _ _; refine wcallX_fn (h32a) rfl (by simp [plainL, plain, plainR, Int.toNat_natCast]) ?_)
        | ((first | refine T_cond rfl (fun hc => ?_) (fun hc => ?_) | refine wguard_split (fun hc => ?_) (fun hc => ?_) | refine wguardX_split (fun hc => ?_) (fun hc => ?_)) <;> have hd := hc <;> (try simp (disch := omega) only [wrapI] at hd) <;> have hs := hd <;> (try simp only [decide_eq_true_eq, decide_eq_false_iff_not, Int.not_lt] at hd) <;> (try simp at hs))
        | refine T_ret ?_
        | refine wif_intro ?_ (fun hc => ?_)
        | refine And.intro ?_ ?_
        | intro hc
      | simp (maxSteps := 4000000) only [wops_nil, wops_cons, wstep_none, wstep_some, wguard_tf, wrun_call, wrun_mv, wrun_pick, wrun_bin, wrun_not, wrun_build, wrun_load, wrun_store, wrun_faddr, wrun_iaddrS, wop, aop, ev, look, put_some, put_none, writes, ores_some, ores_ite_none, binV, thenK, blockK, boolV, value, cut, hget, fillA, putCells, AV.parts, isOne, toLits, mkAgg, List.map_cons, List.map_nil, List.length_cons, List.length_nil, List.set_cons_zero, List.take_succ_cons, List.take_zero, List.take_nil, List.drop_succ_cons, List.drop_zero, List.drop_nil, List.nil_append, List.append_nil, List.replicate_zero, List.getD_cons_zero, List.all_cons, List.all_nil, List.length_map, Option.getD_some, Option.map_some, Option.map_none, if_true, if_false, Nat.reduceEqDiff, Nat.reduceAdd, Nat.reduceLT, Nat.add_zero, Nat.zero_add, Nat.le_refl, reduceCtorEq, Bool.not_false, Bool.and_true, Bool.false_eq_true, eq_self, and_true, and_self, decide_true, Int.reduceNeg, freeze, lidsL, lids, List.flatMap_cons, List.flatMap_nil, List.all_cons, ren, Int.toNat_natCast, *]
      | simp (disch := omega) only [getD_ints, wrapI]
      | (with_reducible show wcall _ false (.lit (.func (.func 32) _ _)) _ _ _ _; refine wcall_fn (h32a) ?_ ?_ ?_; (next => simp [rfyL, rfy, hget, ints, take_rfy, Int.toNat_natCast]); (next => simp [plainL, plain, plainR, Int.toNat_natCast]))
      | (with_reducible show wcallX _ false (.lit (.func (.func 32) _ _)) _ _ _ _; refine wcallX_fn (h32a) ?_ ?_ ?_; (next => simp [rfyL, rfy, hget, ints, take_rfy, Int.toNat_natCast]); (next => simp [plainL, plain, plainR, Int.toNat_natCast]))
      | omega)
    all_goals first | (refine ⟨[.agg [i64 0, .sl true 0 []], bl false], ?_, fin _⟩; simp [resL, resAV, get_mk, look, aop, ev, hget, hs1]; rfl)
end
end Go.Abs
