import Derived.Test.YtodheeifecoebaaPCmin
import Derived.Test.YtodheeifecoebaaK200
import Derived.Test.YtodheeifecoebaaK259
import Derived.Test.YtodheeifecoebaaK261
import Derived.Test.YtodheeifecoebaaK26x
set_option linter.all false
set_option linter.unusedVariables false
set_option linter.unusedSimpArgs false
set_option linter.unusedSectionVars false
namespace Go.Abs
open Go.Proofs
/-! around, back: walked -/
set_option maxHeartbeats 8000000 in
theorem k107 (w : Int) (nil : Bool) (ph : List Int) (c : Int) : Fn Try.prog 107 [fmap w nil ph, i64 c] (.clo (.func 146) [] [.loc 1 0 0, .loc 0 0 0]) [.cells true false 2 [[i64 w, ints nil ph]], .cells true false 1 [[i64 c]]] := by
  refine fn_of e107 ?_
  unfold c107
  repeat' (first
    | with_reducible first
      | refine T_seq ?_
      | refine T_reg ?_
      | refine T_skip ?_
      | refine T_exit ?_
      | refine T_block ?_
      | refine T_cond_t rfl ?_
      | refine T_cond_f rfl ?_
      | ((first | refine T_cond rfl (fun hc => ?_) (fun hc => ?_) | refine wguard_split (fun hc => ?_) (fun hc => ?_)) <;> have hd := hc <;> (try simp (disch := omega) only [wrapI] at hd) <;> have hs := hd <;> (try simp only [Bool.not_eq_true', Bool.not_eq_false', Bool.and_eq_true, Bool.and_eq_false_iff, Bool.or_eq_true, Bool.or_eq_false_iff, decide_eq_true_eq, decide_eq_false_iff_not, beq_iff_eq, bne_iff_ne, beq_eq_false_iff_ne, bne_eq_false_iff_eq, Bool.not_true, Bool.not_false, gt_iff_lt, ge_iff_le, Int.not_lt, Int.not_le, ne_eq, Decidable.not_not] at hd) <;> (try simp at hs))
      | refine T_ret ?_
      | refine leave_ids (.inr rfl) _ [0, 1] rfl (by simp) (by simp) ?_
      | refine leave_ids (.inl rfl) _ [0, 1] rfl (by simp) (by simp) ?_
      | refine leaveA_of (.inr rfl) _ rfl ?_
      | refine leaveA_of (.inl rfl) _ rfl ?_
      | refine wif_intro ?_ (fun hc => ?_)
      | refine And.intro ?_ ?_
      | intro hc
    | simp (maxSteps := 4000000) only [wops_nil, wops_cons, wstep_none, wrun_mv, wrun_mkf, wrun_box, get_mk, wop, aop, ev, look, put_some, writes, ores_some, thenK, hget, AV.parts, isOne, tupOf, List.map_cons, List.map_nil, List.length_cons, List.length_nil, List.getElem?_cons_zero, List.getElem?_cons_succ, List.set_cons_zero, List.set_cons_succ, List.nil_append, List.append_nil, List.replicate_zero, List.replicate_succ, List.zipIdx_cons, List.zipIdx_nil, List.all_cons, List.all_nil, Option.getD_some, Option.map_some, Option.map_none, if_true, if_false, Nat.reduceEqDiff, Nat.reduceAdd, Nat.add_zero, Nat.zero_add, Nat.zero_ne_one, reduceCtorEq, Bool.and_true, eq_self, true_and, and_self, List.all_cons, ren, renL, renR, renB, renO, keepρ, pos, Nat.not_lt_zero, renR_ints, *]
    | simp (disch := omega) only [getD_ints, wrapI]
    | omega)
  all_goals first | exact ⟨rfl, rfl⟩
theorem at_in {H : List Blk} {i : Nat} {b : Blk} (h : H[i]? = some b) (X : List Blk) : (H ++ X)[i]? = some b := by rw [List.getElem?_append_left (List.getElem?_eq_some_iff.1 h).1]; exact h
structure J147 (N0 : Nat) (H0 : List Blk) (f : Nat → Int) (i : Nat) (H : List Blk) : Prop where
  l : H.length = N0 + 2 * i
  r : i ≠ 0 → H[N0 + 2 * i - 1]? = some (.cells true false 1 ((mk i f).map fun x => [i64 x]))
  o : ∀ id, id < N0 → H[id]? = H0[id]?
abbrev SL147 (it N0 : Nat) (X : List Nat) (k : Nat) : List (Nat × AV) := [(0, .loc it 0 0), (1, i64 (if k < X.length then ((X.getD k 0 : Nat) : Int) else -1)), (5, if k = 0 then .sl true 0 [] else .lsl (N0 + 2 * k - 1) 0 k)]
section
variable {n : Nat} {th : Nat → Bool} {ed : Nat → Nat → Bool} {st : Nat → Nat → Int} {o : List Nat} {h fr : Nat → Int} {X : List Nat}
set_option maxHeartbeats 8000000 in
theorem k147l (hX : Ch th ed st o h fr X) (hon : ∀ k, k < X.length → X.getD k 0 < n) (hlen : X.length ≤ 1000000) (hn : n ≤ 1000000) {it ifr : Nat} {ot of : Bool} {w : Int} {nl : Bool} {ph : List Int} {a b : AV} {H0 : List Blk}
    (ht : H0[it]? = some (.cells ot false 5 [[i64 w, ints nl ph, a, .lsl ifr 0 n, b]])) (hfr : H0[ifr]? = some (.cells of false 1 ((mk n fr).map fun x => [i64 x])))
    (K : Exit → St → Prop) (k : Nat) (hk : k < X.length) (H : List Blk) (hH : J147 H0.length H0 (fun j => (X.getD j 0 : Nat)) k H) :
    T none Try.prog muts 20 H0.length c147l0 ⟨SL147 it H0.length X k, H⟩ (thenK (fun s' => k < X.length ∧ J147 H0.length H0 (fun j => (X.getD j 0 : Nat)) (k + 1) s'.heap ∧ (s'.only [0, 1, 5]).slots = SL147 it H0.length X (k + 1)) K) := by
  have hkn := hon k hk
  have l1 := (List.getElem?_eq_some_iff.1 ht).1
  have l2 := (List.getElem?_eq_some_iff.1 hfr).1
  obtain ⟨hN, hR, hO⟩ := hH
  have ht' := (hO it l1).trans ht
  have hfr' := (hO ifr l2).trans hfr
  have g1 : ((mk n fr).map fun x => [i64 x]).getD (X.getD k 0) [] = [i64 (fr (X.getD k 0))] := by rw [getD_ints (by rw [mk_len]; exact hkn), mk_get hkn]
  have hlf := mk_len n fr
  have hnx : fr (X.getD k 0) = if k + 1 < X.length then ((X.getD (k + 1) 0 : Nat) : Int) else -1 := by
    by_cases hk1 : k + 1 < X.length
    · rw [if_pos hk1]; exact (hX.nx k hk1).1
    · rw [if_neg hk1, show k = X.length - 1 by omega]; exact hX.rt.1
  have esn := mk_snoc k (fun j => ((X.getD j 0 : Nat) : Int))
  have hLl := mk_len k (fun j => ((X.getD j 0 : Nat) : Int))
  have fin : ∀ F : List Blk, F.length = H0.length + 2 * k → (∀ id, id < H0.length → F[id]? = H0[id]?) → ∀ a : Blk,
      J147 H0.length H0 (fun j => (X.getD j 0 : Nat)) (k + 1) (F ++ [a, .cells true false 1 ((mk (k + 1) (fun j => ((X.getD j 0 : Nat) : Int))).map fun x => [i64 x])]) := fun F hF hFo a => by
    refine ⟨by simp [hF]; omega, fun _ => ?_, fun id hid => ?_⟩
    · rw [List.getElem?_append_right (by omega), show H0.length + 2 * (k + 1) - 1 - F.length = 1 by omega]; rfl
    · rw [List.getElem?_append_left (by omega)]; exact hFo id hid
  rw [esn] at fin
  have ek0 : (if k < X.length then ((X.getD k 0 : Nat) : Int) else -1) = (X.getD k 0 : Nat) := if_pos hk
  have hmap : ∀ l : List Int, (l ++ [((X.getD k 0 : Nat) : Int)]).map (fun x => [i64 x]) = l.map (fun x => [i64 x]) ++ [[i64 (X.getD k 0 : Nat)]] := fun l => by simp
  unfold SL147
  rw [ek0, ← hnx]
  generalize mk k (fun j => ((X.getD j 0 : Nat) : Int)) = L at *
  clear esn hX hon hnx ek0
  generalize mk n fr = FR at *
  generalize fr (X.getD k 0) = nx at *
  generalize X.getD k 0 = c at *
  obtain ⟨u1, u2, u3, u4⟩ := cells_sub (X := []) hN
  have hta := at_in ht'
  have hfa := at_in hfr'
  by_cases hk0 : k = 0
  · subst hk0
    have hL0 : L = [] := List.eq_nil_of_length_eq_zero hLl
    subst hL0
    have f0 := fin H hN hO
    clear fin hR hO
    rw [hmap] at f0
    replace f0 := And.intro f0 trivial
    unfold c147l0
    simp only [if_true]
    have e1 : H0.length + 2 * (0 + 1) - 1 = H0.length + 2 * 0 + 1 := by omega
    generalize hNe : H0.length + 2 * 0 = N at *
    replace hNe := And.intro hNe trivial
    repeat' (first
      | with_reducible first
        | refine T_seq ?_
        | refine T_reg ?_
        | refine T_skip ?_
        | refine T_exit ?_
        | refine T_block ?_
        | refine T_cond_t rfl ?_
        | refine T_cond_f rfl ?_
        | ((first | refine T_cond rfl (fun hc => ?_) (fun hc => ?_) | refine wguard_split (fun hc => ?_) (fun hc => ?_)) <;> have hd := hc <;> (try simp (disch := omega) only [wrapI] at hd) <;> have hs := hd <;> (try simp only [Bool.not_eq_true', Bool.not_eq_false', Bool.and_eq_true, Bool.and_eq_false_iff, Bool.or_eq_true, Bool.or_eq_false_iff, decide_eq_true_eq, decide_eq_false_iff_not, beq_iff_eq, bne_iff_ne, beq_eq_false_iff_ne, bne_eq_false_iff_eq, Bool.not_true, Bool.not_false, gt_iff_lt, ge_iff_le, Int.not_lt, Int.not_le, ne_eq, Decidable.not_not] at hd) <;> (try simp at hs))
        | refine T_ret ?_
        | refine leave_of (.inr rfl) _ rfl ?_
        | refine leave_of (.inl rfl) _ rfl ?_
        | refine leaveA_of (.inr rfl) _ rfl ?_
        | refine leaveA_of (.inl rfl) _ rfl ?_
        | refine wif_intro ?_ (fun hc => ?_)
        | refine And.intro ?_ ?_
        | intro hc
      | simp (maxSteps := 4000000) only [wops_nil, wops_cons, wstep_none, wrun_mv, wrun_bin, wrun_load, wrun_faddr, wrun_iaddrS, wrun_nilck, wrun_bslice, wrun_app, wop, aop, ev, look, put_some, writes, ores_some, ores_ite_none, binV, thenK, blockK, elsOf, szOk, value, cut, hget, fillA, putCells, AV.parts, isOne, mkAgg, List.flatten_cons, List.flatten_nil, rowsOf, List.map_cons, List.map_nil, List.length_cons, List.length_nil, List.getElem?_cons_zero, List.getElem?_cons_succ, List.set_cons_zero, List.set_cons_succ, List.take_succ_cons, List.take_zero, List.take_nil, List.drop_succ_cons, List.drop_zero, List.drop_nil, List.nil_append, List.append_nil, List.replicate_zero, List.replicate_succ, List.getD_cons_zero, List.all_cons, List.all_nil, List.isEmpty_cons, List.length_append, Option.getD_some, Option.map_some, if_true, if_false, Nat.reduceEqDiff, Nat.reduceAdd, Nat.reduceMul, Nat.reduceLeDiff, Nat.add_zero, Nat.zero_add, Nat.sub_zero, Nat.mul_one, Nat.le_refl, Nat.zero_ne_one, reduceCtorEq, Bool.and_true, Bool.or_true, Bool.false_eq_true, eq_self, true_and, and_true, and_self, decide_true, beq_self_eq_true, List.all_cons, Int.toNat_natCast, *]
      | simp (disch := omega) only [getD_ints, wrapI]
      | omega)
    all_goals first | exact f0.1 _ | (simp [St.only, get_mk, look]; omega) | (simp [St.only, get_mk, look]; done)
  · have hR' := hR hk0
    have hML : H0.length + 2 * k - 1 < H.length := (List.getElem?_eq_some_iff.1 hR').1
    have f0 := fin (H.set (H0.length + 2 * k - 1) .dead) (by simp [hN]) (fun id hid => by rw [List.getElem?_set_ne (by omega)]; exact hO id hid)
    have u5 : ∀ Y, (H ++ Y)[H0.length + 2 * k - 1]? = some (.cells true false 1 (L.map fun x => [i64 x])) := fun Y => by rw [List.getElem?_append_left hML]; exact hR'
    have u6 : ∀ Y v, (H ++ Y).set (H0.length + 2 * k - 1) v = H.set (H0.length + 2 * k - 1) v ++ Y := fun Y v => List.set_append_left _ _ hML
    obtain ⟨u7, u8, u9, u10⟩ := cells_sub (X := []) (H := H.set (H0.length + 2 * k - 1) .dead) (N := H0.length + 2 * k) (by simp [hN])
    have v1 : ∀ Y, (H.set (H0.length + 2 * k - 1) .dead ++ Y)[it]? = some (.cells ot false 5 [[i64 w, ints nl ph, a, .lsl ifr 0 n, b]]) := fun Y => at_in (by rw [List.getElem?_set_ne (by omega)]; exact ht') Y
    have v2 : ∀ Y, (H.set (H0.length + 2 * k - 1) .dead ++ Y)[ifr]? = some (.cells of false 1 (FR.map fun x => [i64 x])) := fun Y => at_in (by rw [List.getElem?_set_ne (by omega)]; exact hfr') Y
    clear fin hR hO
    rw [hmap] at f0
    have t1 : List.take k (L.map fun x => [i64 x]) = L.map fun x => [i64 x] := List.take_of_length_le (by simp; omega)
    have e3 : H0.length + 2 * (k + 1) - 1 = H0.length + 2 * k + 1 := by omega
    unfold c147l0
    simp only [hk0, if_false]
    generalize hMe : H0.length + 2 * k - 1 = M at *
    generalize hNe : H0.length + 2 * k = N at *
    replace f0 := And.intro f0 trivial
    replace hML := And.intro hML trivial
    replace hNe := And.intro hNe trivial
    replace hMe := And.intro hMe trivial
    replace e3 := And.intro e3 trivial
    repeat' (first
      | with_reducible first
        | refine T_seq ?_
        | refine T_reg ?_
        | refine T_skip ?_
        | refine T_exit ?_
        | refine T_block ?_
        | refine T_cond_t rfl ?_
        | refine T_cond_f rfl ?_
        | ((first | refine T_cond rfl (fun hc => ?_) (fun hc => ?_) | refine wguard_split (fun hc => ?_) (fun hc => ?_)) <;> have hd := hc <;> (try simp (disch := omega) only [wrapI] at hd) <;> have hs := hd <;> (try simp only [Bool.not_eq_true', Bool.not_eq_false', Bool.and_eq_true, Bool.and_eq_false_iff, Bool.or_eq_true, Bool.or_eq_false_iff, decide_eq_true_eq, decide_eq_false_iff_not, beq_iff_eq, bne_iff_ne, beq_eq_false_iff_ne, bne_eq_false_iff_eq, Bool.not_true, Bool.not_false, gt_iff_lt, ge_iff_le, Int.not_lt, Int.not_le, ne_eq, Decidable.not_not] at hd) <;> (try simp at hs))
        | refine T_ret ?_
        | refine leave_of (.inr rfl) _ rfl ?_
        | refine leave_of (.inl rfl) _ rfl ?_
        | refine leaveA_of (.inr rfl) _ rfl ?_
        | refine leaveA_of (.inl rfl) _ rfl ?_
        | refine wif_intro ?_ (fun hc => ?_)
        | refine And.intro ?_ ?_
        | intro hc
      | simp (maxSteps := 4000000) only [wops_nil, wops_cons, wstep_none, wrun_mv, wrun_bin, wrun_load, wrun_faddr, wrun_iaddrS, wrun_nilck, wrun_bslice, wrun_app, wop, aop, ev, look, put_some, writes, ores_some, ores_ite_none, binV, thenK, blockK, elsOf, szOk, value, cut, hget, fillA, putCells, AV.parts, isOne, mkAgg, List.flatten_cons, List.flatten_nil, rowsOf, List.map_cons, List.map_nil, List.length_cons, List.length_nil, List.getElem?_cons_zero, List.getElem?_cons_succ, List.set_cons_zero, List.set_cons_succ, List.take_succ_cons, List.take_zero, List.take_nil, List.drop_succ_cons, List.drop_zero, List.drop_nil, List.nil_append, List.append_nil, List.replicate_zero, List.replicate_succ, List.getD_cons_zero, List.all_cons, List.all_nil, List.isEmpty_cons, List.length_append, List.length_map, Option.getD_some, Option.map_some, if_true, if_false, Nat.reduceEqDiff, Nat.reduceAdd, Nat.add_zero, Nat.zero_add, Nat.sub_zero, Nat.mul_one, Nat.le_refl, Nat.zero_ne_one, reduceCtorEq, Bool.and_true, Bool.and_false, Bool.or_true, Bool.false_eq_true, eq_self, true_and, and_true, and_self, decide_true, beq_self_eq_true, List.all_cons, Int.toNat_natCast, *]
      | simp (disch := omega) only [getD_ints, wrapI]
      | omega)
    all_goals first | exact f0.1 _ | (simp [St.only, get_mk, look]; exact e3.1.symm) | (simp [St.only, get_mk, look]; done)
end
end Go.Abs
