import Derived.Test.YtpfmamngjefohaaK334x
set_option linter.all false
set_option linter.unusedVariables false
set_option linter.unusedSimpArgs false
set_option linter.unusedSectionVars false
namespace Go.Abs
open Go.Proofs
/-! WearBy -/
theorem ceil_quo {n d : Int} (hn : 0 ≤ n) (hd : 1 ≤ d) : (n + d - 1).tdiv d = ceil n d := by
  rw [Int.tdiv_eq_ediv_of_nonneg (by omega)]
  unfold ceil
  have h1 := Int.mul_ediv_add_emod (n + d - 1) d
  have h2 := Int.mul_ediv_add_emod (-n) d
  have h3 := Int.emod_lt_of_pos (n + d - 1) (show 0 < d by omega)
  have h4 := Int.emod_nonneg (n + d - 1) (show d ≠ 0 by omega)
  have h5 := Int.emod_lt_of_pos (-n) (show 0 < d by omega)
  have h6 := Int.emod_nonneg (-n) (show d ≠ 0 by omega)
  have h7 : d * ((n + d - 1) / d + (-n) / d) = d - 1 - (n + d - 1) % d - (-n) % d := by rw [Int.mul_add]; omega
  have h8 : (n + d - 1) / d + (-n) / d = 0 := by
    rcases Int.lt_trichotomy ((n + d - 1) / d + (-n) / d) 0 with hlt | heq | hgt
    · have : d * ((n + d - 1) / d + (-n) / d) ≤ d * (-1) := Int.mul_le_mul_of_nonneg_left (by omega) (by omega)
      omega
    · exact heq
    · have : d * 1 ≤ d * ((n + d - 1) / d + (-n) / d) := Int.mul_le_mul_of_nonneg_left (by omega) (by omega)
      omega
  omega
def outR (W : List Int) (den : Int) (k : Nat) : List (List AV) := (List.range k).map fun z => [i64 (W.getD z 0 / den), i64 (ceil (W.getD z 0) den)]
theorem outR_len (W : List Int) (den : Int) (k : Nat) : (outR W den k).length = k := by simp [outR]
theorem outR_snoc (W : List Int) (den : Int) (k : Nat) : outR W den (k + 1) = outR W den k ++ [[i64 (W.getD k 0 / den), i64 (ceil (W.getD k 0) den)]] := by simp [outR, List.range_succ]
theorem plainR_outR (W : List Int) (den : Int) (k : Nat) : plainR (outR W den k) = true := by
  unfold outR; exact plainR_map _ (fun _ => rfl) _
theorem renR_outR (ρ : Nat → Option Nat) (W : List Int) (den : Int) (k : Nat) : renR ρ (outR W den k) = outR W den k := renR_plain ρ _ (plainR_outR W den k)
structure I37 (H0 : List Blk) (W : List Int) (den : Int) (k : Nat) (H : List Blk) : Prop where
  n : H.length = H0.length + 2 * k
  s : ∀ i, i < H0.length → H[i]? = H0[i]?
  t : k ≠ 0 → H[H0.length + 2 * k - 1]? = some (.cells true false 2 (outR W den k))
theorem I37.fin {H0 F : List Blk} {W : List Int} {den : Int} {k : Nat} (hF : F.length = H0.length + 2 * k) (hs : ∀ i, i < H0.length → F[i]? = H0[i]?) (a : Blk) : I37 H0 W den (k + 1) (F ++ [a, .cells true false 2 (outR W den (k + 1))]) := by
  refine ⟨by simp [hF]; omega, fun i hi => ?_, fun _ => ?_⟩
  · rw [List.getElem?_append_left (by omega)]; exact hs i hi
  · rw [show H0.length + 2 * (k + 1) - 1 = F.length + 1 by omega, List.getElem?_append_right (by omega), Nat.add_sub_cancel_left]; rfl
abbrev oS (M k : Nat) : AV := if k = 0 then .sl true 0 [] else .lsl (M + 2 * k - 1) 0 k
abbrev SL37 (M idW n k : Nat) : List (Nat × AV) := [(3, .loc 0 0 0), (7, oS M k), (22, .lsl idW 0 n), (23, i64 n), (24, i64 k)]
set_option maxHeartbeats 8000000 in
theorem k37l {np : Bool} {mi W : List Int} {den : Int} {idW n : Nat} {o1 o2 : Bool} {H0 : List Blk} (hn : n ≤ 40) (hden : 1 ≤ den ∧ den ≤ 10000000) (hW : W.length = n) (hWb : ∀ z, z < n → 0 ≤ W.getD z 0 ∧ W.getD z 0 ≤ 2000000000000)
    (h1 : H0[0]? = some (.cells o1 false 2 [[ints np mi, i64 den]])) (h2 : H0[idW]? = some (.cells o2 false 1 (W.map fun x => [i64 x]))) (K : Exit → St → Prop) {k : Nat} (hk : k < n) {H : List Blk} (hJ : I37 H0 W den k H) {bb : Nat} :
    T none Try.prog muts 46 bb c37l0 ⟨SL37 H0.length idW n k, H⟩ (thenK (fun s' => I37 H0 W den (k + 1) s'.heap ∧ (s'.only [3, 7, 22, 23, 24]).slots = SL37 H0.length idW n (k + 1)) K) := by
  have hlw := (by simp : (W.map fun x => [i64 x]).length = W.length)
  have g3 : (W.map fun x => [i64 x]).getD k [] = [i64 (W.getD k 0)] := getD_ints (by omega)
  obtain ⟨hN, hSub, hT⟩ := hJ
  have x0 := (List.getElem?_eq_some_iff.1 h1).1
  have x1 := (List.getElem?_eq_some_iff.1 h2).1
  have f1 := (hSub 0 x0).trans h1
  have f2 := (hSub idW x1).trans h2
  have a1 := at_in f1
  have a2 := at_in f2
  have y0 := (List.getElem?_eq_some_iff.1 f1).1
  have y1 := (List.getElem?_eq_some_iff.1 f2).1
  have hb := hWb k hk
  have hq : (W.getD k 0).tdiv den = W.getD k 0 / den := Int.tdiv_eq_ediv_of_nonneg hb.1
  have hc0 := ceil_quo hb.1 hden.1
  have hb1 : 0 ≤ W.getD k 0 / den ∧ W.getD k 0 / den ≤ W.getD k 0 := ⟨Int.ediv_nonneg hb.1 (by omega), Int.ediv_le_self _ hb.1⟩
  have hb2 := ceil_b hb.1 hden.1
  have hz : (den = 0) = False := by simp; omega
  have e1 : IntKind.i64.wrap ((W.getD k 0).tdiv den) = W.getD k 0 / den := by rw [hq]; exact wrapI (by omega) (by omega)
  have e2 : IntKind.i64.wrap (W.getD k 0 + den) = W.getD k 0 + den := wrapI (by omega) (by omega)
  have e3 : IntKind.i64.wrap (W.getD k 0 + den - 1) = W.getD k 0 + den - 1 := wrapI (by omega) (by omega)
  have e4 : IntKind.i64.wrap ((W.getD k 0 + den - 1).tdiv den) = ceil (W.getD k 0) den := by rw [hc0]; exact wrapI (by omega) (by omega)
  have hot := outR_len W den k
  have e := outR_snoc W den k
  have hkn : (k : Int) < (n : Int) := by omega
  by_cases hk0 : k = 0
  · subst hk0
    have f0 := PLift.up (fun a => I37.fin (W := W) (den := den) (k := 0) hN hSub a)
    rw [e] at f0
    have e0 : outR W den 0 = [] := rfl
    rw [e0] at f0
    have hN9 : H.length = H0.length := by omega
    obtain ⟨g5, g6, g7, g8⟩ := cells_sub (X := []) hN9
    have e9 : H0.length + 2 * (0 + 1) - 1 = H0.length + 1 := by omega
    replace e9 := PLift.up e9
    clear hSub hT hWb e e0 hot hq hc0 hb hb1 hb2 hden hN
    generalize W.getD 0 0 / den = qv at *
    generalize ceil (W.getD 0 0) den = cv at *
    generalize W.getD 0 0 = wv at *
    unfold c37l0
    simp only [SL37, oS, if_true]
    repeat' (first
      | ((with_reducible refine T_calm ?_ ?_); rfl)
      | with_reducible first
        | refine T_seq ?_
        | refine T_reg ?_
        | refine T_draw ?_
        | refine T_skip ?_
        | refine T_exit ?_
        | refine T_block ?_
        | refine T_cond_t rfl ?_
        | refine T_cond_f rfl ?_
        | refine wdW_cons rfl ?_
        | ((first | refine T_cond rfl (fun hc => ?_) (fun hc => ?_) | refine wguard_split (fun hc => ?_) (fun hc => ?_) | refine wguardX_split (fun hc => ?_) (fun hc => ?_)) <;> have hd := hc <;> (try simp (disch := omega) only [wrapI] at hd) <;> have hs := hd <;> (try simp only [Bool.not_eq_true', Bool.not_eq_false', Bool.and_eq_true, Bool.and_eq_false_iff, Bool.or_eq_true, Bool.or_eq_false_iff, decide_eq_true_eq, decide_eq_false_iff_not, beq_iff_eq, bne_iff_ne, beq_eq_false_iff_ne, bne_eq_false_iff_eq, Bool.not_true, Bool.not_false, gt_iff_lt, ge_iff_le, Int.not_lt, Int.not_le, ne_eq, Decidable.not_not] at hd) <;> (try simp at hs))
        | refine T_ret ?_
        | refine wif_intro ?_ (fun hc => ?_)
        | refine And.intro ?_ ?_
        | intro hc
      | simp (maxSteps := 4000000) only [wops_nil, wops_cons, wstep_none, wrun_mv, wrun_bin, wrun_build, wrun_load, wrun_faddr, wrun_iaddrS, wrun_bslice, wrun_app, wrunX_mv, wrunX_bin, wrunX_build, wrunX_load, wrunX_faddr, wrunX_bslice, wrunX_app, wdW_nil, wstepX_none, wop, aop, ev, look, put_some, writes, ores_some, ores_ite_none, binV, thenK, blockK, elsOf, szOk, value, cut, hget, fillA, putCells, AV.parts, isOne, toLits, mkAgg, ofValue_int, List.flatten_cons, List.flatten_nil, rowsOf, List.map_cons, List.map_nil, List.length_cons, List.length_nil, List.getElem?_cons_zero, List.getElem?_cons_succ, List.set_cons_zero, List.set_cons_succ, List.take_succ_cons, List.take_zero, List.take_nil, List.drop_succ_cons, List.drop_zero, List.drop_nil, List.cons_append, List.nil_append, List.append_nil, List.replicate_zero, List.replicate_succ, List.getD_cons_zero, List.all_cons, List.all_nil, List.isEmpty_cons, List.length_append, Option.getD_some, Option.map_some, if_true, if_false, Nat.reduceEqDiff, Nat.reduceAdd, Nat.reduceMul, Nat.reduceLeDiff, Nat.add_zero, Nat.zero_add, Nat.sub_zero, Nat.zero_mul, Nat.mul_one, Nat.le_refl, reduceCtorEq, Bool.and_true, Bool.or_true, Bool.false_eq_true, eq_self, true_and, and_true, and_self, decide_true, beq_self_eq_true, List.all_cons, Int.toNat_natCast, *]
      | simp (disch := omega) only [wrapI]
      | (with_reducible refine wdW_cons ?_ ?_; (next => simp [chk, foot, compatB, argsOf, St.get, target, ev, look, lidsL, hget, kind, AOp.isRaw, wids, wtops, tops, opds, topId, Int.toNat_natCast, hz, y0, y1, x0, x1]; done))
      | omega)
    all_goals first | exact f0.down _ | (simp [St.only, get_mk, look, e9.down]; done)
  · obtain ⟨g5, g6, g7, g8⟩ := cells_sub (X := []) hN
    have hT' := hT hk0
    have hML : H0.length + 2 * k - 1 < H.length := (List.getElem?_eq_some_iff.1 hT').1
    have f0 := PLift.up (fun a => I37.fin (H0 := H0) (F := H.set (H0.length + 2 * k - 1) .dead) (W := W) (den := den) (k := k) (by simp [hN]) (fun i hi => by rw [List.getElem?_set_ne (by omega)]; exact hSub i hi) a)
    rw [e] at f0
    have g9 : ∀ Y, (H ++ Y)[H0.length + 2 * k - 1]? = some (.cells true false 2 (outR W den k)) := fun Y => by rw [List.getElem?_append_left hML]; exact hT'
    have g10 : ∀ Y v, (H ++ Y).set (H0.length + 2 * k - 1) v = H.set (H0.length + 2 * k - 1) v ++ Y := fun Y v => List.set_append_left _ _ hML
    obtain ⟨g11, g12, g13, g14⟩ := cells_sub (X := []) (H := H.set (H0.length + 2 * k - 1) .dead) (N := H0.length + 2 * k) (by simp [hN])
    have t1 : List.take k (outR W den k) = outR W den k := List.take_of_length_le (by omega)
    have e9 : H0.length + 2 * (k + 1) - 1 = H0.length + 2 * k + 1 := by omega
    have hk1 : k + 1 ≠ 0 := by omega
    have y2 : 0 ≠ H0.length + 2 * k - 1 := by omega
    have y3 : idW ≠ H0.length + 2 * k - 1 := by omega
    clear hSub hT hWb e hq hc0 hb hb1 hb2 hden
    generalize W.getD k 0 / den = qv at *
    generalize ceil (W.getD k 0) den = cv at *
    generalize W.getD k 0 = wv at *
    unfold c37l0
    simp only [SL37, oS, hk0, if_false]
    generalize H0.length + 2 * k - 1 = M at *
    generalize hNe : H0.length + 2 * k = N at *
    replace hML := And.intro hML trivial
    replace hNe := And.intro hNe trivial
    replace e9 := And.intro e9 trivial
    repeat' (first
      | ((with_reducible refine T_calm ?_ ?_); rfl)
      | with_reducible first
        | refine T_seq ?_
        | refine T_reg ?_
        | refine T_draw ?_
        | refine T_skip ?_
        | refine T_exit ?_
        | refine T_block ?_
        | refine T_cond_t rfl ?_
        | refine T_cond_f rfl ?_
        | refine wdW_cons rfl ?_
        | ((first | refine T_cond rfl (fun hc => ?_) (fun hc => ?_) | refine wguard_split (fun hc => ?_) (fun hc => ?_) | refine wguardX_split (fun hc => ?_) (fun hc => ?_)) <;> have hd := hc <;> (try simp (disch := omega) only [wrapI] at hd) <;> have hs := hd <;> (try simp only [Bool.not_eq_true', Bool.not_eq_false', Bool.and_eq_true, Bool.and_eq_false_iff, Bool.or_eq_true, Bool.or_eq_false_iff, decide_eq_true_eq, decide_eq_false_iff_not, beq_iff_eq, bne_iff_ne, beq_eq_false_iff_ne, bne_eq_false_iff_eq, Bool.not_true, Bool.not_false, gt_iff_lt, ge_iff_le, Int.not_lt, Int.not_le, ne_eq, Decidable.not_not] at hd) <;> (try simp at hs))
        | refine T_ret ?_
        | refine wif_intro ?_ (fun hc => ?_)
        | refine And.intro ?_ ?_
        | intro hc
      | simp (maxSteps := 4000000) only [wops_nil, wops_cons, wstep_none, wrun_mv, wrun_bin, wrun_build, wrun_load, wrun_faddr, wrun_iaddrS, wrun_bslice, wrun_app, wrunX_mv, wrunX_bin, wrunX_build, wrunX_load, wrunX_faddr, wrunX_bslice, wrunX_app, wdW_nil, wstepX_none, wop, aop, ev, look, put_some, writes, ores_some, ores_ite_none, binV, thenK, blockK, elsOf, szOk, value, cut, hget, fillA, putCells, AV.parts, isOne, toLits, mkAgg, ofValue_int, List.flatten_cons, List.flatten_nil, rowsOf, List.map_cons, List.map_nil, List.length_cons, List.length_nil, List.getElem?_cons_zero, List.getElem?_cons_succ, List.set_cons_zero, List.set_cons_succ, List.take_succ_cons, List.take_zero, List.take_nil, List.drop_succ_cons, List.drop_zero, List.drop_nil, List.cons_append, List.nil_append, List.append_nil, List.replicate_zero, List.replicate_succ, List.getD_cons_zero, List.all_cons, List.all_nil, List.isEmpty_cons, List.length_append, Option.getD_some, Option.map_some, if_true, if_false, Nat.reduceEqDiff, Nat.reduceAdd, Nat.reduceLeDiff, Nat.add_zero, Nat.zero_add, Nat.sub_zero, Nat.zero_mul, Nat.le_refl, reduceCtorEq, Bool.and_true, Bool.and_false, Bool.or_true, Bool.false_eq_true, eq_self, true_and, and_true, and_self, decide_true, beq_self_eq_true, List.all_cons, Int.toNat_natCast, *]
      | simp (disch := omega) only [wrapI]
      | (with_reducible refine wdW_cons ?_ ?_; (next => simp [chk, foot, compatB, argsOf, St.get, target, ev, look, lidsL, hget, kind, AOp.isRaw, wids, wtops, tops, opds, topId, Int.toNat_natCast, hz, y0, y1, y2, y3]; done))
      | omega)
    all_goals first | exact f0.down _ | (simp [St.only, get_mk, look]; done)
end Go.Abs
