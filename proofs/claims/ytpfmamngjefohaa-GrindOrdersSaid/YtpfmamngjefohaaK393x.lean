import Derived.Test.YtpfmamngjefohaaK392x
set_option linter.all false
set_option linter.unusedVariables false
set_option linter.unusedSimpArgs false
set_option linter.unusedSectionVars false
namespace Go.Abs
open Go.Proofs
/-! GrindOrders: a round of the lists -/
set_option maxHeartbeats 8000000 in
theorem k12lB {nil n1 n2 n3 o nl : Bool} {l : List Sk} {lo hi : List Int} {s TT : List Ss} {x : Ss} {b : ByteArray} {wv : AV} {H0 H : List Blk} {q it : Nat} (hq : q < s.length) (hs : s.length ≤ 1000) (hT : TT.length ≤ 1000) (h00 : 0 < H0.length) (hH : H[0]? = some (.cells o nl 6 [dyR n1 lo n2 hi n3 s x])) (hI : (∀ i, i < H0.length → H[i]? = H0[i]?) ∧ H0.length ≤ H.length) (hit : H0.length ≤ it) (hTb : H[it]? = some (.cells true false 3 (ssR TT))) (hf : TT.filter (fun g => eqT g.mi b) = []) (K : Exit → St → Prop) {bb : Nat} :
    T none Try.prog muts 312 bb c12l0 ⟨SL12 nil l b wv (.lsl it 0 TT.length) (.sl true 0 []) (q : Int), H⟩ (thenK (fun s' => ∃ tv mv, I12 H0 b (TT ++ [s.getD q ss0]) tv mv s'.heap ∧ (s'.only [0, 3, 5, 6, 8, 9, 10]).slots = SL12 nil l b wv tv mv ((q : Int) - 1)) K) := by
  have hll := ssR_len s
  have hlT := ssR_len TT
  have gg := ssR_get hq
  have hqe := eqT_bin (s.getD q ss0).mi b
  have hsn := ssR_snoc TT (s.getD q ss0)
  have htk : List.take TT.length (ssR TT) = ssR TT := List.take_of_length_le (by omega)
  have y0 := (List.getElem?_eq_some_iff.1 hH).1
  have yt := (List.getElem?_eq_some_iff.1 hTb).1
  obtain ⟨u1, u2, u3, u4⟩ := cells_sub (X := []) (H := H) rfl
  have at_ := at_in hTb
  have a0 := at_in hH
  have s1 := fun Y => set_in yt Y .dead
  have hF : (H.set it .dead).length = H.length := by simp
  obtain ⟨v1, v2, v3, v4⟩ := cells_sub (X := []) hF
  have v5 : ∀ Y, (H.set it .dead ++ Y)[H.length + 2 + 1]? = Y[3]? := fun Y => v2 Y 3
  have v6 : ∀ Y v, (H.set it .dead ++ Y).set (H.length + 2 + 1) v = H.set it .dead ++ Y.set 3 v := fun Y v => v4 Y 3 v
  have b0 := at_in (look_off hH (by omega : 0 ≠ it) .dead)
  have hqi : (q : Int) < (s.length : Int) := by omega
  have d0 : decide ((q : Int) ≥ 0) = true := decide_eq_true (by omega)
  have ew : IntKind.i64.wrap ((q : Int) - 1) = (q : Int) - 1 := wrapI (by omega) (by omega)
  have pre : ∀ Y, (∀ i, i < H0.length → (H.set it .dead ++ Y)[i]? = H0[i]?) ∧ H0.length ≤ (H.set it .dead ++ Y).length := fun Y => ⟨fun i hi => by rw [List.getElem?_append_left (by rw [hF]; omega), List.getElem?_set_ne (by omega)]; exact hI.1 i hi, by rw [List.length_append, hF]; omega⟩
  have hlen : (TT ++ [s.getD q ss0]).length = TT.length + 1 := by simp
  generalize hg : s.getD q ss0 = g at *
  cases he : eqT g.mi b with
  | false =>
    rw [he] at hqe
    have fin : ∀ a, ∃ tv mv, I12 H0 b (TT ++ [g]) tv mv (H.set it .dead ++ [a, .cells true false 3 (ssR (TT ++ [g]))]) ∧ tv = .lsl (H.length + 1) 0 (TT.length + 1) ∧ mv = .sl true 0 [] := fun a =>
      ⟨_, _, ⟨pre _, .inr (.inl ⟨H.length + 1, by omega, v2 _ 1, by rw [hlen], by rw [filt_no he]; exact hf, rfl⟩)⟩, rfl, rfl⟩
    replace fin := PLift.up fin
    clear pre hI he hg hf
    generalize ssR (TT ++ [g]) = SX at *
    generalize H.set it .dead = F at *
    unfold c12l0
    repeat' (first | ((with_reducible refine T_calm ?_ ?_); rfl) | (with_reducible first | refine T_seq ?_ | refine T_reg ?_ | refine T_draw ?_ | refine T_skip ?_ | refine T_exit ?_ | refine T_block ?_ | refine T_cond_t rfl ?_ | refine T_cond_f rfl ?_ | refine wdW_cons rfl ?_ | refine T_ret ?_ | refine wif_intro ?_ (fun hc => ?_) | refine And.intro ?_ ?_ | intro hc) | simp (maxSteps := 4000000) only [wops_nil, wops_cons, wstep_none, wrun_mv, wrun_bin, wrun_load, wrun_faddr, wrun_iaddrS, wrun_bslice, wrun_app, wop, aop, ev, look, put_some, writes, ores_some, ores_ite_none, binV, thenK, blockK, elsOf, szOk, value, cut, hget, fillA, putCells, AV.parts, isOne, toLits, mkAgg, ofValue_int, ofValue_str, List.flatten_cons, List.flatten_nil, rowsOf, List.map_cons, List.map_nil, List.length_cons, List.length_nil, List.getElem?_cons_zero, List.getElem?_cons_succ, List.set_cons_zero, List.set_cons_succ, List.take_succ_cons, List.take_zero, List.take_nil, List.drop_succ_cons, List.drop_zero, List.drop_nil, List.nil_append, List.append_nil, List.replicate_zero, List.replicate_succ, List.getD_cons_zero, List.all_cons, List.all_nil, List.isEmpty_cons, List.length_append, Option.getD_some, Option.map_some, if_true, if_false, Nat.reduceEqDiff, Nat.reduceAdd, Nat.add_zero, Nat.zero_add, Nat.sub_zero, Nat.zero_mul, Nat.le_refl, reduceCtorEq, Bool.and_true, Bool.and_false, Bool.or_true, Bool.false_eq_true, eq_self, true_and, and_true, and_self, beq_self_eq_true, List.all_cons, Int.toNat_natCast, *] | simp (disch := omega) only [getD_ints, wrapI] | omega)
    obtain ⟨tv, mv, h1, rfl, rfl⟩ := fin.down _
    exact ⟨_, _, h1, by simp [St.only, get_mk, look]⟩
  | true =>
    rw [he] at hqe
    have fin : ∀ a c, ∃ tv mv, I12 H0 b (TT ++ [g]) tv mv (H.set it .dead ++ [a, .cells true false 3 (ssR (TT ++ [g])), c, .cells true false 3 (ssR [g])]) ∧ tv = .lsl (H.length + 1) 0 (TT.length + 1) ∧ mv = .lsl (H.length + 3) 0 1 := fun a c =>
      ⟨_, _, ⟨pre _, .inr (.inr ⟨H.length + 1, H.length + 3, by omega, by omega, by omega, v2 _ 1, by rw [filt_yes he, hf]; exact v2 _ 3, by rw [hlen], by rw [filt_yes he, hf]; rfl⟩)⟩, rfl, rfl⟩
    replace fin := PLift.up fin
    clear pre hI he hg hf
    generalize ssR (TT ++ [g]) = SX at *
    generalize H.set it .dead = F at *
    unfold c12l0
    repeat' (first | ((with_reducible refine T_calm ?_ ?_); rfl) | (with_reducible first | refine T_seq ?_ | refine T_reg ?_ | refine T_draw ?_ | refine T_skip ?_ | refine T_exit ?_ | refine T_block ?_ | refine T_cond_t rfl ?_ | refine T_cond_f rfl ?_ | refine wdW_cons rfl ?_ | refine T_ret ?_ | refine wif_intro ?_ (fun hc => ?_) | refine And.intro ?_ ?_ | intro hc) | simp (maxSteps := 4000000) only [wops_nil, wops_cons, wstep_none, wrun_mv, wrun_bin, wrun_load, wrun_faddr, wrun_iaddrS, wrun_bslice, wrun_app, wop, aop, ev, look, put_some, writes, ores_some, ores_ite_none, binV, thenK, blockK, elsOf, szOk, value, cut, hget, fillA, putCells, AV.parts, isOne, toLits, mkAgg, ofValue_int, ofValue_str, List.flatten_cons, List.flatten_nil, rowsOf, List.map_cons, List.map_nil, List.length_cons, List.length_nil, List.getElem?_cons_zero, List.getElem?_cons_succ, List.set_cons_zero, List.set_cons_succ, List.take_succ_cons, List.take_zero, List.take_nil, List.drop_succ_cons, List.drop_zero, List.drop_nil, List.cons_append, List.nil_append, List.append_nil, List.append_assoc, List.replicate_zero, List.replicate_succ, List.getD_cons_zero, List.all_cons, List.all_nil, List.isEmpty_cons, List.length_append, Option.getD_some, Option.map_some, if_true, if_false, Nat.reduceEqDiff, Nat.reduceAdd, Nat.reduceMul, Nat.reduceLeDiff, Nat.add_zero, Nat.zero_add, Nat.sub_zero, Nat.zero_mul, Nat.le_refl, reduceCtorEq, Bool.and_true, Bool.and_false, Bool.or_true, Bool.false_eq_true, eq_self, true_and, and_true, and_self, beq_self_eq_true, List.all_cons, Int.toNat_natCast, *] | simp (disch := omega) only [getD_ints, wrapI] | omega)
    obtain ⟨tv, mv, h1, rfl, rfl⟩ := fin.down _ _
    exact ⟨_, _, h1, by simp [St.only, get_mk, look]⟩
set_option maxHeartbeats 8000000 in
theorem k12lC {nil n1 n2 n3 o nl : Bool} {l : List Sk} {lo hi : List Int} {s TT : List Ss} {x : Ss} {b : ByteArray} {wv : AV} {H0 H : List Blk} {q it im : Nat} (hq : q < s.length) (hs : s.length ≤ 1000) (hT : TT.length ≤ 1000) (h00 : 0 < H0.length) (hH : H[0]? = some (.cells o nl 6 [dyR n1 lo n2 hi n3 s x])) (hI : (∀ i, i < H0.length → H[i]? = H0[i]?) ∧ H0.length ≤ H.length) (hit : H0.length ≤ it) (him : H0.length ≤ im) (hne : it ≠ im) (hTb : H[it]? = some (.cells true false 3 (ssR TT))) (hMb : H[im]? = some (.cells true false 3 (ssR (TT.filter fun g => eqT g.mi b)))) (K : Exit → St → Prop) {bb : Nat} :
    T none Try.prog muts 312 bb c12l0 ⟨SL12 nil l b wv (.lsl it 0 TT.length) (.lsl im 0 (TT.filter fun g => eqT g.mi b).length) (q : Int), H⟩ (thenK (fun s' => ∃ tv mv, I12 H0 b (TT ++ [s.getD q ss0]) tv mv s'.heap ∧ (s'.only [0, 3, 5, 6, 8, 9, 10]).slots = SL12 nil l b wv tv mv ((q : Int) - 1)) K) := by
  have hll := ssR_len s
  have hlT := ssR_len TT
  have gg := ssR_get hq
  have hqe := eqT_bin (s.getD q ss0).mi b
  have hsn := ssR_snoc TT (s.getD q ss0)
  have htk : List.take TT.length (ssR TT) = ssR TT := List.take_of_length_le (by omega)
  have hMl : (TT.filter fun g => eqT g.mi b).length ≤ TT.length := List.length_filter_le _ _
  have hno := PLift.up (fun h => filt_no (T := TT) (g := s.getD q ss0) (b := b) h)
  have hyes := PLift.up (fun h => filt_yes (T := TT) (g := s.getD q ss0) (b := b) h)
  generalize (TT.filter fun g => eqT g.mi b) = M at *
  have hlM := ssR_len M
  have hsm := ssR_snoc M (s.getD q ss0)
  have htm : List.take M.length (ssR M) = ssR M := List.take_of_length_le (by omega)
  have y0 := (List.getElem?_eq_some_iff.1 hH).1
  have yt := (List.getElem?_eq_some_iff.1 hTb).1
  have ym := (List.getElem?_eq_some_iff.1 hMb).1
  obtain ⟨u1, u2, u3, u4⟩ := cells_sub (X := []) (H := H) rfl
  have at_ := at_in hTb
  have a0 := at_in hH
  have s1 := fun Y => set_in yt Y .dead
  have hF : (H.set it .dead).length = H.length := by simp
  obtain ⟨v1, v2, v3, v4⟩ := cells_sub (X := []) hF
  have v5 : ∀ Y, (H.set it .dead ++ Y)[H.length + 2 + 1]? = Y[3]? := fun Y => v2 Y 3
  have v6 : ∀ Y v, (H.set it .dead ++ Y).set (H.length + 2 + 1) v = H.set it .dead ++ Y.set 3 v := fun Y v => v4 Y 3 v
  have b0 := at_in (look_off hH (by omega : 0 ≠ it) .dead)
  have hMb2 := look_off hMb (fun h => hne h.symm) .dead
  have bm := at_in hMb2
  have s2 := fun Y => set_in (H := H.set it .dead) (i := im) (by rw [hF]; exact ym) Y .dead
  have hF2 : ((H.set it .dead).set im .dead).length = H.length := by simp
  obtain ⟨w1, w2, w3, w4⟩ := cells_sub (X := []) hF2
  have w5 : ∀ Y, ((H.set it .dead).set im .dead ++ Y)[H.length + 2 + 1]? = Y[3]? := fun Y => w2 Y 3
  have w6 : ∀ Y v, ((H.set it .dead).set im .dead ++ Y).set (H.length + 2 + 1) v = (H.set it .dead).set im .dead ++ Y.set 3 v := fun Y v => w4 Y 3 v
  have hqi : (q : Int) < (s.length : Int) := by omega
  have d0 : decide ((q : Int) ≥ 0) = true := decide_eq_true (by omega)
  have ew : IntKind.i64.wrap ((q : Int) - 1) = (q : Int) - 1 := wrapI (by omega) (by omega)
  have pre : ∀ Y, (∀ i, i < H0.length → (H.set it .dead ++ Y)[i]? = H0[i]?) ∧ H0.length ≤ (H.set it .dead ++ Y).length := fun Y => ⟨fun i hi => by rw [List.getElem?_append_left (by rw [hF]; omega), List.getElem?_set_ne (by omega)]; exact hI.1 i hi, by rw [List.length_append, hF]; omega⟩
  have pre2 : ∀ Y, (∀ i, i < H0.length → ((H.set it .dead).set im .dead ++ Y)[i]? = H0[i]?) ∧ H0.length ≤ ((H.set it .dead).set im .dead ++ Y).length := fun Y => ⟨fun i hi => by rw [List.getElem?_append_left (by rw [hF2]; omega), List.getElem?_set_ne (by omega), List.getElem?_set_ne (by omega)]; exact hI.1 i hi, by rw [List.length_append, hF2]; omega⟩
  have hlen : (TT ++ [s.getD q ss0]).length = TT.length + 1 := by simp
  have hlen2 : (M ++ [s.getD q ss0]).length = M.length + 1 := by simp
  generalize hg : s.getD q ss0 = g at *
  cases he : eqT g.mi b with
  | false =>
    rw [he] at hqe
    have fin : ∀ a, ∃ tv mv, I12 H0 b (TT ++ [g]) tv mv (H.set it .dead ++ [a, .cells true false 3 (ssR (TT ++ [g]))]) ∧ tv = .lsl (H.length + 1) 0 (TT.length + 1) ∧ mv = .lsl im 0 M.length := fun a =>
      ⟨_, _, ⟨pre _, .inr (.inr ⟨H.length + 1, im, by omega, him, by omega, v2 _ 1, by rw [hno.down he]; exact bm _, by rw [hlen], by rw [hno.down he]⟩)⟩, rfl, rfl⟩
    replace fin := PLift.up fin
    clear pre pre2 hI he hg hyes hno w1 w2 w3 w4 w5 w6 hF2 s2 hMb
    generalize ssR (TT ++ [g]) = SX at *
    generalize H.set it .dead = F at *
    unfold c12l0
    repeat' (first | ((with_reducible refine T_calm ?_ ?_); rfl) | (with_reducible first | refine T_seq ?_ | refine T_reg ?_ | refine T_draw ?_ | refine T_skip ?_ | refine T_exit ?_ | refine T_block ?_ | refine T_cond_t rfl ?_ | refine T_cond_f rfl ?_ | refine wdW_cons rfl ?_ | refine T_ret ?_ | refine wif_intro ?_ (fun hc => ?_) | refine And.intro ?_ ?_ | intro hc) | simp (maxSteps := 4000000) only [wops_nil, wops_cons, wstep_none, wrun_mv, wrun_bin, wrun_load, wrun_faddr, wrun_iaddrS, wrun_bslice, wrun_app, wop, aop, ev, look, put_some, writes, ores_some, ores_ite_none, binV, thenK, blockK, elsOf, szOk, value, cut, hget, fillA, putCells, AV.parts, isOne, toLits, mkAgg, ofValue_int, ofValue_str, List.flatten_cons, List.flatten_nil, rowsOf, List.map_cons, List.map_nil, List.length_cons, List.length_nil, List.getElem?_cons_zero, List.getElem?_cons_succ, List.set_cons_zero, List.set_cons_succ, List.take_succ_cons, List.take_zero, List.take_nil, List.drop_succ_cons, List.drop_zero, List.drop_nil, List.nil_append, List.append_nil, List.replicate_zero, List.replicate_succ, List.getD_cons_zero, List.all_cons, List.all_nil, List.isEmpty_cons, List.length_append, Option.getD_some, Option.map_some, if_true, if_false, Nat.reduceEqDiff, Nat.reduceAdd, Nat.add_zero, Nat.zero_add, Nat.sub_zero, Nat.zero_mul, Nat.le_refl, reduceCtorEq, Bool.and_true, Bool.and_false, Bool.or_true, Bool.false_eq_true, eq_self, true_and, and_true, and_self, beq_self_eq_true, List.all_cons, Int.toNat_natCast, *] | simp (disch := omega) only [getD_ints, wrapI] | omega)
    obtain ⟨tv, mv, h1, rfl, rfl⟩ := fin.down _
    exact ⟨_, _, h1, by simp [St.only, get_mk, look]⟩
  | true =>
    rw [he] at hqe
    have fin : ∀ a c, ∃ tv mv, I12 H0 b (TT ++ [g]) tv mv ((H.set it .dead).set im .dead ++ [a, .cells true false 3 (ssR (TT ++ [g])), c, .cells true false 3 (ssR (M ++ [g]))]) ∧ tv = .lsl (H.length + 1) 0 (TT.length + 1) ∧ mv = .lsl (H.length + 3) 0 (M.length + 1) := fun a c =>
      ⟨_, _, ⟨pre2 _, .inr (.inr ⟨H.length + 1, H.length + 3, by omega, by omega, by omega, w2 _ 1, by rw [hyes.down he]; exact w2 _ 3, by rw [hlen], by rw [hyes.down he, hlen2]⟩)⟩, rfl, rfl⟩
    replace fin := PLift.up fin
    clear pre pre2 hI he hg hyes hno hMb
    generalize ssR (TT ++ [g]) = SX at *
    generalize ssR (M ++ [g]) = SM at *
    generalize (H.set it .dead).set im .dead = F2 at *
    generalize H.set it .dead = F at *
    unfold c12l0
    repeat' (first | ((with_reducible refine T_calm ?_ ?_); rfl) | (with_reducible first | refine T_seq ?_ | refine T_reg ?_ | refine T_draw ?_ | refine T_skip ?_ | refine T_exit ?_ | refine T_block ?_ | refine T_cond_t rfl ?_ | refine T_cond_f rfl ?_ | refine wdW_cons rfl ?_ | refine T_ret ?_ | refine wif_intro ?_ (fun hc => ?_) | refine And.intro ?_ ?_ | intro hc) | simp (maxSteps := 4000000) only [wops_nil, wops_cons, wstep_none, wrun_mv, wrun_bin, wrun_load, wrun_faddr, wrun_iaddrS, wrun_bslice, wrun_app, wop, aop, ev, look, put_some, writes, ores_some, ores_ite_none, binV, thenK, blockK, elsOf, szOk, value, cut, hget, fillA, putCells, AV.parts, isOne, toLits, mkAgg, ofValue_int, ofValue_str, List.flatten_cons, List.flatten_nil, rowsOf, List.map_cons, List.map_nil, List.length_cons, List.length_nil, List.getElem?_cons_zero, List.getElem?_cons_succ, List.set_cons_zero, List.set_cons_succ, List.take_succ_cons, List.take_zero, List.take_nil, List.drop_succ_cons, List.drop_zero, List.drop_nil, List.cons_append, List.nil_append, List.append_nil, List.append_assoc, List.replicate_zero, List.replicate_succ, List.getD_cons_zero, List.all_cons, List.all_nil, List.isEmpty_cons, List.length_append, Option.getD_some, Option.map_some, if_true, if_false, Nat.reduceEqDiff, Nat.reduceAdd, Nat.add_zero, Nat.zero_add, Nat.sub_zero, Nat.zero_mul, Nat.le_refl, reduceCtorEq, Bool.and_true, Bool.and_false, Bool.or_true, Bool.false_eq_true, eq_self, true_and, and_true, and_self, beq_self_eq_true, List.all_cons, Int.toNat_natCast, *] | simp (disch := omega) only [getD_ints, wrapI] | omega)
    obtain ⟨tv, mv, h1, rfl, rfl⟩ := fin.down _ _
    exact ⟨_, _, h1, by simp [St.only, get_mk, look]⟩
end Go.Abs
