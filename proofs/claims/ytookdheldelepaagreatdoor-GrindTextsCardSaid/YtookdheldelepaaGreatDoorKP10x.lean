import Derived.Test.YtookdheldelepaaGreatDoorKP9x
set_option linter.all false
set_option linter.unusedVariables false
set_option linter.unusedSimpArgs false
set_option linter.unusedSectionVars false
namespace Go.Abs
open Go.Proofs
/-! the program's Parse: a line that is read -/
set_option maxHeartbeats 8000000 in
theorem k15y0e {M : List Ln} {io : Nat} {H : List Blk} {ln w n : ByteArray} {l : List Int} {c4 : Blk} {k lp : Nat} (hl : k ≤ 1000000) (hk : M.length = k) (hJ : J15 M io H) (h4 : H[4]? = some c4) (hm4 : ∀ (z : Bool) (E : List (List AV)), c4 ≠ .cells true z 2 E) (hm : M = []) (h0 : l = []) (h47 : Fn Tryz.prog 47 [strV ln, strV ⟨#[10]⟩] (.tup [strV w, bl true]) []) (h48 : Fn Tryz.prog 48 [strV w] (rdV (some (n, l))) (rdB (some (n, l)))) :
    T (some lp) Tryz.prog muts 51 H.length c15r0 ⟨SL15 ln, H⟩ (fun e s => e = .normal ∧ ∃ io', J15 (M ++ [(n, l)]) io' s.heap ∧ s.heap[4]? = some c4) := by
  have hlt := (List.getElem?_eq_some_iff.1 hJ.lp).1
  have ap : ∀ (i : Nat) (b : Blk), H[i]? = some b → ∀ Y, (H ++ Y)[i]? = some b := fun i b h Y => by rw [List.getElem?_append_left (List.getElem?_eq_some_iff.1 h).1]; exact h
  have a3 := hJ.ou
  obtain ⟨N, hN⟩ : ∃ N, H.length = N := ⟨_, rfl⟩
  obtain ⟨g1, g2, g3, g4⟩ := cells_sub (X := []) hN
  have n2 : N + 1 + 1 = N + 2 := by omega
  have n3 : N + 2 + 1 = N + 3 := by omega
  subst h0
  subst hm
  simp only [List.length_nil] at hk
  subst hk
  simp only [ouV, List.length_nil, if_true] at a3
  have a3' := ap 3 _ a3
  have s3 : ∀ Y v, (H ++ Y).set 3 v = H.set 3 v ++ Y := fun Y v => List.set_append_left _ _ (by omega)
  obtain ⟨r1, r2, r3, r4⟩ := cells_sub (X := []) (H := H.set 3 (.cells true false 1 [[.lsl (N + 2) 0 1]])) (N := N) (by simp [hN])
  have fin : ∀ a b : Blk, J15 [(n, [])] (N + 2) (H.set 3 (.cells true false 1 [[.lsl (N + 2) 0 1]]) ++ [a, b, .cells true false 2 [[strV n, .sl true 0 []]]]) ∧ (H.set 3 (.cells true false 1 [[.lsl (N + 2) 0 1]]) ++ [a, b, .cells true false 2 [[strV n, .sl true 0 []]]])[4]? = some c4 := fun a b =>
    ⟨hJ.first (by rw [r2]; rfl) (rds_lit _) (.inl rfl), by rw [List.getElem?_append_left (by simp; omega), List.getElem?_set_ne (by decide)]; exact h4⟩
  replace fin := PLift.up fin
  replace h4 := PLift.up h4
  clear hJ ap hm4
  simp only [rdV, rdB, wvV, wvB, if_true] at h48
  unfold c15r0
  simp only [SL15]
  repeat' (first | ((with_reducible refine T_calm ?_ ?_); rfl) | (with_reducible first | refine T_seq ?_ | refine T_reg ?_ | refine T_draw ?_ | refine T_skip ?_ | refine T_exit ?_ | refine T_block ?_ | refine T_cond_t rfl ?_ | refine T_cond_f rfl ?_ | refine wdW_cons rfl ?_ | (show wcall _ false (.lit (.func (.func 47) _ _)) _ _ _ _; refine wcall_fn (h47) rfl (by simp [plainL, plain]) ?_) | (show wcallX _ false (.lit (.func (.func 47) _ _)) _ _ _ _; refine wcallX_fn (h47) rfl (by simp [plainL, plain, plainR, hN, renR_ints]) ?_) | (show wcall _ false (.lit (.func (.func 48) _ _)) _ _ _ _; refine wcall_fn (h48) rfl (by simp [plainL, plain]) ?_) | (show wcallX _ false (.lit (.func (.func 48) _ _)) _ _ _ _; refine wcallX_fn (h48) rfl (by simp [plainL, plain, plainR, hN, renR_ints]) ?_) | refine T_ret ?_ | refine leave_of (.inr rfl) _ rfl ?_ | refine leave_of (.inl rfl) _ rfl ?_ | refine wif_intro ?_ (fun hc => ?_) | refine And.intro ?_ ?_ | intro hc) | simp (maxSteps := 4000000) only [wops_nil, wops_cons, wstep_none, wstep_some, wguard_ff, wrun_call, wrun_mv, wrun_pick, wrun_not, wrun_ext, wrun_load, wrun_store, wrun_alloc, wrun_bslice, wrun_app, wop, aop, ev, look, put_some, put_none, writes, ores_some, thenK, blockK, boolV, elsOf, szOk, value, cut, hget, fillA, putCells, AV.parts, isOne, toLits, mkAgg, List.flatten_cons, List.flatten_nil, rowsOf, List.map_cons, List.map_nil, List.length_cons, List.length_nil, List.getElem?_cons_zero, List.getElem?_cons_succ, List.set_cons_zero, List.set_cons_succ, List.take_succ_cons, List.take_zero, List.take_nil, List.drop_succ_cons, List.drop_zero, List.drop_nil, List.cons_append, List.nil_append, List.append_nil, List.append_assoc, List.replicate_zero, List.replicate_succ, List.getD_cons_zero, List.all_cons, List.all_nil, List.isEmpty_cons, List.length_append, Option.getD_some, Option.map_some, Option.map_none, if_true, if_false, Nat.reduceEqDiff, Nat.reduceAdd, Nat.reduceMul, Nat.reduceLeDiff, Nat.reduceLT, Nat.add_zero, Nat.zero_add, Nat.sub_zero, Nat.zero_mul, Nat.le_refl, Bool.not_true, Bool.and_true, Bool.or_true, Bool.false_eq_true, eq_self, true_and, and_self, beq_self_eq_true, freeze, lidsL, lids, List.flatMap_cons, List.flatMap_nil, List.all_cons, ren, renL, renR, *] | simp (disch := omega) only [getD_ints, wrapI] | (with_reducible show wcall _ false (.lit (.func (.func 47) _ _)) _ _ _ _; refine wcall_fn (h47) ?_ ?_ ?_; (next => simp [rfyL, rfy, hget, ints, take_rfy, hN, renR_ints]); (next => simp [plainL, plain, plainR, hN, renR_ints])) | (with_reducible show wcallX _ false (.lit (.func (.func 47) _ _)) _ _ _ _; refine wcallX_fn (h47) ?_ ?_ ?_; (next => simp [rfyL, rfy, hget, ints, take_rfy, hN, renR_ints]); (next => simp [plainL, plain, plainR, hN, renR_ints])) | (with_reducible show wcall _ false (.lit (.func (.func 48) _ _)) _ _ _ _; refine wcall_fn (h48) ?_ ?_ ?_; (next => simp [rfyL, rfy, hget, ints, take_rfy, hN, renR_ints]); (next => simp [plainL, plain, plainR, hN, renR_ints])) | (with_reducible show wcallX _ false (.lit (.func (.func 48) _ _)) _ _ _ _; refine wcallX_fn (h48) ?_ ?_ ?_; (next => simp [rfyL, rfy, hget, ints, take_rfy, hN, renR_ints]); (next => simp [plainL, plain, plainR, hN, renR_ints])) | omega)
  all_goals first | exact ⟨_, fin.down _ _⟩ | exact ⟨_, (fin.down _ _).1, (fin.down _ _).2⟩
set_option maxHeartbeats 8000000 in
theorem k15y0v {M : List Ln} {io : Nat} {H : List Blk} {ln w n : ByteArray} {l : List Int} {c4 : Blk} {k lp : Nat} (hl : k ≤ 1000000) (hk : M.length = k) (hJ : J15 M io H) (h4 : H[4]? = some c4) (hm4 : ∀ (z : Bool) (E : List (List AV)), c4 ≠ .cells true z 2 E) (hm : M = []) (h0 : l ≠ []) (h47 : Fn Tryz.prog 47 [strV ln, strV ⟨#[10]⟩] (.tup [strV w, bl true]) []) (h48 : Fn Tryz.prog 48 [strV w] (rdV (some (n, l))) (rdB (some (n, l)))) :
    T (some lp) Tryz.prog muts 51 H.length c15r0 ⟨SL15 ln, H⟩ (fun e s => e = .normal ∧ ∃ io', J15 (M ++ [(n, l)]) io' s.heap ∧ s.heap[4]? = some c4) := by
  have hlt := (List.getElem?_eq_some_iff.1 hJ.lp).1
  have ap : ∀ (i : Nat) (b : Blk), H[i]? = some b → ∀ Y, (H ++ Y)[i]? = some b := fun i b h Y => by rw [List.getElem?_append_left (List.getElem?_eq_some_iff.1 h).1]; exact h
  have a3 := hJ.ou
  obtain ⟨N, hN⟩ : ∃ N, H.length = N := ⟨_, rfl⟩
  obtain ⟨g1, g2, g3, g4⟩ := cells_sub (X := []) hN
  have n2 : N + 1 + 1 = N + 2 := by omega
  have n3 : N + 2 + 1 = N + 3 := by omega
  subst hm
  simp only [List.length_nil] at hk
  subst hk
  simp only [ouV, List.length_nil, if_true] at a3
  have a3' := ap 3 _ a3
  have s3 : ∀ Y v, (H ++ Y).set 3 v = H.set 3 v ++ Y := fun Y v => List.set_append_left _ _ (by omega)
  obtain ⟨r1, r2, r3, r4⟩ := cells_sub (X := []) (H := H.set 3 (.cells true false 1 [[.lsl (N + 3) 0 1]])) (N := N) (by simp [hN])
  have fin : ∀ a b : Blk, J15 [(n, l)] (N + 3) (H.set 3 (.cells true false 1 [[.lsl (N + 3) 0 1]]) ++ [a, .cells true false 1 (l.map fun x => [i64 x]), b, .cells true false 2 [[strV n, .lsl (N + 1) 0 l.length]]]) ∧ (H.set 3 (.cells true false 1 [[.lsl (N + 3) 0 1]]) ++ [a, .cells true false 1 (l.map fun x => [i64 x]), b, .cells true false 2 [[strV n, .lsl (N + 1) 0 l.length]]])[4]? = some c4 := fun a b =>
    ⟨hJ.first (by rw [r2]; rfl) (rds_blk h0 (o := true) (by rw [r2]; rfl)) (.inr ⟨_, _, rfl, by omega⟩), by rw [List.getElem?_append_left (by simp; omega), List.getElem?_set_ne (by decide)]; exact h4⟩
  replace fin := PLift.up fin
  replace h4 := PLift.up h4
  clear hJ ap hm4
  simp only [rdV, rdB, wvV, wvB, h0, if_false] at h48
  unfold c15r0
  simp only [SL15]
  repeat' (first | ((with_reducible refine T_calm ?_ ?_); rfl) | (with_reducible first | refine T_seq ?_ | refine T_reg ?_ | refine T_draw ?_ | refine T_skip ?_ | refine T_exit ?_ | refine T_block ?_ | refine T_cond_t rfl ?_ | refine T_cond_f rfl ?_ | refine wdW_cons rfl ?_ | (show wcall _ false (.lit (.func (.func 47) _ _)) _ _ _ _; refine wcall_fn (h47) rfl (by simp [plainL, plain]) ?_) | (show wcallX _ false (.lit (.func (.func 47) _ _)) _ _ _ _; refine wcallX_fn (h47) rfl (by simp [plainL, plain, plainR, hN, renR_ints]) ?_) | (show wcall _ false (.lit (.func (.func 48) _ _)) _ _ _ _; refine wcall_fn (h48) rfl (by simp [plainL, plain]) ?_) | (show wcallX _ false (.lit (.func (.func 48) _ _)) _ _ _ _; refine wcallX_fn (h48) rfl (by simp [plainL, plain, plainR, hN, renR_ints]) ?_) | refine T_ret ?_ | refine leave_of (.inr rfl) _ rfl ?_ | refine leave_of (.inl rfl) _ rfl ?_ | refine wif_intro ?_ (fun hc => ?_) | refine And.intro ?_ ?_ | intro hc) | simp (maxSteps := 4000000) only [wops_nil, wops_cons, wstep_none, wstep_some, wguard_ff, wrun_call, wrun_mv, wrun_pick, wrun_not, wrun_ext, wrun_load, wrun_store, wrun_alloc, wrun_bslice, wrun_app, wop, aop, ev, look, put_some, put_none, writes, ores_some, thenK, blockK, boolV, elsOf, szOk, value, cut, hget, fillA, putCells, AV.parts, isOne, toLits, mkAgg, List.flatten_cons, List.flatten_nil, rowsOf, List.map_cons, List.map_nil, List.length_cons, List.length_nil, List.getElem?_cons_zero, List.getElem?_cons_succ, List.set_cons_zero, List.set_cons_succ, List.take_succ_cons, List.take_zero, List.take_nil, List.drop_succ_cons, List.drop_zero, List.drop_nil, List.cons_append, List.nil_append, List.append_nil, List.append_assoc, List.replicate_zero, List.replicate_succ, List.getD_cons_zero, List.all_cons, List.all_nil, List.isEmpty_cons, List.length_append, Option.getD_some, Option.map_some, Option.map_none, if_true, if_false, Nat.reduceEqDiff, Nat.reduceAdd, Nat.reduceMul, Nat.reduceLeDiff, Nat.reduceLT, Nat.add_zero, Nat.zero_add, Nat.sub_zero, Nat.zero_mul, Nat.le_refl, Bool.not_true, Bool.and_true, Bool.or_true, Bool.false_eq_true, eq_self, true_and, and_self, beq_self_eq_true, freeze, lidsL, lids, List.flatMap_cons, List.flatMap_nil, List.all_cons, ren, renL, renB, shiftρ, renR_ints, renR_ints, *] | simp (disch := omega) only [getD_ints, wrapI] | (with_reducible show wcall _ false (.lit (.func (.func 47) _ _)) _ _ _ _; refine wcall_fn (h47) ?_ ?_ ?_; (next => simp [rfyL, rfy, hget, ints, take_rfy, hN, renR_ints]); (next => simp [plainL, plain, plainR, hN, renR_ints])) | (with_reducible show wcallX _ false (.lit (.func (.func 47) _ _)) _ _ _ _; refine wcallX_fn (h47) ?_ ?_ ?_; (next => simp [rfyL, rfy, hget, ints, take_rfy, hN, renR_ints]); (next => simp [plainL, plain, plainR, hN, renR_ints])) | (with_reducible show wcall _ false (.lit (.func (.func 48) _ _)) _ _ _ _; refine wcall_fn (h48) ?_ ?_ ?_; (next => simp [rfyL, rfy, hget, ints, take_rfy, hN, renR_ints]); (next => simp [plainL, plain, plainR, hN, renR_ints])) | (with_reducible show wcallX _ false (.lit (.func (.func 48) _ _)) _ _ _ _; refine wcallX_fn (h48) ?_ ?_ ?_; (next => simp [rfyL, rfy, hget, ints, take_rfy, hN, renR_ints]); (next => simp [plainL, plain, plainR, hN, renR_ints])) | omega)
  all_goals first | exact ⟨_, fin.down _ _⟩ | exact ⟨_, (fin.down _ _).1, (fin.down _ _).2⟩
set_option maxHeartbeats 8000000 in
theorem k15y1e {M : List Ln} {io : Nat} {H : List Blk} {ln w n : ByteArray} {l : List Int} {c4 : Blk} {k lp : Nat} (hl : k ≤ 1000000) (hk : M.length = k) (hJ : J15 M io H) (h4 : H[4]? = some c4) (hm4 : ∀ (z : Bool) (E : List (List AV)), c4 ≠ .cells true z 2 E) (hm : M ≠ []) (h0 : l = []) (h47 : Fn Tryz.prog 47 [strV ln, strV ⟨#[10]⟩] (.tup [strV w, bl true]) []) (h48 : Fn Tryz.prog 48 [strV w] (rdV (some (n, l))) (rdB (some (n, l)))) :
    T (some lp) Tryz.prog muts 51 H.length c15r0 ⟨SL15 ln, H⟩ (fun e s => e = .normal ∧ ∃ io', J15 (M ++ [(n, l)]) io' s.heap ∧ s.heap[4]? = some c4) := by
  have hlt := (List.getElem?_eq_some_iff.1 hJ.lp).1
  have ap : ∀ (i : Nat) (b : Blk), H[i]? = some b → ∀ Y, (H ++ Y)[i]? = some b := fun i b h Y => by rw [List.getElem?_append_left (List.getElem?_eq_some_iff.1 h).1]; exact h
  have a3 := hJ.ou
  obtain ⟨N, hN⟩ : ∃ N, H.length = N := ⟨_, rfl⟩
  obtain ⟨g1, g2, g3, g4⟩ := cells_sub (X := []) hN
  have n2 : N + 1 + 1 = N + 2 := by omega
  have n3 : N + 2 + 1 = N + 3 := by omega
  subst h0
  obtain ⟨E, hE, hS, hB⟩ := hJ.st hm
  have aE := ap io _ hE
  have hEl : E.length = k := by rw [hS.1]; exact hk
  have hio : io < H.length := (List.getElem?_eq_some_iff.1 hE).1
  have hk0 : k ≠ 0 := by rintro rfl; exact hm (List.eq_nil_of_length_eq_zero hk)
  have q3 : io ≠ 3 := fun e => by rw [e, hJ.ou] at hE; simp at hE
  have q4 : io ≠ 4 := fun e => by rw [e, h4] at hE; exact hm4 _ _ (Option.some.inj hE)
  have p3 := Ne.symm q3
  rw [hk] at a3
  simp only [ouV, hk0, if_false] at a3
  have a3' := ap 3 _ a3
  have t1 : List.take k E = E := List.take_of_length_le (by omega)
  have sd : ∀ Y v, (H ++ Y).set io v = H.set io v ++ Y := fun Y v => List.set_append_left _ _ hio
  have d3 : ∀ Y v, (H.set io v ++ Y)[3]? = some (.cells true false 1 [[.lsl io 0 k]]) := fun Y v => by rw [List.getElem?_append_left (by simp; omega), List.getElem?_set_ne q3]; exact a3
  have s3 : ∀ Y u v, (H.set io u ++ Y).set 3 v = (H.set io u).set 3 v ++ Y := fun Y u v => List.set_append_left _ _ (by simp; omega)
  obtain ⟨y1, y2, y3, y4⟩ := cells_sub (X := []) (H := H.set io .dead) (N := N) (by simp [hN])
  obtain ⟨r1, r2, r3, r4⟩ := cells_sub (X := []) (H := (H.set io .dead).set 3 (.cells true false 1 [[.lsl (N + 2) 0 (k + 1)]])) (N := N) (by simp [hN])
  have fin : ∀ a b : Blk, J15 (M ++ [(n, [])]) (N + 2) ((H.set io .dead).set 3 (.cells true false 1 [[.lsl (N + 2) 0 (k + 1)]]) ++ [a, b, .cells true false 2 (E ++ [[strV n, .sl true 0 []]])]) ∧ ((H.set io .dead).set 3 (.cells true false 1 [[.lsl (N + 2) 0 (k + 1)]]) ++ [a, b, .cells true false 2 (E ++ [[strV n, .sl true 0 []]])])[4]? = some c4 := fun a b =>
    ⟨hJ.next hE hS hB hk hm (by rw [r2]; rfl) (rds_lit _) (.inl rfl), by rw [List.getElem?_append_left (by simp; omega), List.getElem?_set_ne (by decide), List.getElem?_set_ne q4]; exact h4⟩
  have hk2 : (k + 1) * 40 ≤ 140737488355328 := by omega
  replace hk0 := And.intro hk0 trivial
  replace hm := PLift.up hm
  replace hio := And.intro hio trivial
  replace fin := PLift.up fin
  replace h4 := PLift.up h4
  clear hJ ap hm4
  simp only [rdV, rdB, wvV, wvB, if_true] at h48
  unfold c15r0
  simp only [SL15]
  repeat' (first | ((with_reducible refine T_calm ?_ ?_); rfl) | (with_reducible first | refine T_seq ?_ | refine T_reg ?_ | refine T_draw ?_ | refine T_skip ?_ | refine T_exit ?_ | refine T_block ?_ | refine T_cond_t rfl ?_ | refine T_cond_f rfl ?_ | refine wdW_cons rfl ?_ | (show wcall _ false (.lit (.func (.func 47) _ _)) _ _ _ _; refine wcall_fn (h47) rfl (by simp [plainL, plain]) ?_) | (show wcallX _ false (.lit (.func (.func 47) _ _)) _ _ _ _; refine wcallX_fn (h47) rfl (by simp [plainL, plain, plainR, hN, renR_ints, t1, q3, p3]) ?_) | (show wcall _ false (.lit (.func (.func 48) _ _)) _ _ _ _; refine wcall_fn (h48) rfl (by simp [plainL, plain]) ?_) | (show wcallX _ false (.lit (.func (.func 48) _ _)) _ _ _ _; refine wcallX_fn (h48) rfl (by simp [plainL, plain, plainR, hN, renR_ints, t1, q3, p3]) ?_) | refine T_ret ?_ | refine leave_of (.inr rfl) _ rfl ?_ | refine leave_of (.inl rfl) _ rfl ?_ | refine wif_intro ?_ (fun hc => ?_) | refine And.intro ?_ ?_ | intro hc) | simp (maxSteps := 4000000) only [wops_nil, wops_cons, wstep_none, wstep_some, wguard_ff, wrun_call, wrun_mv, wrun_pick, wrun_not, wrun_ext, wrun_load, wrun_store, wrun_alloc, wrun_bslice, wrun_app, wop, aop, ev, look, put_some, put_none, writes, ores_some, thenK, blockK, boolV, elsOf, szOk, value, cut, hget, fillA, putCells, AV.parts, isOne, toLits, mkAgg, List.flatten_cons, List.flatten_nil, rowsOf, List.map_cons, List.map_nil, List.length_cons, List.length_nil, List.getElem?_cons_zero, List.getElem?_cons_succ, List.set_cons_zero, List.set_cons_succ, List.take_succ_cons, List.take_zero, List.take_nil, List.drop_succ_cons, List.drop_zero, List.drop_nil, List.cons_append, List.nil_append, List.append_nil, List.append_assoc, List.replicate_zero, List.replicate_succ, List.getD_cons_zero, List.all_cons, List.all_nil, List.isEmpty_cons, List.length_append, Option.getD_some, Option.map_some, Option.map_none, if_true, if_false, Nat.reduceEqDiff, Nat.reduceAdd, Nat.reduceLT, Nat.add_zero, Nat.zero_add, Nat.sub_zero, Nat.zero_mul, Nat.le_refl, Bool.not_true, Bool.and_true, Bool.and_false, Bool.or_true, Bool.false_eq_true, eq_self, true_and, and_self, beq_self_eq_true, freeze, lidsL, lids, List.flatMap_cons, List.flatMap_nil, List.all_cons, ren, renL, renR, *] | simp (disch := omega) only [getD_ints, wrapI] | (with_reducible show wcall _ false (.lit (.func (.func 47) _ _)) _ _ _ _; refine wcall_fn (h47) ?_ ?_ ?_; (next => simp [rfyL, rfy, hget, ints, take_rfy, hN, renR_ints, t1, q3, p3]); (next => simp [plainL, plain, plainR, hN, renR_ints, t1, q3, p3])) | (with_reducible show wcallX _ false (.lit (.func (.func 47) _ _)) _ _ _ _; refine wcallX_fn (h47) ?_ ?_ ?_; (next => simp [rfyL, rfy, hget, ints, take_rfy, hN, renR_ints, t1, q3, p3]); (next => simp [plainL, plain, plainR, hN, renR_ints, t1, q3, p3])) | (with_reducible show wcall _ false (.lit (.func (.func 48) _ _)) _ _ _ _; refine wcall_fn (h48) ?_ ?_ ?_; (next => simp [rfyL, rfy, hget, ints, take_rfy, hN, renR_ints, t1, q3, p3]); (next => simp [plainL, plain, plainR, hN, renR_ints, t1, q3, p3])) | (with_reducible show wcallX _ false (.lit (.func (.func 48) _ _)) _ _ _ _; refine wcallX_fn (h48) ?_ ?_ ?_; (next => simp [rfyL, rfy, hget, ints, take_rfy, hN, renR_ints, t1, q3, p3]); (next => simp [plainL, plain, plainR, hN, renR_ints, t1, q3, p3])) | (with_reducible refine wdW_cons ?_ ?_; (next => simp [chk, foot, compatB, argsOf, St.get, target, ev, look, lidsL, hget, kind, AOp.isRaw, wids, wtops, tops, opds, topId, hN, renR_ints, t1, q3, p3]; done)) | omega)
  all_goals first | exact ⟨_, fin.down _ _⟩ | exact ⟨_, (fin.down _ _).1, (fin.down _ _).2⟩
set_option maxHeartbeats 8000000 in
theorem k15y1v {M : List Ln} {io : Nat} {H : List Blk} {ln w n : ByteArray} {l : List Int} {c4 : Blk} {k lp : Nat} (hl : k ≤ 1000000) (hk : M.length = k) (hJ : J15 M io H) (h4 : H[4]? = some c4) (hm4 : ∀ (z : Bool) (E : List (List AV)), c4 ≠ .cells true z 2 E) (hm : M ≠ []) (h0 : l ≠ []) (h47 : Fn Tryz.prog 47 [strV ln, strV ⟨#[10]⟩] (.tup [strV w, bl true]) []) (h48 : Fn Tryz.prog 48 [strV w] (rdV (some (n, l))) (rdB (some (n, l)))) :
    T (some lp) Tryz.prog muts 51 H.length c15r0 ⟨SL15 ln, H⟩ (fun e s => e = .normal ∧ ∃ io', J15 (M ++ [(n, l)]) io' s.heap ∧ s.heap[4]? = some c4) := by
  have hlt := (List.getElem?_eq_some_iff.1 hJ.lp).1
  have ap : ∀ (i : Nat) (b : Blk), H[i]? = some b → ∀ Y, (H ++ Y)[i]? = some b := fun i b h Y => by rw [List.getElem?_append_left (List.getElem?_eq_some_iff.1 h).1]; exact h
  have a3 := hJ.ou
  obtain ⟨N, hN⟩ : ∃ N, H.length = N := ⟨_, rfl⟩
  obtain ⟨g1, g2, g3, g4⟩ := cells_sub (X := []) hN
  have n2 : N + 1 + 1 = N + 2 := by omega
  have n3 : N + 2 + 1 = N + 3 := by omega
  obtain ⟨E, hE, hS, hB⟩ := hJ.st hm
  have aE := ap io _ hE
  have hEl : E.length = k := by rw [hS.1]; exact hk
  have hio : io < H.length := (List.getElem?_eq_some_iff.1 hE).1
  have hk0 : k ≠ 0 := by rintro rfl; exact hm (List.eq_nil_of_length_eq_zero hk)
  have q3 : io ≠ 3 := fun e => by rw [e, hJ.ou] at hE; simp at hE
  have q4 : io ≠ 4 := fun e => by rw [e, h4] at hE; exact hm4 _ _ (Option.some.inj hE)
  have p3 := Ne.symm q3
  rw [hk] at a3
  simp only [ouV, hk0, if_false] at a3
  have a3' := ap 3 _ a3
  have t1 : List.take k E = E := List.take_of_length_le (by omega)
  have sd : ∀ Y v, (H ++ Y).set io v = H.set io v ++ Y := fun Y v => List.set_append_left _ _ hio
  have d3 : ∀ Y v, (H.set io v ++ Y)[3]? = some (.cells true false 1 [[.lsl io 0 k]]) := fun Y v => by rw [List.getElem?_append_left (by simp; omega), List.getElem?_set_ne q3]; exact a3
  have s3 : ∀ Y u v, (H.set io u ++ Y).set 3 v = (H.set io u).set 3 v ++ Y := fun Y u v => List.set_append_left _ _ (by simp; omega)
  obtain ⟨y1, y2, y3, y4⟩ := cells_sub (X := []) (H := H.set io .dead) (N := N) (by simp [hN])
  obtain ⟨r1, r2, r3, r4⟩ := cells_sub (X := []) (H := (H.set io .dead).set 3 (.cells true false 1 [[.lsl (N + 3) 0 (k + 1)]])) (N := N) (by simp [hN])
  have fin : ∀ a b : Blk, J15 (M ++ [(n, l)]) (N + 3) ((H.set io .dead).set 3 (.cells true false 1 [[.lsl (N + 3) 0 (k + 1)]]) ++ [a, .cells true false 1 (l.map fun x => [i64 x]), b, .cells true false 2 (E ++ [[strV n, .lsl (N + 1) 0 l.length]])]) ∧ ((H.set io .dead).set 3 (.cells true false 1 [[.lsl (N + 3) 0 (k + 1)]]) ++ [a, .cells true false 1 (l.map fun x => [i64 x]), b, .cells true false 2 (E ++ [[strV n, .lsl (N + 1) 0 l.length]])])[4]? = some c4 := fun a b =>
    ⟨hJ.next hE hS hB hk hm (by rw [r2]; rfl) (rds_blk h0 (o := true) (by rw [r2]; rfl)) (.inr ⟨_, _, rfl, by omega⟩), by rw [List.getElem?_append_left (by simp; omega), List.getElem?_set_ne (by decide), List.getElem?_set_ne q4]; exact h4⟩
  have hk2 : (k + 1) * 40 ≤ 140737488355328 := by omega
  replace hk0 := And.intro hk0 trivial
  replace hm := PLift.up hm
  replace hio := And.intro hio trivial
  replace fin := PLift.up fin
  replace h4 := PLift.up h4
  clear hJ ap hm4
  simp only [rdV, rdB, wvV, wvB, h0, if_false] at h48
  unfold c15r0
  simp only [SL15]
  repeat' (first | ((with_reducible refine T_calm ?_ ?_); rfl) | (with_reducible first | refine T_seq ?_ | refine T_reg ?_ | refine T_draw ?_ | refine T_skip ?_ | refine T_exit ?_ | refine T_block ?_ | refine T_cond_t rfl ?_ | refine T_cond_f rfl ?_ | refine wdW_cons rfl ?_ | (show wcall _ false (.lit (.func (.func 47) _ _)) _ _ _ _; refine wcall_fn (h47) rfl (by simp [plainL, plain]) ?_) | (show wcallX _ false (.lit (.func (.func 47) _ _)) _ _ _ _; refine wcallX_fn (h47) rfl (by simp [plainL, plain, plainR, hN, renR_ints, t1, q3, p3]) ?_) | (show wcall _ false (.lit (.func (.func 48) _ _)) _ _ _ _; refine wcall_fn (h48) rfl (by simp [plainL, plain]) ?_) | (show wcallX _ false (.lit (.func (.func 48) _ _)) _ _ _ _; refine wcallX_fn (h48) rfl (by simp [plainL, plain, plainR, hN, renR_ints, t1, q3, p3]) ?_) | refine T_ret ?_ | refine leave_of (.inr rfl) _ rfl ?_ | refine leave_of (.inl rfl) _ rfl ?_ | refine wif_intro ?_ (fun hc => ?_) | refine And.intro ?_ ?_ | intro hc) | simp (maxSteps := 4000000) only [wops_nil, wops_cons, wstep_none, wstep_some, wguard_ff, wrun_call, wrun_mv, wrun_pick, wrun_not, wrun_ext, wrun_load, wrun_store, wrun_alloc, wrun_bslice, wrun_app, wop, aop, ev, look, put_some, put_none, writes, ores_some, thenK, blockK, boolV, elsOf, szOk, value, cut, hget, fillA, putCells, AV.parts, isOne, toLits, mkAgg, List.flatten_cons, List.flatten_nil, rowsOf, List.map_cons, List.map_nil, List.length_cons, List.length_nil, List.getElem?_cons_zero, List.getElem?_cons_succ, List.set_cons_zero, List.set_cons_succ, List.take_succ_cons, List.take_zero, List.take_nil, List.drop_succ_cons, List.drop_zero, List.drop_nil, List.cons_append, List.nil_append, List.append_nil, List.append_assoc, List.replicate_zero, List.replicate_succ, List.getD_cons_zero, List.all_cons, List.all_nil, List.isEmpty_cons, List.length_append, Option.getD_some, Option.map_some, Option.map_none, if_true, if_false, Nat.reduceEqDiff, Nat.reduceAdd, Nat.reduceLT, Nat.add_zero, Nat.zero_add, Nat.sub_zero, Nat.zero_mul, Nat.le_refl, Bool.not_true, Bool.and_true, Bool.and_false, Bool.or_true, Bool.false_eq_true, eq_self, true_and, and_self, beq_self_eq_true, freeze, lidsL, lids, List.flatMap_cons, List.flatMap_nil, List.all_cons, ren, renL, renB, shiftρ, renR_ints, renR_ints, *] | simp (disch := omega) only [getD_ints, wrapI] | (with_reducible show wcall _ false (.lit (.func (.func 47) _ _)) _ _ _ _; refine wcall_fn (h47) ?_ ?_ ?_; (next => simp [rfyL, rfy, hget, ints, take_rfy, hN, renR_ints, t1, q3, p3]); (next => simp [plainL, plain, plainR, hN, renR_ints, t1, q3, p3])) | (with_reducible show wcallX _ false (.lit (.func (.func 47) _ _)) _ _ _ _; refine wcallX_fn (h47) ?_ ?_ ?_; (next => simp [rfyL, rfy, hget, ints, take_rfy, hN, renR_ints, t1, q3, p3]); (next => simp [plainL, plain, plainR, hN, renR_ints, t1, q3, p3])) | (with_reducible show wcall _ false (.lit (.func (.func 48) _ _)) _ _ _ _; refine wcall_fn (h48) ?_ ?_ ?_; (next => simp [rfyL, rfy, hget, ints, take_rfy, hN, renR_ints, t1, q3, p3]); (next => simp [plainL, plain, plainR, hN, renR_ints, t1, q3, p3])) | (with_reducible show wcallX _ false (.lit (.func (.func 48) _ _)) _ _ _ _; refine wcallX_fn (h48) ?_ ?_ ?_; (next => simp [rfyL, rfy, hget, ints, take_rfy, hN, renR_ints, t1, q3, p3]); (next => simp [plainL, plain, plainR, hN, renR_ints, t1, q3, p3])) | (with_reducible refine wdW_cons ?_ ?_; (next => simp [chk, foot, compatB, argsOf, St.get, target, ev, look, lidsL, hget, kind, AOp.isRaw, wids, wtops, tops, opds, topId, hN, renR_ints, t1, q3, p3]; done)) | omega)
  all_goals first | exact ⟨_, fin.down _ _⟩ | exact ⟨_, (fin.down _ _).1, (fin.down _ _).2⟩
end Go.Abs
