import Derived.Test.YtookdheldelepaaGreatDoorK6x
import Derived.Test.YtookdheldelepaaGreatDoorK306x
set_option linter.all false
set_option linter.unusedVariables false
set_option linter.unusedSimpArgs false
set_option linter.unusedSectionVars false
namespace Go.Abs
open Go.Proofs
/-! the reference's Parse: a round -/
structure J18 (P : List ByteArray) (M : List Ln) (io : Nat) (H : List Blk) : Prop where
  l : H[0]? = some (.cells true false 1 (P.map fun x => [strV x]))
  o : M ≠ [] → ∃ E, H[io]? = some (.cells true false 2 E) ∧ StRows H E M
def ouV (io k : Nat) : AV := if k = 0 then .sl true 0 [] else .lsl io 0 k
abbrev SLp (P : List ByteArray) (k io : Nat) : List (Nat × AV) := [(5, .lsl 0 0 P.length), (6, ouV io k), (7, i64 k)]
theorem rds_lit (H : List Blk) : Rds 1 H (.sl true 0 []) (wz []) := ⟨rfl, rfl⟩
theorem rds_blk {H : List Blk} {j : Nat} {o : Bool} {l : List Int} (h0 : l ≠ []) (h : H[j]? = some (.cells o false 1 (l.map fun x => [i64 x]))) : Rds 1 H (.lsl j 0 l.length) (wz l) := by
  refine ⟨?_, plain_wz l⟩
  unfold rfy wz
  rw [hget_some' h, if_neg h0]
  dsimp only
  rw [if_pos (by simp), List.drop_zero, List.take_of_length_le (by simp)]
  unfold ints
  congr 1
  rw [List.map_map]
  exact List.map_congr_left fun x _ => rfl
theorem rds_app {H X : List Blk} {v : AV} {l : List Int} (h : Rds 1 H v (wz l)) : Rds 1 (H ++ X) v (wz l) := h.ext (Ext.app H X)
/-- behind a first stroke -/
theorem J18.first {P : List ByteArray} {io : Nat} {H X : List Blk} {x : Ln} {v : AV} {j : Nat} (h : J18 P [] io H) (hj : (H ++ X)[j]? = some (.cells true false 2 [[strV x.1, v]])) (hv : Rds 1 (H ++ X) v (wz x.2)) : J18 P [x] j (H ++ X) :=
  ⟨by rw [List.getElem?_append_left (List.getElem?_eq_some_iff.1 h.l).1]; exact h.l, fun _ => ⟨_, hj, (StRows.nil _).snoc hv⟩⟩
theorem J18.next {P : List ByteArray} {M : List Ln} {io : Nat} {H X : List Blk} {E : List (List AV)} {x : Ln} {v : AV} {j : Nat} (h : J18 P M io H) (hE : H[io]? = some (.cells true false 2 E)) (hS : StRows H E M)
    (hj : (H.set io .dead ++ X)[j]? = some (.cells true false 2 (E ++ [[strV x.1, v]]))) (hv : Rds 1 (H.set io .dead ++ X) v (wz x.2)) : J18 P (M ++ [x]) j (H.set io .dead ++ X) := by
  refine ⟨?_, fun _ => ⟨_, hj, (hS.mono fun u l hu => rds_app (rds_set hE hu)).snoc hv⟩⟩
  have hl := h.l
  have hne : io ≠ 0 := fun e => by rw [e, hl] at hE; simp at hE
  have hlt := (List.getElem?_eq_some_iff.1 hl).1
  rw [List.getElem?_append_left (by simpa using hlt), List.getElem?_set_ne hne]
  exact hl
set_option maxHeartbeats 8000000 in
theorem k18n {P : List ByteArray} {M : List Ln} {io : Nat} {H : List Blk} {w : ByteArray} {k : Nat} (hk : P[k]? = some w) (hk1 : k + 1 < P.length) (hl : P.length ≤ 1000000) (hJ : J18 P M io H) (hM : M.length = k) (h51 : Fn Tryz.prog 51 [strV w] (rdV none) []) :
    T none Tryz.prog muts 58 0 c18l0 ⟨SLp P k io, H⟩ (fun e s => e = .ret ∧ look s.slots 2 = .sl true 0 [] ∧ look s.slots 3 = i64 ((k : Int) + 1) ∧ look s.slots 4 = i64 7) := by
  have hg := getD_txt hk
  have hll : (P.map fun x => [strV x]).length = P.length := List.length_map _
  have hb := hJ.l
  have hlt : 0 < H.length := (List.getElem?_eq_some_iff.1 hb).1
  have g5 : ∀ Y, (H ++ Y)[0]? = some (.cells true false 1 (P.map fun x => [strV x])) := fun Y => by rw [List.getElem?_append_left hlt]; exact hb
  obtain ⟨g1, g2, g3, g4⟩ := cells_sub (X := []) (H := H) rfl
  have hd : decide ((k : Int) < (P.length : Int) - 1) = true := decide_eq_true (by omega)
  have hw : IntKind.i64.wrap ((P.length : Int) - 1) = (P.length : Int) - 1 := wrapI (by omega) (by omega)
  clear hJ hM
  simp only [rdV] at h51
  unfold c18l0
  simp only [SLp]
  generalize ouV io k = ov at *
  repeat' (first | (with_reducible first | refine T_seq ?_ | refine T_reg ?_ | refine T_skip ?_ | refine T_exit ?_ | refine T_block ?_ | refine T_cond_t rfl ?_ | refine T_cond_f rfl ?_ | (show wcall _ false (.lit (.func (.func 51) _ _)) _ _ _ _; refine wcall_fn (h51) rfl (by simp [plainL, plain]) ?_) | refine T_ret ?_ | refine leave_of (.inr rfl) _ rfl ?_ | refine leave_of (.inl rfl) _ rfl ?_ | refine wif_intro ?_ (fun hc => ?_) | refine And.intro ?_ ?_ | intro hc) | simp (maxSteps := 4000000) only [wops_nil, wops_cons, wstep_none, wrun_call, wrun_mv, wrun_bin, wrun_not, wrun_ext, wrun_load, wrun_store, wrun_iaddrS, wrun_len, wrun_alloc, wop, aop, ev, look, put_some, put_none, writes, ores_some, ores_ite_none, ores_map, ores_bind, binV, thenK, blockK, boolV, intV, lenOf, value, cut, hget, putCells, AV.parts, isOne, mkAgg, List.map_cons, List.map_nil, List.length_cons, List.length_nil, List.getElem?_cons_zero, List.getElem?_cons_succ, List.set_cons_zero, List.take_succ_cons, List.take_zero, List.take_nil, List.drop_succ_cons, List.drop_zero, List.drop_nil, List.nil_append, List.append_nil, List.append_assoc, List.replicate_zero, List.replicate_succ, List.getD_cons_zero, List.all_cons, List.all_nil, List.length_append, Option.pure_def, Option.bind_eq_bind, Option.getD_some, Option.map_some, if_true, if_false, Nat.reduceEqDiff, Nat.reduceAdd, Nat.reduceLT, Nat.add_zero, Nat.zero_add, Nat.le_refl, reduceCtorEq, Bool.not_false, Bool.and_true, Bool.false_eq_true, eq_self, true_and, and_true, and_self, freeze, lidsL, lids, List.flatMap_cons, List.flatMap_nil, List.all_cons, ren, renL, renR, Int.toNat_natCast, *] | simp (disch := omega) only [wrapI] | (with_reducible show wcall _ false (.lit (.func (.func 51) _ _)) _ _ _ _; refine wcall_fn (h51) ?_ ?_ ?_; (next => simp [rfyL, rfy, hget, ints, take_rfy, Int.toNat_natCast, hll]); (next => simp [plainL, plain, plainR, Int.toNat_natCast, hll])) | omega)
  all_goals first | (simp [look]; done)
set_option maxHeartbeats 8000000 in
theorem k18f0e {P : List ByteArray} {M : List Ln} {io : Nat} {H : List Blk} {w n : ByteArray} {l : List Int} {k : Nat} (hk : P[k]? = some w) (hk1 : k + 1 < P.length) (hl : P.length ≤ 1000000) (hJ : J18 P M io H) (hM : M.length = k) (hm : M = []) (h0 : l = []) (h51 : Fn Tryz.prog 51 [strV w] (rdV (some (n, l))) (rdB (some (n, l)))) :
    T none Tryz.prog muts 58 0 c18l0 ⟨SLp P k io, H⟩ (fun e s => e = .normal ∧ ∃ io', J18 P (M ++ [(n, l)]) io' s.heap ∧ (s.only [5, 6, 7]).slots = SLp P (k + 1) io') := by
  have hg := getD_txt hk
  have hll : (P.map fun x => [strV x]).length = P.length := List.length_map _
  have hb := hJ.l
  have hlt : 0 < H.length := (List.getElem?_eq_some_iff.1 hb).1
  have g5 : ∀ Y, (H ++ Y)[0]? = some (.cells true false 1 (P.map fun x => [strV x])) := fun Y => by rw [List.getElem?_append_left hlt]; exact hb
  obtain ⟨N, hN⟩ : ∃ N, H.length = N := ⟨_, rfl⟩
  obtain ⟨g1, g2, g3, g4⟩ := cells_sub (X := []) hN
  have n2 : N + 1 + 1 = N + 2 := by omega
  have n3 : N + 2 + 1 = N + 3 := by omega
  have hd : decide ((k : Int) < (P.length : Int) - 1) = true := decide_eq_true (by omega)
  have hw : IntKind.i64.wrap ((P.length : Int) - 1) = (P.length : Int) - 1 := wrapI (by omega) (by omega)
  subst h0
  subst hm
  simp only [List.length_nil] at hM
  subst hM
  have fin : ∀ a b : Blk, J18 P [(n, [])] (N + 2) (H ++ [a, b, .cells true false 2 [[strV n, .sl true 0 []]]]) := fun a b => hJ.first (by rw [g2]; rfl) (rds_lit _)
  replace fin := PLift.up fin
  clear hJ
  simp only [rdV, rdB, wvV, wvB, if_true] at h51
  unfold c18l0
  simp only [SLp, ouV, if_true]
  repeat' (first | (with_reducible first | refine T_seq ?_ | refine T_reg ?_ | refine T_skip ?_ | refine T_exit ?_ | refine T_block ?_ | refine T_cond_t rfl ?_ | refine T_cond_f rfl ?_ | (show wcall _ false (.lit (.func (.func 51) _ _)) _ _ _ _; refine wcall_fn (h51) rfl (by simp [plainL, plain]) ?_) | refine T_ret ?_ | refine leave_of (.inr rfl) _ rfl ?_ | refine leave_of (.inl rfl) _ rfl ?_ | refine wif_intro ?_ (fun hc => ?_) | refine And.intro ?_ ?_ | intro hc) | simp (maxSteps := 4000000) only [wops_nil, wops_cons, wstep_none, wrun_call, wrun_mv, wrun_bin, wrun_not, wrun_ext, wrun_load, wrun_store, wrun_iaddrS, wrun_len, wrun_alloc, wrun_bslice, wrun_app, wop, aop, ev, look, put_some, put_none, writes, ores_some, ores_ite_none, ores_map, ores_bind, binV, thenK, blockK, boolV, intV, lenOf, elsOf, szOk, value, cut, hget, fillA, putCells, AV.parts, isOne, toLits, mkAgg, List.flatten_cons, List.flatten_nil, rowsOf, List.map_cons, List.map_nil, List.length_cons, List.length_nil, List.getElem?_cons_zero, List.getElem?_cons_succ, List.set_cons_zero, List.set_cons_succ, List.take_succ_cons, List.take_zero, List.take_nil, List.drop_succ_cons, List.drop_zero, List.drop_nil, List.cons_append, List.nil_append, List.append_nil, List.append_assoc, List.replicate_zero, List.replicate_succ, List.getD_cons_zero, List.all_cons, List.all_nil, List.isEmpty_cons, List.length_append, Option.pure_def, Option.bind_eq_bind, Option.getD_some, Option.map_some, Option.map_none, if_true, if_false, Nat.reduceEqDiff, Nat.reduceAdd, Nat.reduceMul, Nat.reduceLeDiff, Nat.reduceLT, Nat.add_zero, Nat.zero_add, Nat.sub_zero, Nat.zero_mul, Nat.le_refl, reduceCtorEq, Bool.not_true, Bool.and_true, Bool.or_true, Bool.false_eq_true, eq_self, true_and, and_true, and_self, beq_self_eq_true, freeze, lidsL, lids, List.flatMap_cons, List.flatMap_nil, List.all_cons, ren, renL, renR, Int.toNat_natCast, *] | simp (disch := omega) only [wrapI] | (with_reducible show wcall _ false (.lit (.func (.func 51) _ _)) _ _ _ _; refine wcall_fn (h51) ?_ ?_ ?_; (next => simp [rfyL, rfy, hget, ints, take_rfy, Int.toNat_natCast, hll, nt0, renR_ints]); (next => simp [plainL, plain, plainR, Int.toNat_natCast, hll, nt0, renR_ints])) | omega)
  all_goals first | exact ⟨_, fin.down _ _, by simp [St.only, get_mk, look]⟩
set_option maxHeartbeats 8000000 in
theorem k18f0v {P : List ByteArray} {M : List Ln} {io : Nat} {H : List Blk} {w n : ByteArray} {l : List Int} {k : Nat} (hk : P[k]? = some w) (hk1 : k + 1 < P.length) (hl : P.length ≤ 1000000) (hJ : J18 P M io H) (hM : M.length = k) (hm : M = []) (h0 : l ≠ []) (h51 : Fn Tryz.prog 51 [strV w] (rdV (some (n, l))) (rdB (some (n, l)))) :
    T none Tryz.prog muts 58 0 c18l0 ⟨SLp P k io, H⟩ (fun e s => e = .normal ∧ ∃ io', J18 P (M ++ [(n, l)]) io' s.heap ∧ (s.only [5, 6, 7]).slots = SLp P (k + 1) io') := by
  have hg := getD_txt hk
  have hll : (P.map fun x => [strV x]).length = P.length := List.length_map _
  have hb := hJ.l
  have hlt : 0 < H.length := (List.getElem?_eq_some_iff.1 hb).1
  have g5 : ∀ Y, (H ++ Y)[0]? = some (.cells true false 1 (P.map fun x => [strV x])) := fun Y => by rw [List.getElem?_append_left hlt]; exact hb
  obtain ⟨N, hN⟩ : ∃ N, H.length = N := ⟨_, rfl⟩
  obtain ⟨g1, g2, g3, g4⟩ := cells_sub (X := []) hN
  have n2 : N + 1 + 1 = N + 2 := by omega
  have n3 : N + 2 + 1 = N + 3 := by omega
  have hd : decide ((k : Int) < (P.length : Int) - 1) = true := decide_eq_true (by omega)
  have hw : IntKind.i64.wrap ((P.length : Int) - 1) = (P.length : Int) - 1 := wrapI (by omega) (by omega)
  subst hm
  simp only [List.length_nil] at hM
  subst hM
  have fin : ∀ a b : Blk, J18 P [(n, l)] (N + 3) (H ++ [a, .cells true false 1 (l.map fun x => [i64 x]), b, .cells true false 2 [[strV n, .lsl (N + 1) 0 l.length]]]) := fun a b => hJ.first (by rw [g2]; rfl) (rds_blk h0 (o := true) (by rw [g2]; rfl))
  replace fin := PLift.up fin
  clear hJ
  simp only [rdV, rdB, wvV, wvB, h0, if_false] at h51
  unfold c18l0
  simp only [SLp, ouV, if_true]
  repeat' (first | (with_reducible first | refine T_seq ?_ | refine T_reg ?_ | refine T_skip ?_ | refine T_exit ?_ | refine T_block ?_ | refine T_cond_t rfl ?_ | refine T_cond_f rfl ?_ | (show wcall _ false (.lit (.func (.func 51) _ _)) _ _ _ _; refine wcall_fn (h51) rfl (by simp [plainL, plain]) ?_) | refine T_ret ?_ | refine leave_of (.inr rfl) _ rfl ?_ | refine leave_of (.inl rfl) _ rfl ?_ | refine wif_intro ?_ (fun hc => ?_) | refine And.intro ?_ ?_ | intro hc) | simp (maxSteps := 4000000) only [wops_nil, wops_cons, wstep_none, wrun_call, wrun_mv, wrun_bin, wrun_not, wrun_ext, wrun_load, wrun_store, wrun_iaddrS, wrun_len, wrun_alloc, wrun_bslice, wrun_app, wop, aop, ev, look, put_some, put_none, writes, ores_some, ores_ite_none, ores_map, ores_bind, binV, thenK, blockK, boolV, intV, lenOf, elsOf, szOk, value, cut, hget, fillA, putCells, AV.parts, isOne, toLits, mkAgg, List.flatten_cons, List.flatten_nil, rowsOf, List.map_cons, List.map_nil, List.length_cons, List.length_nil, List.getElem?_cons_zero, List.getElem?_cons_succ, List.set_cons_zero, List.set_cons_succ, List.take_succ_cons, List.take_zero, List.take_nil, List.drop_succ_cons, List.drop_zero, List.drop_nil, List.cons_append, List.nil_append, List.append_nil, List.append_assoc, List.replicate_zero, List.replicate_succ, List.getD_cons_zero, List.all_cons, List.all_nil, List.isEmpty_cons, List.length_append, Option.pure_def, Option.bind_eq_bind, Option.getD_some, Option.map_some, Option.map_none, if_true, if_false, Nat.reduceEqDiff, Nat.reduceAdd, Nat.reduceMul, Nat.reduceLeDiff, Nat.reduceLT, Nat.add_zero, Nat.zero_add, Nat.sub_zero, Nat.zero_mul, Nat.le_refl, reduceCtorEq, Bool.not_true, Bool.and_true, Bool.or_true, Bool.false_eq_true, eq_self, true_and, and_true, and_self, beq_self_eq_true, freeze, lidsL, lids, List.flatMap_cons, List.flatMap_nil, List.all_cons, ren, renL, renB, shiftρ, renR_ints, Int.toNat_natCast, renR_ints, *] | simp (disch := omega) only [wrapI] | (with_reducible show wcall _ false (.lit (.func (.func 51) _ _)) _ _ _ _; refine wcall_fn (h51) ?_ ?_ ?_; (next => simp [rfyL, rfy, hget, ints, take_rfy, Int.toNat_natCast, hll, nt0, renR_ints]); (next => simp [plainL, plain, plainR, Int.toNat_natCast, hll, nt0, renR_ints])) | omega)
  all_goals first | exact ⟨_, fin.down _ _, by simp [St.only, get_mk, look]⟩
set_option maxHeartbeats 8000000 in
theorem k18f1e {P : List ByteArray} {M : List Ln} {io : Nat} {H : List Blk} {w n : ByteArray} {l : List Int} {k : Nat} (hk : P[k]? = some w) (hk1 : k + 1 < P.length) (hl : P.length ≤ 1000000) (hJ : J18 P M io H) (hM : M.length = k) (hm : M ≠ []) (h0 : l = []) (h51 : Fn Tryz.prog 51 [strV w] (rdV (some (n, l))) (rdB (some (n, l)))) :
    T none Tryz.prog muts 58 0 c18l0 ⟨SLp P k io, H⟩ (fun e s => e = .normal ∧ ∃ io', J18 P (M ++ [(n, l)]) io' s.heap ∧ (s.only [5, 6, 7]).slots = SLp P (k + 1) io') := by
  have hg := getD_txt hk
  have hll : (P.map fun x => [strV x]).length = P.length := List.length_map _
  have hb := hJ.l
  have hlt : 0 < H.length := (List.getElem?_eq_some_iff.1 hb).1
  have g5 : ∀ Y, (H ++ Y)[0]? = some (.cells true false 1 (P.map fun x => [strV x])) := fun Y => by rw [List.getElem?_append_left hlt]; exact hb
  obtain ⟨N, hN⟩ : ∃ N, H.length = N := ⟨_, rfl⟩
  obtain ⟨g1, g2, g3, g4⟩ := cells_sub (X := []) hN
  have n2 : N + 1 + 1 = N + 2 := by omega
  have n3 : N + 2 + 1 = N + 3 := by omega
  have hd : decide ((k : Int) < (P.length : Int) - 1) = true := decide_eq_true (by omega)
  have hw : IntKind.i64.wrap ((P.length : Int) - 1) = (P.length : Int) - 1 := wrapI (by omega) (by omega)
  subst h0
  obtain ⟨E, hE, hS⟩ := hJ.o hm
  have hEl : E.length = k := by rw [hS.1]; exact hM
  have hio : io < H.length := (List.getElem?_eq_some_iff.1 hE).1
  have hne : io ≠ 0 := fun e => by rw [e, hb] at hE; simp at hE
  have g6 : ∀ Y, (H ++ Y)[io]? = some (.cells true false 2 E) := fun Y => by rw [List.getElem?_append_left hio]; exact hE
  have g7 : ∀ Y v, (H ++ Y).set io v = H.set io v ++ Y := fun Y v => List.set_append_left _ _ hio
  obtain ⟨g8, g9, g10, g11⟩ := cells_sub (X := []) (H := H.set io .dead) (N := N) (by simp [hN])
  have t1 : List.take k E = E := List.take_of_length_le (by omega)
  have hk0 : k ≠ 0 := by rintro rfl; exact hm (List.eq_nil_of_length_eq_zero hM)
  have hk10 : k + 1 ≠ 0 := by omega
  have fin : ∀ a b : Blk, J18 P (M ++ [(n, [])]) (N + 2) (H.set io .dead ++ [a, b, .cells true false 2 (E ++ [[strV n, .sl true 0 []]])]) := fun a b => hJ.next hE hS (by rw [g9]; rfl) (rds_lit _)
  replace fin := PLift.up fin
  have hk2 : (k + 1) * 40 ≤ 140737488355328 := by omega
  replace hne := And.intro hne trivial
  clear hJ hS hm
  simp only [rdV, rdB, wvV, wvB, if_true] at h51
  unfold c18l0
  simp only [SLp, ouV, hk0, hk10, if_false]
  replace hio := And.intro hio trivial
  repeat' (first | (with_reducible first | refine T_seq ?_ | refine T_reg ?_ | refine T_skip ?_ | refine T_exit ?_ | refine T_block ?_ | refine T_cond_t rfl ?_ | refine T_cond_f rfl ?_ | (show wcall _ false (.lit (.func (.func 51) _ _)) _ _ _ _; refine wcall_fn (h51) rfl (by simp [plainL, plain]) ?_) | refine T_ret ?_ | refine leave_of (.inr rfl) _ rfl ?_ | refine leave_of (.inl rfl) _ rfl ?_ | refine wif_intro ?_ (fun hc => ?_) | refine And.intro ?_ ?_ | intro hc) | simp (maxSteps := 4000000) only [wops_nil, wops_cons, wstep_none, wrun_call, wrun_mv, wrun_bin, wrun_not, wrun_ext, wrun_load, wrun_store, wrun_iaddrS, wrun_len, wrun_alloc, wrun_bslice, wrun_app, wop, aop, ev, look, put_some, put_none, writes, ores_some, ores_ite_none, ores_map, ores_bind, binV, thenK, blockK, boolV, intV, lenOf, elsOf, szOk, value, cut, hget, fillA, putCells, AV.parts, isOne, toLits, mkAgg, List.flatten_cons, List.flatten_nil, rowsOf, List.map_cons, List.map_nil, List.length_cons, List.length_nil, List.getElem?_cons_zero, List.getElem?_cons_succ, List.set_cons_zero, List.set_cons_succ, List.take_succ_cons, List.take_zero, List.take_nil, List.drop_succ_cons, List.drop_zero, List.drop_nil, List.cons_append, List.nil_append, List.append_nil, List.append_assoc, List.replicate_zero, List.replicate_succ, List.getD_cons_zero, List.all_cons, List.all_nil, List.isEmpty_cons, List.length_append, Option.pure_def, Option.bind_eq_bind, Option.getD_some, Option.map_some, Option.map_none, if_true, if_false, Nat.reduceEqDiff, Nat.reduceAdd, Nat.reduceLT, Nat.add_zero, Nat.zero_add, Nat.sub_zero, Nat.zero_mul, Nat.le_refl, reduceCtorEq, Bool.not_true, Bool.and_true, Bool.and_false, Bool.or_true, Bool.false_eq_true, eq_self, true_and, and_true, and_self, beq_self_eq_true, freeze, lidsL, lids, List.flatMap_cons, List.flatMap_nil, List.all_cons, ren, renL, renR, Int.toNat_natCast, *] | simp (disch := omega) only [wrapI] | (with_reducible show wcall _ false (.lit (.func (.func 51) _ _)) _ _ _ _; refine wcall_fn (h51) ?_ ?_ ?_; (next => simp [rfyL, rfy, hget, ints, take_rfy, Int.toNat_natCast, hll, t1, renR_ints]); (next => simp [plainL, plain, plainR, Int.toNat_natCast, hll, t1, renR_ints])) | omega)
  all_goals first | exact ⟨_, fin.down _ _, by simp [St.only, get_mk, look]⟩
set_option maxHeartbeats 8000000 in
theorem k18f1v {P : List ByteArray} {M : List Ln} {io : Nat} {H : List Blk} {w n : ByteArray} {l : List Int} {k : Nat} (hk : P[k]? = some w) (hk1 : k + 1 < P.length) (hl : P.length ≤ 1000000) (hJ : J18 P M io H) (hM : M.length = k) (hm : M ≠ []) (h0 : l ≠ []) (h51 : Fn Tryz.prog 51 [strV w] (rdV (some (n, l))) (rdB (some (n, l)))) :
    T none Tryz.prog muts 58 0 c18l0 ⟨SLp P k io, H⟩ (fun e s => e = .normal ∧ ∃ io', J18 P (M ++ [(n, l)]) io' s.heap ∧ (s.only [5, 6, 7]).slots = SLp P (k + 1) io') := by
  have hg := getD_txt hk
  have hll : (P.map fun x => [strV x]).length = P.length := List.length_map _
  have hb := hJ.l
  have hlt : 0 < H.length := (List.getElem?_eq_some_iff.1 hb).1
  have g5 : ∀ Y, (H ++ Y)[0]? = some (.cells true false 1 (P.map fun x => [strV x])) := fun Y => by rw [List.getElem?_append_left hlt]; exact hb
  obtain ⟨N, hN⟩ : ∃ N, H.length = N := ⟨_, rfl⟩
  obtain ⟨g1, g2, g3, g4⟩ := cells_sub (X := []) hN
  have n2 : N + 1 + 1 = N + 2 := by omega
  have n3 : N + 2 + 1 = N + 3 := by omega
  have hd : decide ((k : Int) < (P.length : Int) - 1) = true := decide_eq_true (by omega)
  have hw : IntKind.i64.wrap ((P.length : Int) - 1) = (P.length : Int) - 1 := wrapI (by omega) (by omega)
  obtain ⟨E, hE, hS⟩ := hJ.o hm
  have hEl : E.length = k := by rw [hS.1]; exact hM
  have hio : io < H.length := (List.getElem?_eq_some_iff.1 hE).1
  have hne : io ≠ 0 := fun e => by rw [e, hb] at hE; simp at hE
  have g6 : ∀ Y, (H ++ Y)[io]? = some (.cells true false 2 E) := fun Y => by rw [List.getElem?_append_left hio]; exact hE
  have g7 : ∀ Y v, (H ++ Y).set io v = H.set io v ++ Y := fun Y v => List.set_append_left _ _ hio
  obtain ⟨g8, g9, g10, g11⟩ := cells_sub (X := []) (H := H.set io .dead) (N := N) (by simp [hN])
  have t1 : List.take k E = E := List.take_of_length_le (by omega)
  have hk0 : k ≠ 0 := by rintro rfl; exact hm (List.eq_nil_of_length_eq_zero hM)
  have hk10 : k + 1 ≠ 0 := by omega
  have fin : ∀ a b : Blk, J18 P (M ++ [(n, l)]) (N + 3) (H.set io .dead ++ [a, .cells true false 1 (l.map fun x => [i64 x]), b, .cells true false 2 (E ++ [[strV n, .lsl (N + 1) 0 l.length]])]) := fun a b => hJ.next hE hS (by rw [g9]; rfl) (rds_blk h0 (o := true) (by rw [g9]; rfl))
  replace fin := PLift.up fin
  have hk2 : (k + 1) * 40 ≤ 140737488355328 := by omega
  replace hne := And.intro hne trivial
  clear hJ hS hm
  simp only [rdV, rdB, wvV, wvB, h0, if_false] at h51
  unfold c18l0
  simp only [SLp, ouV, hk0, hk10, if_false]
  replace hio := And.intro hio trivial
  repeat' (first | (with_reducible first | refine T_seq ?_ | refine T_reg ?_ | refine T_skip ?_ | refine T_exit ?_ | refine T_block ?_ | refine T_cond_t rfl ?_ | refine T_cond_f rfl ?_ | (show wcall _ false (.lit (.func (.func 51) _ _)) _ _ _ _; refine wcall_fn (h51) rfl (by simp [plainL, plain]) ?_) | refine T_ret ?_ | refine leave_of (.inr rfl) _ rfl ?_ | refine leave_of (.inl rfl) _ rfl ?_ | refine wif_intro ?_ (fun hc => ?_) | refine And.intro ?_ ?_ | intro hc) | simp (maxSteps := 4000000) only [wops_nil, wops_cons, wstep_none, wrun_call, wrun_mv, wrun_bin, wrun_not, wrun_ext, wrun_load, wrun_store, wrun_iaddrS, wrun_len, wrun_alloc, wrun_bslice, wrun_app, wop, aop, ev, look, put_some, put_none, writes, ores_some, ores_ite_none, ores_map, ores_bind, binV, thenK, blockK, boolV, intV, lenOf, elsOf, szOk, value, cut, hget, fillA, putCells, AV.parts, isOne, toLits, mkAgg, List.flatten_cons, List.flatten_nil, rowsOf, List.map_cons, List.map_nil, List.length_cons, List.length_nil, List.getElem?_cons_zero, List.getElem?_cons_succ, List.set_cons_zero, List.set_cons_succ, List.take_succ_cons, List.take_zero, List.take_nil, List.drop_succ_cons, List.drop_zero, List.drop_nil, List.cons_append, List.nil_append, List.append_nil, List.append_assoc, List.replicate_zero, List.replicate_succ, List.getD_cons_zero, List.all_cons, List.all_nil, List.isEmpty_cons, List.length_append, Option.pure_def, Option.bind_eq_bind, Option.getD_some, Option.map_some, Option.map_none, if_true, if_false, Nat.reduceEqDiff, Nat.reduceAdd, Nat.reduceLT, Nat.add_zero, Nat.zero_add, Nat.sub_zero, Nat.zero_mul, Nat.le_refl, reduceCtorEq, Bool.not_true, Bool.and_true, Bool.and_false, Bool.or_true, Bool.false_eq_true, eq_self, true_and, and_true, and_self, beq_self_eq_true, freeze, lidsL, lids, List.flatMap_cons, List.flatMap_nil, List.all_cons, ren, renL, renB, shiftρ, renR_ints, Int.toNat_natCast, renR_ints, *] | simp (disch := omega) only [wrapI] | (with_reducible show wcall _ false (.lit (.func (.func 51) _ _)) _ _ _ _; refine wcall_fn (h51) ?_ ?_ ?_; (next => simp [rfyL, rfy, hget, ints, take_rfy, Int.toNat_natCast, hll, t1, renR_ints]); (next => simp [plainL, plain, plainR, Int.toNat_natCast, hll, t1, renR_ints])) | omega)
  all_goals first | exact ⟨_, fin.down _ _, by simp [St.only, get_mk, look]⟩
end Go.Abs
