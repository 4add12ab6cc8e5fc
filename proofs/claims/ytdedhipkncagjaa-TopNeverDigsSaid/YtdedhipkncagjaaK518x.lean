import Derived.Test.YtdedhipkncagjaaK517x
set_option linter.all false
set_option linter.unusedVariables false
set_option linter.unusedSimpArgs false
set_option linter.unusedSectionVars false
namespace Go.Abs
open Go.Proofs
/-! TopNeverDigs: the end -/
abbrev K4O : Exit → St → Prop := leave 0 [.tmp 6] (fun r' H' => r' = bl true ∧ H' = [])
abbrev SLe (n1 n2 : Bool) (hs ws : List Int) (sv wv : AV) : List (Nat × AV) := [(1, ints n1 hs), (2, ints n2 ws), (3, .loc 0 0 0), (10, sv), (11, wv)]
set_option maxHeartbeats 8000000 in
theorem k4endE {n1 n2 n3 nil o : Bool} {l : List Sk} {s : List Ss} {b : ByteArray} {hs ws : List Int} {sv sR wv : AV} {H : List Blk} {E : Int} {bb : Nat} (hH : H[0]? = some (xB4 o nil l n3 s b)) (hsv : Rds 1 H sv sR)
    (hE : E ≠ 0) (h18 : Fn Try.prog 18 [sts nil l, sR, tx b] (.tup [.sl true 0 [], i64 E]) []) :
    T none Try.prog muts 217 bb c4r3 ⟨SLe n1 n2 hs ws sv wv, H⟩ K4O := by
  have dE : (E != 0) = true := by simp only [bne_iff_ne]; exact hE
  replace h18 := And.intro h18 trivial
  replace hsv := PLift.up hsv
  have hp : plain sR = true := hsv.down.2
  clear hE
  unfold c4r3
  repeat' (first | ((with_reducible refine T_calm ?_ ?_); rfl) | (with_reducible first | refine T_seq ?_ | refine T_reg ?_ | refine T_draw ?_ | refine T_skip ?_ | refine T_exit ?_ | refine T_block ?_ | refine T_cond_t rfl ?_ | refine T_cond_f rfl ?_ | refine wdW_cons rfl ?_ | refine T_ret ?_ | refine wif_intro ?_ (fun hc => ?_) | refine And.intro ?_ ?_ | intro hc) | simp (maxSteps := 4000000) only [wops_cons, wstep_none, wrun_call, wrun_mv, wrun_load, wrun_faddr, wop, aop, ev, look, put_some, writes, ores_some, value, cut, hget, mkAgg, List.map_cons, List.map_nil, List.length_cons, List.length_nil, List.take_succ_cons, List.take_zero, List.take_nil, List.drop_succ_cons, List.drop_zero, List.append_nil, List.replicate_zero, List.getD_cons_zero, Option.getD_some, Option.map_some, if_true, if_false, Nat.reduceEqDiff, Nat.add_zero, Nat.zero_add, Bool.false_eq_true, eq_self, *] | simp (disch := omega) only [getD_ints, wrapI] | omega)
  refine wcall_E0 h18.1 (by simp [plain, plainL, plainR]) (rL3 (rds_plain (d := 0) (by simp [plain, plainR_sk])) hsv.down (rds_plain (d := 0) (v := tx b) rfl) (by omega) (by omega) (by omega)) (by simp [plainL, plain, plainR_sk, hp]) ?_
  intro H4 hx4
  clear hx4 hH hsv h18
  repeat' (first | ((with_reducible refine T_calm ?_ ?_); rfl) | (with_reducible first | refine T_seq ?_ | refine T_reg ?_ | refine T_draw ?_ | refine T_skip ?_ | refine T_exit ?_ | refine T_block ?_ | refine T_cond_t rfl ?_ | refine T_cond_f rfl ?_ | refine wdW_cons rfl ?_ | refine T_ret ?_ | refine wif_intro ?_ (fun hc => ?_) | refine And.intro ?_ ?_ | intro hc) | simp (maxSteps := 4000000) only [wops_nil, wops_cons, wstep_none, wrun_mv, wrun_bin, wrun_ext, wop, aop, ev, look, put_some, writes, ores_some, binV, thenK, List.getElem?_cons_zero, List.getElem?_cons_succ, List.append_nil, List.replicate_zero, Option.map_some, if_true, if_false, Nat.reduceEqDiff, reduceCtorEq, eq_self, *] | simp (disch := omega) only [getD_ints, wrapI] | omega)
  exact leave_of (.inr rfl) [bl true] (by simp [resL, resAV, get_mk, look]) ⟨rfl, rfl⟩
set_option maxHeartbeats 8000000 in
theorem k4end {n1 n2 n3 nil o nb : Bool} {l : List Sk} {s : List Ss} {b : ByteArray} {hs ws W : List Int} {WL : List (List Int)} {z0 : Nat} {sv sR wv : AV} {H : List Blk} {bb : Nat} (hl1 : hs.length < 1000000) (hl2 : ws.length < 1000000) (hH : H[0]? = some (xB4 o nil l n3 s b)) (hsv : Rds 1 H sv sR) (hwv : Rds 2 H wv (.sl nb z0 (nlR WL))) (hW : W.length = hs.length)
    (h18 : Fn Try.prog 18 [sts nil l, sR, tx b] (.tup [.lsl 0 0 hs.length, i64 0]) [iC W])
    (h19a : Fn Try.prog 19 [ints false hs, ints false ws, .sl false 1 (nlR [W])] (.tup [i64 0, i64 0]) [])
    (h19b : Fn Try.prog 19 [ints false hs, ints false ws, .sl nb z0 (nlR WL)] (.tup [i64 0, i64 0]) []) :
    T none Try.prog muts 217 bb c4r3 ⟨SLe n1 n2 hs ws sv wv, H⟩ K4O := by
  have h13a := k13 n1 hs hl1
  have h13b := k13 n2 ws hl2
  replace h18 := And.intro h18 trivial
  replace h19a := And.intro h19a trivial
  replace h19b := And.intro h19b trivial
  replace hsv := PLift.up hsv
  replace hwv := PLift.up hwv
  have hp : plain sR = true := hsv.down.2
  have hlh := (by simp : (hs.map fun x => [i64 x]).length = hs.length)
  have hlw := (by simp : (ws.map fun x => [i64 x]).length = ws.length)
  replace hW := PLift.up hW
  clear hl1 hl2
  unfold c4r3
  repeat' (first | ((with_reducible refine T_calm ?_ ?_); rfl) | (with_reducible first | refine T_seq ?_ | refine T_reg ?_ | refine T_draw ?_ | refine T_skip ?_ | refine T_exit ?_ | refine T_block ?_ | refine T_cond_t rfl ?_ | refine T_cond_f rfl ?_ | refine wdW_cons rfl ?_ | refine T_ret ?_ | refine wif_intro ?_ (fun hc => ?_) | refine And.intro ?_ ?_ | intro hc) | simp (maxSteps := 4000000) only [wops_cons, wstep_none, wrun_call, wrun_mv, wrun_load, wrun_faddr, wop, aop, ev, look, put_some, writes, ores_some, value, cut, hget, mkAgg, List.map_cons, List.map_nil, List.length_cons, List.length_nil, List.take_succ_cons, List.take_zero, List.take_nil, List.drop_succ_cons, List.drop_zero, List.append_nil, List.replicate_zero, List.getD_cons_zero, Option.getD_some, Option.map_some, if_true, if_false, Nat.reduceEqDiff, Nat.add_zero, Nat.zero_add, Bool.false_eq_true, eq_self, *] | simp (disch := omega) only [getD_ints, wrapI] | omega)
  refine wcall_L h18.1 (rL3 (rds_plain (d := 0) (by simp [plain, plainR_sk])) hsv.down (rds_plain (d := 0) (v := tx b) rfl) (by omega) (by omega) (by omega)) (by simp [plainL, plain, plainR_sk, hp]) ?_
  intro id H4 hx4 hid
  have hr : PLift (Rds 1 H4 (.lsl id 0 hs.length) (ints false W)) := PLift.up (rds_row (d := 0) hid (plainR_ints _) (by rw [List.length_map]; exact hW.down))
  replace hwv := PLift.up (hwv.down.ext hx4)
  clear hx4 hH hsv h18 hid hW hp
  obtain ⟨v1, v2, v3, v4⟩ := cells_sub (X := []) (H := H4) rfl
  have v5 : ∀ Y, (H4 ++ Y)[H4.length + 1]? = Y[1]? := fun Y => v2 Y 1
  have v6 : ∀ Y, (H4 ++ Y)[H4.length + 1 + 1]? = Y[2]? := fun Y => v2 Y 2
  repeat' (first | ((with_reducible refine T_calm ?_ ?_); rfl) | (with_reducible first | refine T_seq ?_ | refine T_reg ?_ | refine T_draw ?_ | refine T_skip ?_ | refine T_exit ?_ | refine T_block ?_ | refine T_cond_t rfl ?_ | refine T_cond_f rfl ?_ | refine wdW_cons rfl ?_ | (show wcall _ false (.lit (.func (.func 13) _ _)) _ _ _ _; refine wcall_fn (h13a) rfl (by simp [plainL, plain]) ?_) | (show wcallX _ false (.lit (.func (.func 13) _ _)) _ _ _ _; refine wcallX_fn (h13a) rfl (by simp [plainL, plain, plainR, plainR_sk]) ?_) | (show wcall _ false (.lit (.func (.func 13) _ _)) _ _ _ _; refine wcall_fn (h13b) rfl (by simp [plainL, plain]) ?_) | (show wcallX _ false (.lit (.func (.func 13) _ _)) _ _ _ _; refine wcallX_fn (h13b) rfl (by simp [plainL, plain, plainR, plainR_sk]) ?_) | refine T_ret ?_ | refine wif_intro ?_ (fun hc => ?_) | refine And.intro ?_ ?_ | intro hc) | simp (maxSteps := 4000000) only [wops_nil, wops_cons, wstep_none, wrun_call, wrun_mv, wrun_bin, wrun_ext, wrun_bslice, wop, aop, ev, look, put_some, writes, ores_some, binV, thenK, fillA, putCells, AV.parts, isOne, List.flatten_cons, List.flatten_nil, rowsOf, List.map_cons, List.map_nil, List.length_cons, List.length_nil, List.getElem?_cons_zero, List.getElem?_cons_succ, List.set_cons_zero, List.take_succ_cons, List.take_zero, List.take_nil, List.drop_succ_cons, List.drop_nil, List.cons_append, List.nil_append, List.append_nil, List.append_assoc, List.replicate_zero, List.replicate_succ, List.all_cons, List.all_nil, List.length_append, Option.map_some, if_true, if_false, Nat.reduceEqDiff, Nat.reduceAdd, Nat.add_zero, Nat.zero_add, Nat.mul_one, Nat.le_refl, reduceCtorEq, Bool.and_true, eq_self, true_and, and_self, freeze, lidsL, lids, List.flatMap_cons, List.flatMap_nil, List.all_cons, ren, renB, shiftρ, renR_ints, *] | simp (disch := omega) only [getD_ints, wrapI] | (with_reducible show wcall _ false (.lit (.func (.func 13) _ _)) _ _ _ _; refine wcall_fn (h13a) ?_ ?_ ?_; (next => simp [rfyL, rfy, hget, ints, take_rfy, plainR_sk]); (next => simp [plainL, plain, plainR, plainR_sk])) | (with_reducible show wcallX _ false (.lit (.func (.func 13) _ _)) _ _ _ _; refine wcallX_fn (h13a) ?_ ?_ ?_; (next => simp [rfyL, rfy, hget, ints, take_rfy, plainR_sk]); (next => simp [plainL, plain, plainR, plainR_sk])) | (with_reducible show wcall _ false (.lit (.func (.func 13) _ _)) _ _ _ _; refine wcall_fn (h13b) ?_ ?_ ?_; (next => simp [rfyL, rfy, hget, ints, take_rfy, plainR_sk]); (next => simp [plainL, plain, plainR, plainR_sk])) | (with_reducible show wcallX _ false (.lit (.func (.func 13) _ _)) _ _ _ _; refine wcallX_fn (h13b) ?_ ?_ ?_; (next => simp [rfyL, rfy, hget, ints, take_rfy, plainR_sk]); (next => simp [plainL, plain, plainR, plainR_sk])) | omega)
  refine wcall_E0 h19a.1 (by simp [plain, plainL]) (rL3 (rds_row (d := 0) ((v5 _).trans rfl) (plainR_ints _) hlh) (rds_row (d := 0) ((v2 _ 2).trans rfl) (plainR_ints _) hlw) (RowsR.rds (WL := [W]) (RowsR.cons (RowsR.nil _) (hr.down.ext (Ext.app _ _))) ((v1 _).trans rfl)) (by omega) (by omega) (by omega)) (by simp [plainL, plain, plainR_nlR]) ?_
  intro H5 hx5
  replace hwv := PLift.up (hwv.down.ext ((Ext.app _ _).trans hx5))
  have hp2 := hwv.down.2
  clear hx5 hr h19a v1 v2 v3 v4 v5 v6
  obtain ⟨v1, v2, v3, v4⟩ := cells_sub (X := []) (H := H5) rfl
  have v5 : ∀ Y, (H5 ++ Y)[H5.length + 1]? = Y[1]? := fun Y => v2 Y 1
  repeat' (first | ((with_reducible refine T_calm ?_ ?_); rfl) | (with_reducible first | refine T_seq ?_ | refine T_reg ?_ | refine T_draw ?_ | refine T_skip ?_ | refine T_exit ?_ | refine T_block ?_ | refine T_cond_t rfl ?_ | refine T_cond_f rfl ?_ | refine wdW_cons rfl ?_ | (show wcall _ false (.lit (.func (.func 13) _ _)) _ _ _ _; refine wcall_fn (h13a) rfl (by simp [plainL, plain]) ?_) | (show wcallX _ false (.lit (.func (.func 13) _ _)) _ _ _ _; refine wcallX_fn (h13a) rfl (by simp [plainL, plain, plainR, plainR_sk]) ?_) | (show wcall _ false (.lit (.func (.func 13) _ _)) _ _ _ _; refine wcall_fn (h13b) rfl (by simp [plainL, plain]) ?_) | (show wcallX _ false (.lit (.func (.func 13) _ _)) _ _ _ _; refine wcallX_fn (h13b) rfl (by simp [plainL, plain, plainR, plainR_sk]) ?_) | refine T_ret ?_ | refine wif_intro ?_ (fun hc => ?_) | refine And.intro ?_ ?_ | intro hc) | simp (maxSteps := 4000000) only [wops_nil, wops_cons, wstep_none, wrun_call, wrun_mv, wrun_ext, wop, aop, ev, look, put_some, writes, ores_some, thenK, List.map_cons, List.map_nil, List.length_cons, List.length_nil, List.getElem?_cons_zero, List.getElem?_cons_succ, List.cons_append, List.nil_append, List.append_nil, List.append_assoc, List.replicate_zero, List.length_append, Option.map_some, if_true, if_false, Nat.reduceEqDiff, Nat.zero_add, eq_self, freeze, lidsL, lids, List.flatMap_cons, List.flatMap_nil, ren, renB, shiftρ, renR_ints, *] | simp (disch := omega) only [getD_ints, wrapI] | (with_reducible show wcall _ false (.lit (.func (.func 13) _ _)) _ _ _ _; refine wcall_fn (h13a) ?_ ?_ ?_; (next => simp [rfyL, rfy, hget, ints, take_rfy, plainR_sk]); (next => simp [plainL, plain, plainR, plainR_sk])) | (with_reducible show wcallX _ false (.lit (.func (.func 13) _ _)) _ _ _ _; refine wcallX_fn (h13a) ?_ ?_ ?_; (next => simp [rfyL, rfy, hget, ints, take_rfy, plainR_sk]); (next => simp [plainL, plain, plainR, plainR_sk])) | (with_reducible show wcall _ false (.lit (.func (.func 13) _ _)) _ _ _ _; refine wcall_fn (h13b) ?_ ?_ ?_; (next => simp [rfyL, rfy, hget, ints, take_rfy, plainR_sk]); (next => simp [plainL, plain, plainR, plainR_sk])) | (with_reducible show wcallX _ false (.lit (.func (.func 13) _ _)) _ _ _ _; refine wcallX_fn (h13b) ?_ ?_ ?_; (next => simp [rfyL, rfy, hget, ints, take_rfy, plainR_sk]); (next => simp [plainL, plain, plainR, plainR_sk])) | omega)
  refine wcall_E0 h19b.1 (by simp [plain, plainL]) (rL3 (rds_row (d := 0) ((v1 _).trans rfl) (plainR_ints _) hlh) (rds_row (d := 0) ((v5 _).trans rfl) (plainR_ints _) hlw) (hwv.down.ext (Ext.app _ _)) (by omega) (by omega) (by omega)) (by simp [plainL, plain, plainR_nlR]) ?_
  intro H6 hx6
  clear hx6 hwv h19b v1 v2 v3 v4 v5 hp2 h13a h13b
  repeat' (first | ((with_reducible refine T_calm ?_ ?_); rfl) | (with_reducible first | refine T_seq ?_ | refine T_reg ?_ | refine T_draw ?_ | refine T_skip ?_ | refine T_exit ?_ | refine T_block ?_ | refine T_cond_t rfl ?_ | refine T_cond_f rfl ?_ | refine wdW_cons rfl ?_ | refine T_ret ?_ | refine wif_intro ?_ (fun hc => ?_) | refine And.intro ?_ ?_ | intro hc) | simp (maxSteps := 4000000) only [wops_nil, wops_cons, wstep_none, wstep_some, wguard_true, wrun_mv, wrun_pick, wrun_bin, wrun_ext, wop, aop, ev, look, put_some, writes, ores_some, binV, thenK, List.getElem?_cons_zero, List.getElem?_cons_succ, List.append_nil, List.replicate_zero, Option.map_some, if_true, if_false, Nat.reduceEqDiff, reduceCtorEq, eq_self, beq_self_eq_true, *] | simp (disch := omega) only [getD_ints, wrapI] | omega)
  exact leave_of (.inr rfl) [bl true] (by simp [resL, resAV, get_mk, look]) ⟨rfl, rfl⟩
end Go.Abs
