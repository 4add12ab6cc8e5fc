import Derived.Test.YtpfmamngjefohaaK331x
import Derived.Test.YtpfmamngjefohaaK374x
set_option linter.all false
set_option linter.unusedVariables false
set_option linter.unusedSimpArgs false
set_option linter.unusedSectionVars false
namespace Go.Abs
open Go.Proofs
/-! LeftFor of the reference, whole -/
theorem rb_of {l : List Sk} {s : List Ss} {b : ByteArray} {lo hi : List Int} (hS : SOk l) (hZ : ZOk l s) (hD : DOk (l.getD 0 sk0).wr.length lo hi) : RB lo hi (wrL l s b) (l.getD 0 sk0).wr.length := by
  have hz := hS.zon
  have hf := hZ.few
  refine ⟨by omega, hD.l1, hD.l2, fL_len _ _, fun k hk => ?_⟩
  have h1 := hD.r1 k hk
  have h2 := hD.r2 k hk
  have h3 : (wrL l s b).getD k 0 = wz l s b s.length k := fL_get _ hk
  have h4 := wz_bd hS hZ b hk s.length (Nat.le_refl _)
  omega
theorem I96.zero6 (d1 d2 : Bool) (lo hi W : List Int) : I96 (H60 d1 d2 lo hi W) 3 lo hi W 0 (H60 d1 d2 lo hi W) := ⟨rfl, fun i _ _ => rfl, rfl, fun h => (h rfl).elim, fun h => (h rfl).elim⟩
theorem lids_take (h : Nat → Blk) (d : Nat) (xs : List Int) (n : Nat) : List.flatMap (fun r => List.flatMap (lids h d) r) (List.take n (xs.map fun x => [i64 x])) = [] := by
  rw [List.flatMap_eq_nil_iff]
  intro r hr
  obtain ⟨x, _, rfl⟩ := List.mem_map.1 (List.mem_of_mem_take hr)
  cases d <;> rfl
theorem fz3 (A B : Blk) (n : Bool) (z : Nat) (X : List (List AV)) : freeze1 [A, B, .cells true n z X] 2 = [A, B, .cells false n z X] := rfl
set_option maxHeartbeats 8000000 in
theorem k60e (nil n2 d1 d2 : Bool) {l : List Sk} {s : List Ss} {b : ByteArray} {lo hi : List Int} (hS : SOk l) (hZ : ZOk l s) (hD : DOk (l.getD 0 sk0).wr.length lo hi) (h0 : okB hi (wrL l s b) (l.getD 0 sk0).wr.length = false) : Fn Try.prog 60 [sts nil l, dmV d1 lo d2 hi, sss n2 s, tx b] (.tup [zA, bl false]) [] := by
  refine fn_of e60 ?_
  have h35 := k35 nil n2 l s b hS hZ
  have hR := rb_of (b := b) hS hZ hD
  have hl3 := hR.l3
  have hl2 := hR.l2
  have hnn := hR.nn
  have h97 := k97 d1 d2 false lo hi (wrL l s b) (by omega) (by omega)
  rw [hl3, h0] at h97
  have hlw := (by simp : ((wrL l s b).map fun x => [i64 x]).length = (wrL l s b).length)
  clear hR hS hZ hD h0
  generalize wrL l s b = W at *
  generalize (l.getD 0 sk0).wr.length = n at *
  subst hl3
  unfold c60
  repeat' (first | ((with_reducible refine T_calm ?_ ?_); rfl) | (with_reducible first | refine T_seq ?_ | refine T_reg ?_ | refine T_draw ?_ | refine T_skip ?_ | refine T_exit ?_ | refine T_block ?_ | refine T_cond_t rfl ?_ | refine T_cond_f rfl ?_ | refine wdW_cons rfl ?_ | (show wcall _ false (.lit (.func (.func 35) _ _)) _ _ _ _; refine wcall_fn (h35) rfl (by simp [plainL, plain, plainR_sk, plainR_ss]) ?_) | (show wcallX _ false (.lit (.func (.func 35) _ _)) _ _ _ _; refine wcallX_fn (h35) rfl (by simp [plainL, plain, plainR, plainR_sk, plainR_ss, renR_ints, lids_take, fz3]) ?_) | (show wcall _ false (.lit (.func (.func 97) _ _)) _ _ _ _; refine wcall_fn (h97) rfl (by simp [plainL, plain]) ?_) | (show wcallX _ false (.lit (.func (.func 97) _ _)) _ _ _ _; refine wcallX_fn (h97) rfl (by simp [plainL, plain, plainR, plainR_sk, plainR_ss, renR_ints, lids_take, fz3]) ?_) | refine T_ret ?_ | refine leave_of (.inr rfl) _ rfl ?_ | refine leave_of (.inl rfl) _ rfl ?_ | refine leaveA_of (.inr rfl) _ rfl ?_ | refine leaveA_of (.inl rfl) _ rfl ?_ | refine wif_intro ?_ (fun hc => ?_) | refine And.intro ?_ ?_ | intro hc) | simp (maxSteps := 4000000) only [wops_nil, wops_cons, wstep_none, wrun_call, wrun_mv, wrun_build, wrun_load, wrun_store, wrun_alloc, wrun_box, get_mk, wop, aop, ev, look, put_some, put_none, writes, ores_some, thenK, value, cut, hget, fillA, putCells, AV.parts, isOne, toLits, mkAgg, tupOf, List.map_cons, List.map_nil, List.length_cons, List.length_nil, List.getElem?_cons_zero, List.getElem?_cons_succ, List.set_cons_zero, List.set_cons_succ, List.take_succ_cons, List.take_zero, List.take_nil, List.drop_succ_cons, List.drop_zero, List.drop_nil, List.cons_append, List.nil_append, List.append_nil, List.replicate_zero, List.replicate_succ, List.getD_cons_zero, List.zipIdx_cons, List.zipIdx_nil, List.all_cons, List.all_nil, Option.getD_some, Option.map_some, if_true, if_false, Nat.reduceEqDiff, Nat.reduceAdd, Nat.reduceLT, Nat.add_zero, Nat.zero_add, Nat.le_refl, Nat.zero_ne_one, reduceCtorEq, Bool.not_false, Bool.and_true, eq_self, true_and, and_self, freeze, lidsL, lids, List.flatMap_cons, List.flatMap_nil, List.all_cons, ren, renL, renR, renB, shiftρ, renR_ints, renR_ints, lids_take, fz3, *] | simp (disch := omega) only [getD_ints, wrapI] | (with_reducible show wcall _ false (.lit (.func (.func 35) _ _)) _ _ _ _; refine wcall_fn (h35) ?_ ?_ ?_; (next => simp [rfyL, rfy, hget, ints, take_rfy, plainR_sk, plainR_ss, renR_ints, lids_take, fz3]); (next => simp [plainL, plain, plainR, plainR_sk, plainR_ss, renR_ints, lids_take, fz3])) | (with_reducible show wcallX _ false (.lit (.func (.func 35) _ _)) _ _ _ _; refine wcallX_fn (h35) ?_ ?_ ?_; (next => simp [rfyL, rfy, hget, ints, take_rfy, plainR_sk, plainR_ss, renR_ints, lids_take, fz3]); (next => simp [plainL, plain, plainR, plainR_sk, plainR_ss, renR_ints, lids_take, fz3])) | (with_reducible show wcall _ false (.lit (.func (.func 97) _ _)) _ _ _ _; refine wcall_fn (h97) ?_ ?_ ?_; (next => simp [rfyL, rfy, hget, ints, take_rfy]); (next => simp [plainL, plain])) | (with_reducible show wcallX _ false (.lit (.func (.func 97) _ _)) _ _ _ _; refine wcallX_fn (h97) ?_ ?_ ?_; (next => simp [rfyL, rfy, hget, ints, take_rfy, plainR_sk, plainR_ss, renR_ints, lids_take, fz3]); (next => simp [plainL, plain, plainR, plainR_sk, plainR_ss, renR_ints, lids_take, fz3])) | omega)
  all_goals first | rfl
set_option maxHeartbeats 8000000 in
theorem k60 (nil n2 d1 d2 : Bool) {l : List Sk} {s : List Ss} {b : ByteArray} {lo hi : List Int} (hS : SOk l) (hZ : ZOk l s) (hD : DOk (l.getD 0 sk0).wr.length lo hi) (h0 : okB hi (wrL l s b) (l.getD 0 sk0).wr.length = true) : Fn Try.prog 60 [sts nil l, dmV d1 lo d2 hi, sss n2 s, tx b] (.tup [.agg [.lsl 0 0 (l.getD 0 sk0).wr.length, .lsl 1 0 (l.getD 0 sk0).wr.length], bl true]) [iC (lwL lo (wrL l s b) (l.getD 0 sk0).wr.length), iC (hwL hi (wrL l s b) (l.getD 0 sk0).wr.length)] := by
  refine fn_of e60 ?_
  have h35 := k35 nil n2 l s b hS hZ
  have hR := rb_of (b := b) hS hZ hD
  have hl3 := hR.l3
  have hl2 := hR.l2
  have hnn := hR.nn
  have h97 := k97 d1 d2 false lo hi (wrL l s b) (by omega) (by omega)
  rw [hl3, h0] at h97
  have hlw := (by simp : ((wrL l s b).map fun x => [i64 x]).length = (wrL l s b).length)
  have hgood := fun k hk H hJ K => k60good (d1 := d1) (d2 := d2) (lo := lo) (hi := hi) (W := wrL l s b) (n := (l.getD 0 sk0).wr.length) (k := k) (bb := 0) hnn.2 hR.l3 hR.l2 hR.l1 (hR.b k hk) K hk (H := H) hJ
  clear hR hS hZ hD h0
  generalize wrL l s b = W at *
  generalize (l.getD 0 sk0).wr.length = n at *
  subst hl3
  have e1 : fR W.length (lwz lo W) = (lwL lo W W.length).map fun x => [i64 x] := fR_eq _ _
  have e2 : fR W.length (hwz hi W) = (hwL hi W W.length).map fun x => [i64 x] := fR_eq _ _
  replace hgood := PLift.up hgood
  unfold c60
  repeat' (first | ((with_reducible refine T_calm ?_ ?_); rfl) | (with_reducible first | refine T_seq ?_ | refine T_reg ?_ | refine T_draw ?_ | refine T_skip ?_ | refine T_exit ?_ | refine T_block ?_ | refine T_cond_t rfl ?_ | refine T_cond_f rfl ?_ | refine wdW_cons rfl ?_ | (show wcall _ false (.lit (.func (.func 35) _ _)) _ _ _ _; refine wcall_fn (h35) rfl (by simp [plainL, plain, plainR_sk, plainR_ss]) ?_) | (show wcallX _ false (.lit (.func (.func 35) _ _)) _ _ _ _; refine wcallX_fn (h35) rfl (by simp [plainL, plain, plainR, plainR_sk, plainR_ss, renR_ints, lids_take, fz3]) ?_) | (show wcall _ false (.lit (.func (.func 97) _ _)) _ _ _ _; refine wcall_fn (h97) rfl (by simp [plainL, plain]) ?_) | (show wcallX _ false (.lit (.func (.func 97) _ _)) _ _ _ _; refine wcallX_fn (h97) rfl (by simp [plainL, plain, plainR, plainR_sk, plainR_ss, renR_ints, lids_take, fz3]) ?_) | refine T_ret ?_ | refine leave_of (.inr rfl) _ rfl ?_ | refine leave_of (.inl rfl) _ rfl ?_ | refine leaveA_of (.inr rfl) _ rfl ?_ | refine leaveA_of (.inl rfl) _ rfl ?_ | refine wif_intro ?_ (fun hc => ?_) | refine And.intro ?_ ?_ | intro hc) | simp (maxSteps := 4000000) only [wops_nil, wops_cons, wstep_none, wrun_call, wrun_mv, wrun_load, wrun_alloc, wrun_box, wop, aop, ev, look, put_some, writes, ores_some, thenK, value, cut, hget, AV.parts, isOne, toLits, mkAgg, List.map_cons, List.map_nil, List.length_cons, List.length_nil, List.getElem?_cons_zero, List.getElem?_cons_succ, List.set_cons_zero, List.set_cons_succ, List.take_succ_cons, List.take_nil, List.drop_zero, List.cons_append, List.nil_append, List.append_nil, List.replicate_zero, List.replicate_succ, List.getD_cons_zero, List.zipIdx_cons, List.zipIdx_nil, List.all_cons, List.all_nil, Option.getD_some, Option.map_some, if_true, if_false, Nat.reduceEqDiff, Nat.reduceAdd, Nat.add_zero, Nat.zero_add, Nat.zero_ne_one, reduceCtorEq, Bool.not_true, Bool.and_true, eq_self, true_and, and_self, freeze, lidsL, lids, List.flatMap_cons, List.flatMap_nil, List.all_cons, ren, renB, shiftρ, renR_ints, renR_ints, lids_take, fz3, *] | simp (disch := omega) only [getD_ints, wrapI] | (with_reducible show wcall _ false (.lit (.func (.func 35) _ _)) _ _ _ _; refine wcall_fn (h35) ?_ ?_ ?_; (next => simp [rfyL, rfy, hget, ints, take_rfy, plainR_sk, plainR_ss, renR_ints, lids_take, fz3]); (next => simp [plainL, plain, plainR, plainR_sk, plainR_ss, renR_ints, lids_take, fz3])) | (with_reducible show wcallX _ false (.lit (.func (.func 35) _ _)) _ _ _ _; refine wcallX_fn (h35) ?_ ?_ ?_; (next => simp [rfyL, rfy, hget, ints, take_rfy, plainR_sk, plainR_ss, renR_ints, lids_take, fz3]); (next => simp [plainL, plain, plainR, plainR_sk, plainR_ss, renR_ints, lids_take, fz3])) | (with_reducible show wcall _ false (.lit (.func (.func 97) _ _)) _ _ _ _; refine wcall_fn (h97) ?_ ?_ ?_; (next => simp [rfyL, rfy, hget, ints, take_rfy]); (next => simp [plainL, plain])) | (with_reducible show wcallX _ false (.lit (.func (.func 97) _ _)) _ _ _ _; refine wcallX_fn (h97) ?_ ?_ ?_; (next => simp [rfyL, rfy, hget, ints, take_rfy, plainR_sk, plainR_ss, renR_ints, lids_take, fz3]); (next => simp [plainL, plain, plainR, plainR_sk, plainR_ss, renR_ints, lids_take, fz3])) | omega)
  clear h35 h97
  refine T_forP [5, 8, 10, 11, 12] (SL60 W.length) W.length (I96 (H60 d1 d2 lo hi W) 3 lo hi W) 0 ?_ (I96.zero6 d1 d2 lo hi W) (Nat.zero_le _) ?_
  · simp [St.only, get_mk, look]
  intro k H hk hJ
  by_cases hkn : k < W.length
  · exact T_thenR (hgood.down k hkn H hJ _) fun s' hs => ⟨hkn, hs.1, hs.2⟩
  · have hke : k = W.length := by omega
    subst hke
    have hk0 : W.length ≠ 0 := by omega
    obtain ⟨hN, hS, hB, hT1, hT2⟩ := hJ
    have f1 : H[1]? = some zB := hS 1 (by simp) (by omega)
    have fw : H[2]? = some (fB W) := hS 2 (by simp) (by omega)
    have y1 := (List.getElem?_eq_some_iff.1 f1).1
    have hT1' := hT1 hk0
    have hT2' := hT2 hk0
    rw [e1] at hT1'
    rw [e2] at hT2'
    simp only [oL, if_neg hk0] at hB
    have eM1 : (H60 d1 d2 lo hi W).length + 4 * W.length - 3 = 4 * W.length + 1 := by show 4 + 4 * W.length - 3 = 4 * W.length + 1; omega
    have eM2 : (H60 d1 d2 lo hi W).length + 4 * W.length - 1 = 4 * W.length + 3 := by show 4 + 4 * W.length - 1 = 4 * W.length + 3; omega
    rw [eM1] at hT1' hB
    rw [eM2] at hT2' hB
    have n1 : 4 * W.length + 1 ≠ 1 := by omega
    have n2 : 4 * W.length + 3 ≠ 1 := by omega
    have q1 := fun v => look_off hT1' n1 v
    have q2 := fun v => look_off hT2' n2 v
    have q3 : ∀ v, (H.set 1 v)[1]? = some v := fun v => List.getElem?_set_self y1
    have n3 : 4 * W.length + 1 ≠ 4 * W.length + 3 := by omega
    have q1l := fun v => (List.getElem?_eq_some_iff.1 (q1 v)).1
    have q2l := fun v => (List.getElem?_eq_some_iff.1 (q2 v)).1
    have hkk : decide ((W.length : Int) < (W.length : Int)) = false := by simp
    replace q1 := PLift.up q1
    replace q2 := PLift.up q2
    replace q1l := PLift.up q1l
    replace q2l := PLift.up q2l
    replace n3 := PLift.up n3
    clear hgood hS hT1 hT2 hN e1 e2 eM1 eM2 n1 n2 hT1' hT2' hnn
    generalize 4 * W.length + 1 = M at *
    generalize 4 * W.length + 3 = M3 at *
    unfold c60l0
    repeat' (first | ((with_reducible refine T_calm ?_ ?_); rfl) | (with_reducible first | refine T_seq ?_ | refine T_reg ?_ | refine T_draw ?_ | refine T_skip ?_ | refine T_exit ?_ | refine T_block ?_ | refine T_cond_t rfl ?_ | refine T_cond_f rfl ?_ | refine wdW_cons rfl ?_ | refine T_ret ?_ | refine wif_intro ?_ (fun hc => ?_) | refine And.intro ?_ ?_ | intro hc) | simp (maxSteps := 4000000) only [wops_nil, wops_cons, wstep_none, wrun_mv, wrun_bin, wrun_load, wrun_store, wrun_len, wop, aop, ev, look, put_some, put_none, writes, ores_some, ores_map, ores_bind, binV, thenK, blockK, intV, lenOf, value, cut, hget, putCells, AV.parts, isOne, toLits, mkAgg, List.length_cons, List.length_nil, List.set_cons_zero, List.take_succ_cons, List.take_zero, List.take_nil, List.drop_succ_cons, List.drop_zero, List.drop_nil, List.nil_append, List.append_nil, List.replicate_zero, List.getD_cons_zero, List.all_cons, List.all_nil, Option.pure_def, Option.bind_eq_bind, Option.getD_some, Option.map_some, if_true, if_false, Nat.reduceEqDiff, Nat.reduceAdd, Nat.reduceLT, Nat.zero_add, Nat.le_refl, reduceCtorEq, Bool.and_true, eq_self, and_self, false_and, List.all_cons, *] | simp (disch := omega) only [getD_ints, wrapI] | omega)
    refine leave_ids (.inr rfl) [.agg [.lsl M 0 W.length, .lsl M3 0 W.length], bl true] [M, M3] ?_ (fun id hid => ?_) (by simp; exact n3.down) ?_
    · simp [resL, resAV, aop, ev, get_mk, look, hget, q3, cut, value, mkAgg, toLits]
    · simp only [List.mem_cons, List.not_mem_nil, or_false] at hid
      rcases hid with rfl | rfl
      · exact q1l.down _
      · exact q2l.down _
    · have := n3.down
      simp [ren, renL, tupOf, keepρ, pos, hget, q1.down, q2.down, renB, renR_ints, this]
end Go.Abs
