import Derived.Test.YtdedhipkncagjaaK501x
import Derived.Test.YtdedhipkncagjaaK378x
set_option linter.all false
set_option linter.unusedVariables false
set_option linter.unusedSimpArgs false
set_option linter.unusedSectionVars false
namespace Go.Abs
open Go.Proofs
/-! TopNeverDigs: the demand is built -/
abbrev xB4 (o nil : Bool) (l : List Sk) (n3 : Bool) (s : List Ss) (b : ByteArray) : Blk := .cells o false 3 [[sts nil l, sss n3 s, tx b]]
abbrev H04 (nil : Bool) (l : List Sk) (n3 : Bool) (s : List Ss) (b : ByteArray) : List Blk := [xB4 true nil l n3 s b, zB]
abbrev SL4 (n1 n2 : Bool) (hs ws : List Int) (k : Nat) : List (Nat × AV) := [(1, ints n1 hs), (2, ints n2 ws), (3, .loc 0 0 0), (8, .loc 1 0 0), (9, i64 k)]
set_option maxHeartbeats 8000000 in
theorem k4good {n1 n2 n3 nil : Bool} {l : List Sk} {s : List Ss} {b : ByteArray} {hs ws : List Int} {k : Nat} (hn : hs.length ≤ 1000) (hW : ws.length = hs.length) (hb : (-1000000000 ≤ hs.getD k 0 ∧ hs.getD k 0 ≤ 1000000000) ∧ (-1000000000 ≤ ws.getD k 0 ∧ ws.getD k 0 ≤ 1000000000)) (K : Exit → St → Prop) (hk : k < hs.length) (hle : 0 ≤ hs.getD k 0 - ws.getD k 0 ∧ hs.getD k 0 - ws.getD k 0 ≤ 10000) {H : List Blk} (hJ : I96 (H04 nil l n3 s b) 1 ws hs ws k H) {bb : Nat} :
    T none Try.prog muts 217 bb c4l1 ⟨SL4 n1 n2 hs ws k, H⟩ (thenK (fun s' => I96 (H04 nil l n3 s b) 1 ws hs ws (k + 1) s'.heap ∧ (s'.only [1, 2, 3, 8, 9]).slots = SL4 n1 n2 hs ws (k + 1)) K) := by
  have hlh := (by simp : (hs.map fun x => [i64 x]).length = hs.length)
  have hlw := (by simp : (ws.map fun x => [i64 x]).length = ws.length)
  have g1 : (ws.map fun x => [i64 x]).getD k [] = [i64 (ws.getD k 0)] := getD_ints (by omega)
  have g2 : (hs.map fun x => [i64 x]).getD k [] = [i64 (hs.getD k 0)] := getD_ints (by omega)
  have hkn : (k : Int) < (hs.length : Int) := by omega
  have hkw : (k : Int) < (ws.length : Int) := by omega
  obtain ⟨hv, ehv, ew2⟩ : ∃ hv, hwz hs ws k = hv ∧ IntKind.i64.wrap (hs.getD k 0 - ws.getD k 0) = hv := ⟨_, rfl, wrapI (by omega) (by omega)⟩
  have elv : lwz ws ws k = 0 := by simp [lwz]
  have h10 := k10 hv 0 10000
  have d1 : decide (0 ≤ hv) = true := decide_eq_true (by rw [← ehv]; exact hle.1)
  have d2 : decide (hv ≤ 10000) = true := decide_eq_true (by rw [← ehv]; exact hle.2)
  rw [d1, d2] at h10
  have e1 := fR_snoc k (lwz ws ws)
  have e2 := fR_snoc k (hwz hs ws)
  rw [elv] at e1
  rw [ehv] at e2
  have r1 := fR_len k (lwz ws ws)
  have r2 := fR_len k (hwz hs ws)
  obtain ⟨hN, hS, hB, hT1, hT2⟩ := hJ
  clear d1 d2
  by_cases hk0 : k = 0
  · subst hk0
    have hN9 : H.length = 2 := hN
    have fin := PLift.up (fun a c => I96.fin (H0 := H04 nil l n3 s b) (q := 1) (lo := ws) (hi := hs) (W := ws) (k := 0) (by simp) hN hS a c)
    rw [e1, e2] at fin
    have z1 : fR 0 (lwz ws ws) = [] := rfl
    have z2 : fR 0 (hwz hs ws) = [] := rfl
    rw [z1, z2] at fin
    obtain ⟨u1, u2, u3, u4⟩ := cells_sub (X := []) hN9
    have u5 := fun Y => u2 Y 1
    have u6 := fun Y => u2 Y 2
    have u7 := fun Y => u2 Y 3
    have x5 := fun Y v => u4 Y 1 v
    have x6 := fun Y v => u4 Y 2 v
    have x7 := fun Y v => u4 Y 3 v
    simp only [Nat.reduceAdd] at u5 u6 u7 x5 x6 x7
    have hB' : H[1]? = some zB := hB
    have a2 := at_in hB'
    have s2 := set_in (H := H) (i := 1) (by omega)
    have l2 := look_set (H := H) (i := 1) (by omega)
    have ss : ∀ v w, (H.set 1 v).set 1 w = H.set 1 w := fun v w => List.set_set ..
    have s3 : ∀ v Y w, (H.set 1 v ++ Y).set 1 w = H.set 1 w ++ Y := fun v Y w => by rw [set_in (by simp; omega), ss]
    clear hS hT1 hT2 hB hN ss hb elv ehv e1 e2 hle
    generalize hs.getD 0 0 = xh at *
    generalize ws.getD 0 0 = xw at *
    unfold c4l1
    simp only [SL4]
    repeat' (first | ((with_reducible refine T_calm ?_ ?_); rfl) | (with_reducible first | refine T_seq ?_ | refine T_reg ?_ | refine T_draw ?_ | refine T_skip ?_ | refine T_exit ?_ | refine T_block ?_ | refine T_cond_t rfl ?_ | refine T_cond_f rfl ?_ | refine wdW_cons rfl ?_ | (show wcall _ false (.lit (.func (.func 10) _ _)) _ _ _ _; refine wcall_fn (h10) rfl (by simp [plainL, plain, plainR, Int.toNat_natCast]) ?_) | (show wcallX _ false (.lit (.func (.func 10) _ _)) _ _ _ _; refine wcallX_fn (h10) rfl (by simp [plainL, plain]) ?_) | refine T_ret ?_ | refine wif_intro ?_ (fun hc => ?_) | refine And.intro ?_ ?_ | intro hc) | simp (maxSteps := 4000000) only [wops_nil, wops_cons, wstep_none, wrun_mv, wrun_bin, wrun_not, wrun_load, wrun_store, wrun_faddr, wrun_iaddrS, wrun_len, wrun_bslice, wrun_app, wrunX_mv, wrunX_bin, wrunX_not, wrunX_load, wrunX_store, wrunX_faddr, wrunX_iaddrS, wrunX_bslice, wrunX_app, wdW_nil, wstepX_none, wrunX_call, wop, aop, ev, look, put_some, put_none, writes, ores_some, ores_ite_none, ores_map, ores_bind, binV, thenK, blockK, boolV, intV, lenOf, elsOf, szOk, value, cut, hget, fillA, putCells, AV.parts, isOne, toLits, mkAgg, List.flatten_cons, List.flatten_nil, rowsOf, List.map_cons, List.map_nil, List.length_cons, List.length_nil, List.getElem?_cons_zero, List.getElem?_cons_succ, List.set_cons_zero, List.set_cons_succ, List.take_succ_cons, List.take_zero, List.take_nil, List.drop_succ_cons, List.drop_zero, List.drop_nil, List.cons_append, List.nil_append, List.append_nil, List.replicate_zero, List.replicate_succ, List.getD_cons_zero, List.all_cons, List.all_nil, List.isEmpty_cons, List.length_append, Option.pure_def, Option.bind_eq_bind, Option.getD_some, Option.map_some, if_true, if_false, Nat.reduceEqDiff, Nat.reduceAdd, Nat.reduceMul, Nat.reduceLeDiff, Nat.reduceLT, Nat.add_zero, Nat.zero_add, Nat.sub_zero, Nat.mul_one, Nat.le_refl, reduceCtorEq, Bool.not_true, Bool.and_true, Bool.or_true, Bool.false_eq_true, eq_self, true_and, and_true, and_self, decide_true, beq_self_eq_true, freeze, lidsL, lids, List.flatMap_cons, List.flatMap_nil, List.all_cons, ren, Int.toNat_natCast, *] | simp (disch := omega) only [wrapI] | (with_reducible show wcall _ false (.lit (.func (.func 10) _ _)) _ _ _ _; refine wcall_fn (h10) ?_ ?_ ?_; (next => simp [rfyL, rfy, hget, ints, take_rfy, Int.toNat_natCast]); (next => simp [plainL, plain, plainR, Int.toNat_natCast])) | (with_reducible show wcallX _ false (.lit (.func (.func 10) _ _)) _ _ _ _; refine wcallX_fn (h10) ?_ ?_ ?_; (next => simp [rfyL, rfy, hget, ints, take_rfy, Int.toNat_natCast]); (next => simp [plainL, plain, plainR, Int.toNat_natCast])) | (with_reducible refine wdW_cons ?_ ?_; (next => simp [chk, foot, compatB, argsOf, St.get, target, ev, look, lidsL, hget, kind, AOp.isRaw, wids, wtops, tops, opds, topId, Int.toNat_natCast]; done)) | omega)
    all_goals first | exact fin.down _ _ | (simp [St.only, get_mk, look]; done)
  · obtain ⟨M, hM⟩ : ∃ M, 4 * k = M + 1 := ⟨4 * k - 1, by omega⟩
    have hN9 : H.length = 3 + M := by rw [hN, hM]; show 2 + (M + 1) = _; omega
    have hT1' := hT1 hk0
    have hT2' := hT2 hk0
    simp only [oL, if_neg hk0] at hB
    have hM1 := (List.getElem?_eq_some_iff.1 hT1').1
    have hM2 := (List.getElem?_eq_some_iff.1 hT2').1
    have eM1 : (H04 nil l n3 s b).length + 4 * k - 3 = M := by show 2 + 4 * k - 3 = M; omega
    have eM2 : (H04 nil l n3 s b).length + 4 * k - 1 = M + 2 := by show 2 + 4 * k - 1 = M + 2; omega
    rw [eM1] at hT1' hB hM1
    rw [eM2] at hT2' hB hM2
    have hM3 : 3 ≤ M := by omega
    have fin := PLift.up (fun a c => I96.fin (H0 := H04 nil l n3 s b) (F := (H.set M .dead).set (M + 2) .dead) (q := 1) (lo := ws) (hi := hs) (W := ws) (k := k) (by simp) (by rw [List.length_set, List.length_set]; exact hN) (fun i hi9 hne => by
      have : i < 2 := hi9
      rw [List.getElem?_set_ne (by omega), List.getElem?_set_ne (by omega)]; exact hS i hi9 hne) a c)
    rw [e1, e2] at fin
    have eN1 : (H04 nil l n3 s b).length + 4 * k + 1 = 3 + M + 1 := by show 2 + 4 * k + 1 = _; omega
    have eN3 : (H04 nil l n3 s b).length + 4 * k + 3 = 3 + M + 3 := by show 2 + 4 * k + 3 = _; omega
    rw [eN1, eN3] at fin
    have n1' : M ≠ M + 2 := by omega
    have n2' : M + 2 ≠ M := by omega
    have n3' : 0 ≠ M := by omega
    have n4 : 0 ≠ M + 2 := by omega
    have n5 : 2 ≠ M := by omega
    have n6 : 2 ≠ M + 2 := by omega
    have n7 : 1 ≠ M := by omega
    have n8 : 1 ≠ M + 2 := by omega
    have m0 : 0 < 3 + M := by omega
    have m1 : 0 ≠ 3 + M := by omega
    have m2 : 3 + M ≠ 0 := by omega
    have m3 : 1 < 3 + M := by omega
    have m4 : 1 ≠ 3 + M := by omega
    have m5 : 3 + M ≠ 1 := by omega
    have m6 : 2 < 3 + M := by omega
    have m7 : 2 ≠ 3 + M := by omega
    have m8 : 3 + M ≠ 2 := by omega
    have m9 : M < 3 + M := by omega
    have m10 : M ≠ 3 + M := by omega
    have m11 : 3 + M ≠ M := by omega
    have m12 : M + 2 < 3 + M := by omega
    have m13 : M + 2 ≠ 3 + M := by omega
    have m14 : 3 + M ≠ M + 2 := by omega
    have m15 : 0 < 3 + M + 1 := by omega
    have m16 : 0 ≠ 3 + M + 1 := by omega
    have m17 : 3 + M + 1 ≠ 0 := by omega
    have m18 : 1 < 3 + M + 1 := by omega
    have m19 : 1 ≠ 3 + M + 1 := by omega
    have m20 : 3 + M + 1 ≠ 1 := by omega
    have m21 : 2 < 3 + M + 1 := by omega
    have m22 : 2 ≠ 3 + M + 1 := by omega
    have m23 : 3 + M + 1 ≠ 2 := by omega
    have m24 : M < 3 + M + 1 := by omega
    have m25 : M ≠ 3 + M + 1 := by omega
    have m26 : 3 + M + 1 ≠ M := by omega
    have m27 : M + 2 < 3 + M + 1 := by omega
    have m28 : M + 2 ≠ 3 + M + 1 := by omega
    have m29 : 3 + M + 1 ≠ M + 2 := by omega
    have m30 : 0 < 3 + M + 2 := by omega
    have m31 : 0 ≠ 3 + M + 2 := by omega
    have m32 : 3 + M + 2 ≠ 0 := by omega
    have m33 : 1 < 3 + M + 2 := by omega
    have m34 : 1 ≠ 3 + M + 2 := by omega
    have m35 : 3 + M + 2 ≠ 1 := by omega
    have m36 : 2 < 3 + M + 2 := by omega
    have m37 : 2 ≠ 3 + M + 2 := by omega
    have m38 : 3 + M + 2 ≠ 2 := by omega
    have m39 : M < 3 + M + 2 := by omega
    have m40 : M ≠ 3 + M + 2 := by omega
    have m41 : 3 + M + 2 ≠ M := by omega
    have m42 : M + 2 < 3 + M + 2 := by omega
    have m43 : M + 2 ≠ 3 + M + 2 := by omega
    have m44 : 3 + M + 2 ≠ M + 2 := by omega
    have m45 : 0 < 3 + M + 3 := by omega
    have m46 : 0 ≠ 3 + M + 3 := by omega
    have m47 : 3 + M + 3 ≠ 0 := by omega
    have m48 : 1 < 3 + M + 3 := by omega
    have m49 : 1 ≠ 3 + M + 3 := by omega
    have m50 : 3 + M + 3 ≠ 1 := by omega
    have m51 : 2 < 3 + M + 3 := by omega
    have m52 : 2 ≠ 3 + M + 3 := by omega
    have m53 : 3 + M + 3 ≠ 2 := by omega
    have m54 : M < 3 + M + 3 := by omega
    have m55 : M ≠ 3 + M + 3 := by omega
    have m56 : 3 + M + 3 ≠ M := by omega
    have m57 : M + 2 < 3 + M + 3 := by omega
    have m58 : M + 2 ≠ 3 + M + 3 := by omega
    have m59 : 3 + M + 3 ≠ M + 2 := by omega
    have p0 : M ≠ 0 := by omega
    have p1 : M ≠ 1 := by omega
    have p2 : M ≠ 2 := by omega
    have p3 : M + 2 ≠ 0 := by omega
    have p4 : M + 2 ≠ 1 := by omega
    have p5 : M + 2 ≠ 2 := by omega
    -- memory H
    obtain ⟨u1, u2, u3, u4⟩ := cells_sub (X := []) hN9
    have a2 := at_in hB
    have at1 := at_in hT1'
    have at2 := at_in hT2'
    have s1 := fun Y => set_in (H := H) (i := M) hM1 Y .dead
    -- memory F1
    have hF1 : (H.set M .dead).length = 3 + M := by rw [List.length_set, hN9]
    obtain ⟨v1, v2, v3, v4⟩ := cells_sub (X := []) hF1
    have b2 := at_in (look_off hB n7 .dead)
    have bt2 := at_in (look_off hT2' n2' .dead)
    have s2 := fun Y => set_in (H := H.set M .dead) (i := M + 2) (by rw [List.length_set]; exact hM2) Y .dead
    -- memory F2
    have hF2 : ((H.set M .dead).set (M + 2) .dead).length = 3 + M := by rw [List.length_set, List.length_set, hN9]
    have c2 := at_in (look_off (look_off hB n7 .dead) n8 .dead)
    have q2 : 1 < ((H.set M .dead).set (M + 2) .dead).length := by omega
    generalize hFe : (H.set M .dead).set (M + 2) .dead = F at *
    obtain ⟨w1, w2, w3, w4⟩ := cells_sub (X := []) hF2
    have s4 := set_in (H := F) (i := 1) q2
    have l2 := look_set (H := F) (i := 1) q2
    have ss : ∀ v w, (F.set 1 v).set 1 w = F.set 1 w := fun v w => List.set_set ..
    have s3 : ∀ v Y w, (F.set 1 v ++ Y).set 1 w = F.set 1 w ++ Y := fun v Y w => by rw [set_in (by simp; omega), ss]
    have t1 : List.take k (fR k (lwz ws ws)) = fR k (lwz ws ws) := List.take_of_length_le (by omega)
    have t2 : List.take k (fR k (hwz hs ws)) = fR k (hwz hs ws) := List.take_of_length_le (by omega)
    generalize hFF : H.set M .dead = F1 at *
    clear hS hT1 hT2 hN ss hb elv ehv e1 e2 hT1' hT2' hFe hFF hle
    generalize hs.getD k 0 = xh at *
    generalize ws.getD k 0 = xw at *
    generalize fR k (lwz ws ws) = R1 at *
    generalize fR k (hwz hs ws) = R2 at *
    have hk9 : k ≠ 0 := hk0
    unfold c4l1
    simp only [SL4]
    clear eM1 eM2 eN1 eN3 hM
    repeat' (first | ((with_reducible refine T_calm ?_ ?_); rfl) | (with_reducible first | refine T_seq ?_ | refine T_reg ?_ | refine T_draw ?_ | refine T_skip ?_ | refine T_exit ?_ | refine T_block ?_ | refine T_cond_t rfl ?_ | refine T_cond_f rfl ?_ | refine wdW_cons rfl ?_ | (show wcall _ false (.lit (.func (.func 10) _ _)) _ _ _ _; refine wcall_fn (h10) rfl (by simp [plainL, plain, plainR, Int.toNat_natCast, n1', n2', n3', n4, n5, n6, n7, n8, p0, p1, p2, p3, p4, p5, m0, m1, m2, m3, m4, m5, m6, m7, m8, m9, m10, m11, m12, m13, m14, m15, m16, m17, m18, m19, m20, m21, m22, m23, m24, m25, m26, m27, m28, m29, m30, m31, m32, m33, m34, m35, m36, m37, m38, m39, m40, m41, m42, m43, m44, m45, m46, m47, m48, m49, m50, m51, m52, m53, m54, m55, m56, m57, m58, m59]) ?_) | (show wcallX _ false (.lit (.func (.func 10) _ _)) _ _ _ _; refine wcallX_fn (h10) rfl (by simp [plainL, plain]) ?_) | refine T_ret ?_ | refine wif_intro ?_ (fun hc => ?_) | refine And.intro ?_ ?_ | intro hc) | simp (maxSteps := 4000000) only [wops_nil, wops_cons, wstep_none, wrun_mv, wrun_bin, wrun_not, wrun_load, wrun_store, wrun_faddr, wrun_iaddrS, wrun_len, wrun_bslice, wrun_app, wrunX_mv, wrunX_bin, wrunX_not, wrunX_load, wrunX_store, wrunX_faddr, wrunX_iaddrS, wrunX_bslice, wrunX_app, wdW_nil, wstepX_none, wrunX_call, wop, aop, ev, look, put_some, put_none, writes, ores_some, ores_ite_none, ores_map, ores_bind, binV, thenK, blockK, boolV, intV, lenOf, elsOf, szOk, value, cut, hget, fillA, putCells, AV.parts, isOne, toLits, mkAgg, List.flatten_cons, List.flatten_nil, rowsOf, List.map_cons, List.map_nil, List.length_cons, List.length_nil, List.getElem?_cons_zero, List.getElem?_cons_succ, List.set_cons_zero, List.set_cons_succ, List.take_succ_cons, List.take_zero, List.take_nil, List.drop_succ_cons, List.drop_zero, List.drop_nil, List.cons_append, List.nil_append, List.append_nil, List.replicate_zero, List.replicate_succ, List.getD_cons_zero, List.all_cons, List.all_nil, List.isEmpty_cons, List.length_append, Option.pure_def, Option.bind_eq_bind, Option.getD_some, Option.map_some, if_true, if_false, Nat.reduceEqDiff, Nat.reduceAdd, Nat.reduceLeDiff, Nat.reduceLT, Nat.add_zero, Nat.zero_add, Nat.sub_zero, Nat.mul_one, Nat.le_refl, reduceCtorEq, Bool.not_true, Bool.and_true, Bool.and_false, Bool.or_true, Bool.false_eq_true, eq_self, true_and, and_true, and_self, decide_true, beq_self_eq_true, freeze, lidsL, lids, List.flatMap_cons, List.flatMap_nil, List.all_cons, ren, Int.toNat_natCast, *] | simp (disch := omega) only [wrapI] | (with_reducible show wcall _ false (.lit (.func (.func 10) _ _)) _ _ _ _; refine wcall_fn (h10) ?_ ?_ ?_; (next => simp [rfyL, rfy, hget, ints, take_rfy, Int.toNat_natCast, n1', n2', n3', n4, n5, n6, n7, n8, p0, p1, p2, p3, p4, p5, m0, m1, m2, m3, m4, m5, m6, m7, m8, m9, m10, m11, m12, m13, m14, m15, m16, m17, m18, m19, m20, m21, m22, m23, m24, m25, m26, m27, m28, m29, m30, m31, m32, m33, m34, m35, m36, m37, m38, m39, m40, m41, m42, m43, m44, m45, m46, m47, m48, m49, m50, m51, m52, m53, m54, m55, m56, m57, m58, m59]); (next => simp [plainL, plain, plainR, Int.toNat_natCast, n1', n2', n3', n4, n5, n6, n7, n8, p0, p1, p2, p3, p4, p5, m0, m1, m2, m3, m4, m5, m6, m7, m8, m9, m10, m11, m12, m13, m14, m15, m16, m17, m18, m19, m20, m21, m22, m23, m24, m25, m26, m27, m28, m29, m30, m31, m32, m33, m34, m35, m36, m37, m38, m39, m40, m41, m42, m43, m44, m45, m46, m47, m48, m49, m50, m51, m52, m53, m54, m55, m56, m57, m58, m59])) | (with_reducible show wcallX _ false (.lit (.func (.func 10) _ _)) _ _ _ _; refine wcallX_fn (h10) ?_ ?_ ?_; (next => simp [rfyL, rfy, hget, ints, take_rfy, Int.toNat_natCast, n1', n2', n3', n4, n5, n6, n7, n8, p0, p1, p2, p3, p4, p5, m0, m1, m2, m3, m4, m5, m6, m7, m8, m9, m10, m11, m12, m13, m14, m15, m16, m17, m18, m19, m20, m21, m22, m23, m24, m25, m26, m27, m28, m29, m30, m31, m32, m33, m34, m35, m36, m37, m38, m39, m40, m41, m42, m43, m44, m45, m46, m47, m48, m49, m50, m51, m52, m53, m54, m55, m56, m57, m58, m59]); (next => simp [plainL, plain, plainR, Int.toNat_natCast, n1', n2', n3', n4, n5, n6, n7, n8, p0, p1, p2, p3, p4, p5, m0, m1, m2, m3, m4, m5, m6, m7, m8, m9, m10, m11, m12, m13, m14, m15, m16, m17, m18, m19, m20, m21, m22, m23, m24, m25, m26, m27, m28, m29, m30, m31, m32, m33, m34, m35, m36, m37, m38, m39, m40, m41, m42, m43, m44, m45, m46, m47, m48, m49, m50, m51, m52, m53, m54, m55, m56, m57, m58, m59])) | (with_reducible refine wdW_cons ?_ ?_; (next => simp [chk, foot, compatB, St.get, ev, look, kind, AOp.isRaw, wids, wtops, tops, opds, topId, p0, p1, m5, m35, m40]; done)) | omega)
    all_goals first | exact fin.down _ _ | (simp [St.only, get_mk, look]; done)
set_option maxHeartbeats 8000000 in
theorem k4bad {n1 n2 n3 nil : Bool} {l : List Sk} {s : List Ss} {b : ByteArray} {hs ws : List Int} {k : Nat} (hn : hs.length ≤ 1000) (hW : ws.length = hs.length) (hb : (-1000000000 ≤ hs.getD k 0 ∧ hs.getD k 0 ≤ 1000000000) ∧ (-1000000000 ≤ ws.getD k 0 ∧ ws.getD k 0 ≤ 1000000000)) (K : Exit → St → Prop) (hk : k < hs.length) (hle : ¬(0 ≤ hs.getD k 0 - ws.getD k 0 ∧ hs.getD k 0 - ws.getD k 0 ≤ 10000)) {H : List Blk} (hE : ∀ τ : St, τ.get 6 = bl true → K .ret τ) {bb : Nat} :
    T none Try.prog muts 217 bb c4l1 ⟨SL4 n1 n2 hs ws k, H⟩ (thenK (fun s' => False) K) := by
  have hlh := (by simp : (hs.map fun x => [i64 x]).length = hs.length)
  have hlw := (by simp : (ws.map fun x => [i64 x]).length = ws.length)
  have g1 : (ws.map fun x => [i64 x]).getD k [] = [i64 (ws.getD k 0)] := getD_ints (by omega)
  have g2 : (hs.map fun x => [i64 x]).getD k [] = [i64 (hs.getD k 0)] := getD_ints (by omega)
  have hkn : (k : Int) < (hs.length : Int) := by omega
  have hkw : (k : Int) < (ws.length : Int) := by omega
  obtain ⟨hv, ehv, ew2⟩ : ∃ hv, hs.getD k 0 - ws.getD k 0 = hv ∧ IntKind.i64.wrap (hs.getD k 0 - ws.getD k 0) = hv := ⟨_, rfl, wrapI (by omega) (by omega)⟩
  have h10 := k10 hv 0 10000
  have d1 : (decide (0 ≤ hv) && decide (hv ≤ 10000)) = false := by
    rw [ehv] at hle
    simpa using hle
  rw [d1] at h10
  have f := PLift.up hE
  clear d1 hE hle hb ehv
  generalize hs.getD k 0 = xh at *
  generalize ws.getD k 0 = xw at *
  unfold c4l1
  repeat' (first | ((with_reducible refine T_calm ?_ ?_); rfl) | (with_reducible first | refine T_seq ?_ | refine T_reg ?_ | refine T_draw ?_ | refine T_skip ?_ | refine T_exit ?_ | refine T_block ?_ | refine T_cond_t rfl ?_ | refine T_cond_f rfl ?_ | refine wdW_cons rfl ?_ | (show wcall _ false (.lit (.func (.func 10) _ _)) _ _ _ _; refine wcall_fn (h10) rfl (by simp [plainL, plain, plainR, Int.toNat_natCast]) ?_) | (show wcallX _ false (.lit (.func (.func 10) _ _)) _ _ _ _; refine wcallX_fn (h10) rfl (by simp [plainL, plain]) ?_) | refine T_ret ?_ | refine wif_intro ?_ (fun hc => ?_) | refine And.intro ?_ ?_ | intro hc) | simp (maxSteps := 4000000) only [wops_nil, wops_cons, wstep_none, wrun_mv, wrun_bin, wrun_not, wrun_load, wrun_iaddrS, wrun_len, wrunX_mv, wrunX_bin, wrunX_not, wrunX_load, wrunX_iaddrS, wdW_nil, wstepX_none, wrunX_call, wop, aop, ev, look, put_some, writes, ores_some, ores_ite_none, ores_map, ores_bind, binV, thenK, blockK, boolV, intV, lenOf, value, cut, hget, toLits, mkAgg, List.map_cons, List.map_nil, List.length_cons, List.length_nil, List.take_succ_cons, List.take_nil, List.drop_zero, List.append_nil, List.replicate_zero, Option.pure_def, Option.bind_eq_bind, Option.map_some, if_true, if_false, Nat.reduceEqDiff, Nat.zero_add, reduceCtorEq, Bool.not_false, Bool.false_eq_true, eq_self, and_true, and_self, decide_true, freeze, lidsL, lids, List.flatMap_cons, List.flatMap_nil, ren, Int.toNat_natCast, *] | simp (disch := omega) only [getD_ints, wrapI] | (with_reducible show wcall _ false (.lit (.func (.func 10) _ _)) _ _ _ _; refine wcall_fn (h10) ?_ ?_ ?_; (next => simp [rfyL, rfy, hget, ints, take_rfy, Int.toNat_natCast]); (next => simp [plainL, plain, plainR, Int.toNat_natCast])) | (with_reducible show wcallX _ false (.lit (.func (.func 10) _ _)) _ _ _ _; refine wcallX_fn (h10) ?_ ?_ ?_; (next => simp [rfyL, rfy, hget, ints, take_rfy, Int.toNat_natCast]); (next => simp [plainL, plain, plainR, Int.toNat_natCast])) | (with_reducible refine wdW_cons ?_ ?_; (next => simp [chk, foot, compatB, argsOf, St.get, target, ev, look, lidsL, hget, kind, AOp.isRaw, wids, wtops, tops, opds, topId, Int.toNat_natCast]; done)) | omega)
  all_goals first | exact f.down _ rfl
end Go.Abs
