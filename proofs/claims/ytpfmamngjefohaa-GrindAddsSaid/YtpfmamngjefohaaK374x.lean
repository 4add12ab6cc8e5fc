import Derived.Test.YtpfmamngjefohaaK373x
set_option linter.all false
set_option linter.unusedVariables false
set_option linter.unusedSimpArgs false
set_option linter.unusedSectionVars false
namespace Go.Abs
open Go.Proofs
/-! LeftFor of the reference: a round -/
abbrev fB (W : List Int) : Blk := .cells false false 1 (W.map fun x => [i64 x])
abbrev SL60 (n k : Nat) : List (Nat × AV) := [(5, .loc 0 0 0), (8, .loc 1 0 0), (10, .lsl 2 0 n), (11, .loc 3 0 0), (12, i64 k)]
abbrev H60 (d1 d2 : Bool) (lo hi W : List Int) : List Blk := [dB d1 lo d2 hi, zB, fB W, zB]
set_option maxHeartbeats 8000000 in
theorem k60good {d1 d2 : Bool} {lo hi W : List Int} {n k : Nat} (hn : n ≤ 1000) (hW : W.length = n) (hh : hi.length = n) (hlo : lo.length = n) (hb : (-1000000000 ≤ lo.getD k 0 ∧ lo.getD k 0 ≤ 1000000000) ∧ (-1000000000 ≤ hi.getD k 0 ∧ hi.getD k 0 ≤ 1000000000) ∧ (-1000000000 ≤ W.getD k 0 ∧ W.getD k 0 ≤ 1000000000)) (K : Exit → St → Prop) (hk : k < n) {H : List Blk} (hJ : I96 (H60 d1 d2 lo hi W) 3 lo hi W k H) {bb : Nat} :
    T none Try.prog muts 59 bb c60l0 ⟨SL60 n k, H⟩ (thenK (fun s' => I96 (H60 d1 d2 lo hi W) 3 lo hi W (k + 1) s'.heap ∧ (s'.only [5, 8, 10, 11, 12]).slots = SL60 n (k + 1)) K) := by
  have hll := (by simp : (lo.map fun x => [i64 x]).length = lo.length)
  have hlh := (by simp : (hi.map fun x => [i64 x]).length = hi.length)
  have hlw := (by simp : (W.map fun x => [i64 x]).length = W.length)
  have g1 : (W.map fun x => [i64 x]).getD k [] = [i64 (W.getD k 0)] := getD_ints (by omega)
  have g2 : (hi.map fun x => [i64 x]).getD k [] = [i64 (hi.getD k 0)] := getD_ints (by omega)
  have g3 : (lo.map fun x => [i64 x]).getD k [] = [i64 (lo.getD k 0)] := getD_ints (by omega)
  have hkn : (k : Int) < (n : Int) := by omega
  have hkh : (k : Int) < (hi.length : Int) := by omega
  have hkl : (k : Int) < (lo.length : Int) := by omega
  have ew1 : IntKind.i64.wrap (lo.getD k 0 - W.getD k 0) = lo.getD k 0 - W.getD k 0 := wrapI (by omega) (by omega)
  obtain ⟨hv, ehv, ew2⟩ : ∃ hv, hwz hi W k = hv ∧ IntKind.i64.wrap (hi.getD k 0 - W.getD k 0) = hv := ⟨_, rfl, wrapI (by omega) (by omega)⟩
  obtain ⟨lv, elv, em⟩ : ∃ lv, lwz lo W k = lv ∧ (if lo.getD k 0 - W.getD k 0 > 0 then lo.getD k 0 - W.getD k 0 else 0) = lv := ⟨_, rfl, rfl⟩
  have e1 := fR_snoc k (lwz lo W)
  have e2 := fR_snoc k (hwz hi W)
  rw [elv] at e1
  rw [ehv] at e2
  have r1 := fR_len k (lwz lo W)
  have r2 := fR_len k (hwz hi W)
  obtain ⟨hN, hS, hB, hT1, hT2⟩ := hJ
  have f0 : H[0]? = some (dB d1 lo d2 hi) := hS 0 (by simp) (by omega)
  have fw : H[2]? = some (fB W) := hS 2 (by simp) (by omega)
  by_cases hk0 : k = 0
  · subst hk0
    have hN9 : H.length = 4 := hN
    have fin := PLift.up (fun a c => I96.fin (H0 := H60 d1 d2 lo hi W) (q := 3) (lo := lo) (hi := hi) (W := W) (k := 0) (by simp) hN hS a c)
    rw [e1, e2] at fin
    have z1 : fR 0 (lwz lo W) = [] := rfl
    have z2 : fR 0 (hwz hi W) = [] := rfl
    rw [z1, z2] at fin
    obtain ⟨u1, u2, u3, u4⟩ := cells_sub (X := []) hN9
    have u5 := fun Y => u2 Y 1
    have u6 := fun Y => u2 Y 2
    have u7 := fun Y => u2 Y 3
    have x5 := fun Y v => u4 Y 1 v
    have x6 := fun Y v => u4 Y 2 v
    have x7 := fun Y v => u4 Y 3 v
    simp only [Nat.reduceAdd] at u5 u6 u7 x5 x6 x7
    have a0 := at_in f0
    have aw := at_in fw
    have hB' : H[3]? = some zB := hB
    have a2 := at_in hB'
    have s2 := set_in (H := H) (i := 3) (by omega)
    have l2 := look_set (H := H) (i := 3) (by omega)
    have ss : ∀ v w, (H.set 3 v).set 3 w = H.set 3 w := fun v w => List.set_set ..
    have s3 : ∀ v Y w, (H.set 3 v ++ Y).set 3 w = H.set 3 w ++ Y := fun v Y w => by rw [set_in (by simp; omega), ss]
    clear hS hT1 hT2 hB hN ss hb elv ehv hh hlo e1 e2
    generalize lo.getD 0 0 = xl at *
    generalize hi.getD 0 0 = xh at *
    generalize W.getD 0 0 = xw at *
    unfold c60l0
    simp only [SL60]
    repeat' (first | ((with_reducible refine T_calm ?_ ?_); rfl) | (with_reducible first | refine T_seq ?_ | refine T_reg ?_ | refine T_draw ?_ | refine T_skip ?_ | refine T_exit ?_ | refine T_block ?_ | refine T_cond_t rfl ?_ | refine T_cond_f rfl ?_ | refine wdW_cons rfl ?_ | refine T_ret ?_ | refine wif_intro ?_ (fun hc => ?_) | refine And.intro ?_ ?_ | intro hc) | simp (maxSteps := 4000000) only [wops_nil, wops_cons, wstep_none, wrun_mv, wrun_bin, wrun_load, wrun_store, wrun_faddr, wrun_iaddrS, wrun_len, wrun_minmax, wrun_bslice, wrun_app, wrunX_mv, wrunX_bin, wrunX_load, wrunX_store, wrunX_faddr, wrunX_iaddrS, wrunX_minmax, wrunX_bslice, wrunX_app, wdW_nil, wstepX_none, wop, aop, ev, look, put_some, put_none, writes, ores_some, ores_ite_none, ores_map, ores_bind, binV, thenK, blockK, intV, lenOf, elsOf, szOk, value, cut, hget, fillA, putCells, AV.parts, isOne, toLits, mkAgg, List.flatten_cons, List.flatten_nil, rowsOf, List.map_cons, List.map_nil, List.length_cons, List.length_nil, List.getElem?_cons_zero, List.getElem?_cons_succ, List.set_cons_zero, List.set_cons_succ, List.take_succ_cons, List.take_zero, List.take_nil, List.drop_succ_cons, List.drop_zero, List.drop_nil, List.cons_append, List.nil_append, List.append_nil, List.replicate_zero, List.replicate_succ, List.getD_cons_zero, List.all_cons, List.all_nil, List.isEmpty_cons, List.length_append, Option.pure_def, Option.bind_eq_bind, Option.getD_some, Option.map_some, if_true, if_false, Nat.reduceEqDiff, Nat.reduceAdd, Nat.reduceMul, Nat.reduceLeDiff, Nat.reduceLT, Nat.add_zero, Nat.zero_add, Nat.sub_zero, Nat.mul_one, Nat.le_refl, reduceCtorEq, Bool.and_true, Bool.or_true, Bool.false_eq_true, eq_self, true_and, and_true, and_self, decide_true, beq_self_eq_true, List.all_cons, Int.toNat_natCast, *] | simp (disch := omega) only [wrapI] | (with_reducible refine wdW_cons ?_ ?_; (next => simp [chk, foot, compatB, argsOf, St.get, target, ev, look, lidsL, hget, kind, AOp.isRaw, wids, wtops, tops, opds, topId, Int.toNat_natCast]; done)) | omega)
    all_goals first | exact fin.down _ _ | (simp [St.only, get_mk, look]; done)
  · have hN9 : H.length = 4 + 4 * k := hN
    have hT1' := hT1 hk0
    have hT2' := hT2 hk0
    simp only [oL, if_neg hk0] at hB
    have hM1 := (List.getElem?_eq_some_iff.1 hT1').1
    have hM2 := (List.getElem?_eq_some_iff.1 hT2').1
    have eM1 : (H60 d1 d2 lo hi W).length + 4 * k - 3 = 4 * k + 1 := by show 4 + 4 * k - 3 = 4 * k + 1; omega
    have eM2 : (H60 d1 d2 lo hi W).length + 4 * k - 1 = 4 * k + 3 := by show 4 + 4 * k - 1 = 4 * k + 3; omega
    rw [eM1] at hT1' hB hM1
    rw [eM2] at hT2' hB hM2
    have fin := PLift.up (fun a c => I96.fin (H0 := H60 d1 d2 lo hi W) (F := (H.set (4 * k + 1) .dead).set (4 * k + 3) .dead) (q := 3) (lo := lo) (hi := hi) (W := W) (k := k) (by simp) (by rw [List.length_set, List.length_set]; exact hN) (fun i hi9 hne => by
      have : i < 4 := hi9
      rw [List.getElem?_set_ne (by omega), List.getElem?_set_ne (by omega)]; exact hS i hi9 hne) a c)
    rw [e1, e2] at fin
    have eN1 : (H60 d1 d2 lo hi W).length + 4 * k + 1 = 4 + 4 * k + 1 := rfl
    have eN3 : (H60 d1 d2 lo hi W).length + 4 * k + 3 = 4 + 4 * k + 3 := rfl
    rw [eN1, eN3] at fin
    have m0 : 0 < 4 + 4 * k := by omega
    have m1 : 0 ≠ 4 + 4 * k := by omega
    have m2 : 4 + 4 * k ≠ 0 := by omega
    have m3 : 1 < 4 + 4 * k := by omega
    have m4 : 1 ≠ 4 + 4 * k := by omega
    have m5 : 4 + 4 * k ≠ 1 := by omega
    have m6 : 2 < 4 + 4 * k := by omega
    have m7 : 2 ≠ 4 + 4 * k := by omega
    have m8 : 4 + 4 * k ≠ 2 := by omega
    have m9 : 3 < 4 + 4 * k := by omega
    have m10 : 3 ≠ 4 + 4 * k := by omega
    have m11 : 4 + 4 * k ≠ 3 := by omega
    have m12 : 4 * k + 1 < 4 + 4 * k := by omega
    have m13 : 4 * k + 1 ≠ 4 + 4 * k := by omega
    have m14 : 4 + 4 * k ≠ 4 * k + 1 := by omega
    have m15 : 4 * k + 3 < 4 + 4 * k := by omega
    have m16 : 4 * k + 3 ≠ 4 + 4 * k := by omega
    have m17 : 4 + 4 * k ≠ 4 * k + 3 := by omega
    have m18 : 0 < 4 + 4 * k + 1 := by omega
    have m19 : 0 ≠ 4 + 4 * k + 1 := by omega
    have m20 : 4 + 4 * k + 1 ≠ 0 := by omega
    have m21 : 1 < 4 + 4 * k + 1 := by omega
    have m22 : 1 ≠ 4 + 4 * k + 1 := by omega
    have m23 : 4 + 4 * k + 1 ≠ 1 := by omega
    have m24 : 2 < 4 + 4 * k + 1 := by omega
    have m25 : 2 ≠ 4 + 4 * k + 1 := by omega
    have m26 : 4 + 4 * k + 1 ≠ 2 := by omega
    have m27 : 3 < 4 + 4 * k + 1 := by omega
    have m28 : 3 ≠ 4 + 4 * k + 1 := by omega
    have m29 : 4 + 4 * k + 1 ≠ 3 := by omega
    have m30 : 4 * k + 1 < 4 + 4 * k + 1 := by omega
    have m31 : 4 * k + 1 ≠ 4 + 4 * k + 1 := by omega
    have m32 : 4 + 4 * k + 1 ≠ 4 * k + 1 := by omega
    have m33 : 4 * k + 3 < 4 + 4 * k + 1 := by omega
    have m34 : 4 * k + 3 ≠ 4 + 4 * k + 1 := by omega
    have m35 : 4 + 4 * k + 1 ≠ 4 * k + 3 := by omega
    have m36 : 0 < 4 + 4 * k + 2 := by omega
    have m37 : 0 ≠ 4 + 4 * k + 2 := by omega
    have m38 : 4 + 4 * k + 2 ≠ 0 := by omega
    have m39 : 1 < 4 + 4 * k + 2 := by omega
    have m40 : 1 ≠ 4 + 4 * k + 2 := by omega
    have m41 : 4 + 4 * k + 2 ≠ 1 := by omega
    have m42 : 2 < 4 + 4 * k + 2 := by omega
    have m43 : 2 ≠ 4 + 4 * k + 2 := by omega
    have m44 : 4 + 4 * k + 2 ≠ 2 := by omega
    have m45 : 3 < 4 + 4 * k + 2 := by omega
    have m46 : 3 ≠ 4 + 4 * k + 2 := by omega
    have m47 : 4 + 4 * k + 2 ≠ 3 := by omega
    have m48 : 4 * k + 1 < 4 + 4 * k + 2 := by omega
    have m49 : 4 * k + 1 ≠ 4 + 4 * k + 2 := by omega
    have m50 : 4 + 4 * k + 2 ≠ 4 * k + 1 := by omega
    have m51 : 4 * k + 3 < 4 + 4 * k + 2 := by omega
    have m52 : 4 * k + 3 ≠ 4 + 4 * k + 2 := by omega
    have m53 : 4 + 4 * k + 2 ≠ 4 * k + 3 := by omega
    have m54 : 0 < 4 + 4 * k + 3 := by omega
    have m55 : 0 ≠ 4 + 4 * k + 3 := by omega
    have m56 : 4 + 4 * k + 3 ≠ 0 := by omega
    have m57 : 1 < 4 + 4 * k + 3 := by omega
    have m58 : 1 ≠ 4 + 4 * k + 3 := by omega
    have m59 : 4 + 4 * k + 3 ≠ 1 := by omega
    have m60 : 2 < 4 + 4 * k + 3 := by omega
    have m61 : 2 ≠ 4 + 4 * k + 3 := by omega
    have m62 : 4 + 4 * k + 3 ≠ 2 := by omega
    have m63 : 3 < 4 + 4 * k + 3 := by omega
    have m64 : 3 ≠ 4 + 4 * k + 3 := by omega
    have m65 : 4 + 4 * k + 3 ≠ 3 := by omega
    have m66 : 4 * k + 1 < 4 + 4 * k + 3 := by omega
    have m67 : 4 * k + 1 ≠ 4 + 4 * k + 3 := by omega
    have m68 : 4 + 4 * k + 3 ≠ 4 * k + 1 := by omega
    have m69 : 4 * k + 3 < 4 + 4 * k + 3 := by omega
    have m70 : 4 * k + 3 ≠ 4 + 4 * k + 3 := by omega
    have m71 : 4 + 4 * k + 3 ≠ 4 * k + 3 := by omega
    have m72 : 4 * k + 1 ≠ 0 := by omega
    have m73 : 0 ≠ 4 * k + 1 := by omega
    have m74 : 4 * k + 1 ≠ 1 := by omega
    have m75 : 1 ≠ 4 * k + 1 := by omega
    have m76 : 4 * k + 1 ≠ 2 := by omega
    have m77 : 2 ≠ 4 * k + 1 := by omega
    have m78 : 4 * k + 1 ≠ 3 := by omega
    have m79 : 3 ≠ 4 * k + 1 := by omega
    have m80 : 4 * k + 3 ≠ 0 := by omega
    have m81 : 0 ≠ 4 * k + 3 := by omega
    have m82 : 4 * k + 3 ≠ 1 := by omega
    have m83 : 1 ≠ 4 * k + 3 := by omega
    have m84 : 4 * k + 3 ≠ 2 := by omega
    have m85 : 2 ≠ 4 * k + 3 := by omega
    have m86 : 4 * k + 3 ≠ 3 := by omega
    have m87 : 3 ≠ 4 * k + 3 := by omega
    have m88 : 4 * k ≠ 0 := by omega
    have m89 : 4 * k ≠ 1 := by omega
    have m90 : 1 ≠ 4 * k := by omega
    have m91 : 4 * k ≠ 2 := by omega
    have m92 : 2 ≠ 4 * k := by omega
    have m93 : 4 * k ≠ 3 := by omega
    have m94 : 3 ≠ 4 * k := by omega
    have m95 : 4 * k + 1 ≠ 4 * k + 3 := by omega
    have m96 : 4 * k + 3 ≠ 4 * k + 1 := by omega
    have o00 : 4 * k ≠ 4 + 4 * k := by omega
    have o01 : 4 * k ≠ 4 + 4 * k + 1 := by omega
    have o02 : 4 * k ≠ 4 + 4 * k + 2 := by omega
    have o03 : 4 * k ≠ 4 + 4 * k + 3 := by omega
    have o10 : 4 * k + 1 ≠ 4 + 4 * k := by omega
    have o11 : 4 * k + 1 ≠ 4 + 4 * k + 1 := by omega
    have o12 : 4 * k + 1 ≠ 4 + 4 * k + 2 := by omega
    have o13 : 4 * k + 1 ≠ 4 + 4 * k + 3 := by omega
    have o20 : 4 * k + 2 ≠ 4 + 4 * k := by omega
    have o21 : 4 * k + 2 ≠ 4 + 4 * k + 1 := by omega
    have o22 : 4 * k + 2 ≠ 4 + 4 * k + 2 := by omega
    have o23 : 4 * k + 2 ≠ 4 + 4 * k + 3 := by omega
    have o30 : 4 * k + 3 ≠ 4 + 4 * k := by omega
    have o31 : 4 * k + 3 ≠ 4 + 4 * k + 1 := by omega
    have o32 : 4 * k + 3 ≠ 4 + 4 * k + 2 := by omega
    have o33 : 4 * k + 3 ≠ 4 + 4 * k + 3 := by omega
    -- memory H
    obtain ⟨u1, u2, u3, u4⟩ := cells_sub (X := []) hN9
    have a0 := at_in f0
    have aw := at_in fw
    have a2 := at_in hB
    have at1 := at_in hT1'
    have at2 := at_in hT2'
    have s1 := fun Y => set_in (H := H) (i := 4 * k + 1) hM1 Y .dead
    -- memory F1
    have hF1 : (H.set (4 * k + 1) .dead).length = 4 + 4 * k := by rw [List.length_set, hN9]
    obtain ⟨v1, v2, v3, v4⟩ := cells_sub (X := []) hF1
    have b0 := at_in (look_off f0 (by omega : 0 ≠ 4 * k + 1) .dead)
    have bw := at_in (look_off fw (by omega : 2 ≠ 4 * k + 1) .dead)
    have b2 := at_in (look_off hB (by omega : 3 ≠ 4 * k + 1) .dead)
    have bt2 := at_in (look_off hT2' (by omega : 4 * k + 3 ≠ 4 * k + 1) .dead)
    have s2 := fun Y => set_in (H := H.set (4 * k + 1) .dead) (i := 4 * k + 3) (by rw [List.length_set]; exact hM2) Y .dead
    -- memory F2
    have hF2 : ((H.set (4 * k + 1) .dead).set (4 * k + 3) .dead).length = 4 + 4 * k := by rw [List.length_set, List.length_set, hN9]
    have c2 := at_in (look_off (look_off hB (by omega : 3 ≠ 4 * k + 1) .dead) (by omega : 3 ≠ 4 * k + 3) .dead)
    have q2 : 3 < ((H.set (4 * k + 1) .dead).set (4 * k + 3) .dead).length := by omega
    generalize hFe : (H.set (4 * k + 1) .dead).set (4 * k + 3) .dead = F at *
    obtain ⟨w1, w2, w3, w4⟩ := cells_sub (X := []) hF2
    have s4 := set_in (H := F) (i := 3) q2
    have l2 := look_set (H := F) (i := 3) q2
    have ss : ∀ v w, (F.set 3 v).set 3 w = F.set 3 w := fun v w => List.set_set ..
    have s3 : ∀ v Y w, (F.set 3 v ++ Y).set 3 w = F.set 3 w ++ Y := fun v Y w => by rw [set_in (by simp; omega), ss]
    have t1 : List.take k (fR k (lwz lo W)) = fR k (lwz lo W) := List.take_of_length_le (by omega)
    have t2 : List.take k (fR k (hwz hi W)) = fR k (hwz hi W) := List.take_of_length_le (by omega)
    generalize hFF : H.set (4 * k + 1) .dead = F1 at *
    clear hS hT1 hT2 hN ss hb elv ehv hh hlo e1 e2 hT1' hT2' hFe hFF
    generalize lo.getD k 0 = xl at *
    generalize hi.getD k 0 = xh at *
    generalize W.getD k 0 = xw at *
    generalize fR k (lwz lo W) = R1 at *
    generalize fR k (hwz hi W) = R2 at *
    have hk9 : k ≠ 0 := hk0
    unfold c60l0
    simp only [SL60]
    clear eM1 eM2 eN1 eN3
    generalize 4 * k = M at *
    repeat' (first | ((with_reducible refine T_calm ?_ ?_); rfl) | (with_reducible first | refine T_seq ?_ | refine T_reg ?_ | refine T_draw ?_ | refine T_skip ?_ | refine T_exit ?_ | refine T_block ?_ | refine T_cond_t rfl ?_ | refine T_cond_f rfl ?_ | refine wdW_cons rfl ?_ | refine T_ret ?_ | refine wif_intro ?_ (fun hc => ?_) | refine And.intro ?_ ?_ | intro hc) | simp (maxSteps := 4000000) only [wops_nil, wops_cons, wstep_none, wrun_mv, wrun_bin, wrun_load, wrun_store, wrun_faddr, wrun_iaddrS, wrun_len, wrun_minmax, wrun_bslice, wrun_app, wrunX_mv, wrunX_bin, wrunX_load, wrunX_store, wrunX_faddr, wrunX_iaddrS, wrunX_minmax, wrunX_bslice, wrunX_app, wdW_nil, wstepX_none, wop, aop, ev, look, put_some, put_none, writes, ores_some, ores_ite_none, ores_map, ores_bind, binV, thenK, blockK, intV, lenOf, elsOf, szOk, value, cut, hget, fillA, putCells, AV.parts, isOne, toLits, mkAgg, List.flatten_cons, List.flatten_nil, rowsOf, List.map_cons, List.map_nil, List.length_cons, List.length_nil, List.getElem?_cons_zero, List.getElem?_cons_succ, List.set_cons_zero, List.set_cons_succ, List.take_succ_cons, List.take_zero, List.take_nil, List.drop_succ_cons, List.drop_zero, List.drop_nil, List.cons_append, List.nil_append, List.append_nil, List.replicate_zero, List.replicate_succ, List.getD_cons_zero, List.all_cons, List.all_nil, List.isEmpty_cons, List.length_append, Option.pure_def, Option.bind_eq_bind, Option.getD_some, Option.map_some, if_true, if_false, Nat.reduceEqDiff, Nat.reduceAdd, Nat.reduceLeDiff, Nat.reduceLT, Nat.add_zero, Nat.zero_add, Nat.sub_zero, Nat.mul_one, Nat.le_refl, reduceCtorEq, Bool.and_true, Bool.and_false, Bool.or_true, Bool.false_eq_true, eq_self, true_and, and_true, and_self, decide_true, beq_self_eq_true, List.all_cons, Int.toNat_natCast, *] | simp (disch := omega) only [wrapI] | (with_reducible refine wdW_cons ?_ ?_; (next => simp [chk, foot, compatB, St.get, ev, look, kind, AOp.isRaw, wids, wtops, tops, opds, topId, o01, m8, m11, m26, m29, m47, m76, m78, m88]; done)) | omega)
    all_goals first | exact fin.down _ _ | (simp [St.only, get_mk, look]; done)
end Go.Abs
