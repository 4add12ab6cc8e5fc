import Derived.Test.YtdedhipkncagjaaK330x
set_option linter.all false
set_option linter.unusedVariables false
set_option linter.unusedSimpArgs false
set_option linter.unusedSectionVars false
namespace Go.Abs
open Go.Proofs
/-! rest: what is left of a demand -/
def lwz (lo W : List Int) (z : Nat) : Int := if lo.getD z 0 - W.getD z 0 > 0 then lo.getD z 0 - W.getD z 0 else 0
def hwz (hi W : List Int) (z : Nat) : Int := hi.getD z 0 - W.getD z 0
theorem fR_snoc (k : Nat) (f : Nat → Int) : fR (k + 1) f = fR k f ++ [[i64 (f k)]] := by simp [fR, List.range_succ]
abbrev dB (d1 : Bool) (lo : List Int) (d2 : Bool) (hi : List Int) : Blk := .cells true false 2 [[ints d1 lo, ints d2 hi]]
abbrev zB : Blk := .cells true false 2 [[.sl true 0 [], .sl true 0 []]]
abbrev oL (M k : Nat) : AV := if k = 0 then .sl true 0 [] else .lsl M 0 k
structure I96 (H0 : List Blk) (q : Nat) (lo hi W : List Int) (k : Nat) (H : List Blk) : Prop where
  n : H.length = H0.length + 4 * k
  s : ∀ i, i < H0.length → i ≠ q → H[i]? = H0[i]?
  b : H[q]? = some (.cells true false 2 [[oL (H0.length + 4 * k - 3) k, oL (H0.length + 4 * k - 1) k]])
  t1 : k ≠ 0 → H[H0.length + 4 * k - 3]? = some (.cells true false 1 (fR k (lwz lo W)))
  t2 : k ≠ 0 → H[H0.length + 4 * k - 1]? = some (.cells true false 1 (fR k (hwz hi W)))
theorem I96.fin {H0 F : List Blk} {q : Nat} {lo hi W : List Int} {k : Nat} (hq : q < H0.length) (hF : F.length = H0.length + 4 * k) (hs : ∀ i, i < H0.length → i ≠ q → F[i]? = H0[i]?) (a c : Blk) : I96 H0 q lo hi W (k + 1) (F.set q (.cells true false 2 [[.lsl (H0.length + 4 * k + 1) 0 (k + 1), .lsl (H0.length + 4 * k + 3) 0 (k + 1)]]) ++ [a, .cells true false 1 (fR (k + 1) (lwz lo W)), c, .cells true false 1 (fR (k + 1) (hwz hi W))]) := by
  have e1 : H0.length + 4 * (k + 1) - 3 = H0.length + 4 * k + 1 := by omega
  have e2 : H0.length + 4 * (k + 1) - 1 = H0.length + 4 * k + 3 := by omega
  refine ⟨by simp [hF]; omega, fun i hi hne => ?_, ?_, fun _ => ?_, fun _ => ?_⟩
  · rw [List.getElem?_append_left (by simp; omega), List.getElem?_set_ne (fun h => hne h.symm)]; exact hs i hi hne
  · rw [List.getElem?_append_left (by simp; omega), List.getElem?_set_self (by omega), e1, e2]
    simp [oL]
  · rw [e1, List.getElem?_append_right (by simp; omega), List.length_set, hF, show H0.length + 4 * k + 1 - (H0.length + 4 * k) = 1 by omega]; rfl
  · rw [e2, List.getElem?_append_right (by simp; omega), List.length_set, hF, show H0.length + 4 * k + 3 - (H0.length + 4 * k) = 3 by omega]; rfl
/-- looking into memory that is told of, and changing it there -/
theorem set_in {H : List Blk} {i : Nat} (h : i < H.length) (Y : List Blk) (v : Blk) : (H ++ Y).set i v = H.set i v ++ Y := List.set_append_left _ _ h
theorem look_set {H : List Blk} {i : Nat} (h : i < H.length) (v : Blk) (Y : List Blk) : (H.set i v ++ Y)[i]? = some v := by
  rw [List.getElem?_append_left (by simpa using h), List.getElem?_set_self h]
theorem look_off {H : List Blk} {i j : Nat} {b : Blk} (h : H[i]? = some b) (hne : i ≠ j) (v : Blk) : (H.set j v)[i]? = some b := by rw [List.getElem?_set_ne (fun h => hne h.symm)]; exact h
abbrev SL96 (nw : Bool) (W : List Int) (n k : Nat) : List (Nat × AV) := [(2, .loc 0 0 0), (4, .loc 1 0 0), (6, .loc 2 0 0), (9, ints nw W), (10, i64 n), (11, i64 k)]
abbrev H96 (d1 d2 : Bool) (lo hi : List Int) : List Blk := [dB d1 lo d2 hi, zB, zB]
set_option maxHeartbeats 8000000 in
theorem k42bad {d1 d2 nw : Bool} {lo hi W : List Int} {n k : Nat} (hn : n ≤ 1000) (hW : W.length = n) (hh : hi.length = n) (K : Exit → St → Prop) (hk : k < n) (hgt : ¬W.getD k 0 ≤ hi.getD k 0) {H : List Blk} (hJ : I96 (H96 d1 d2 lo hi) 2 lo hi W k H)
    (hE : ∀ τ : St, τ.get 5 = i64 26 → τ.get 4 = .loc 1 0 0 → τ.heap[1]? = some zB → K .ret τ) {bb : Nat} :
    T none Try.prog muts 51 bb c42l0 ⟨SL96 nw W n k, H⟩ (thenK (fun s' => False) K) := by
  have hlh := (by simp : (hi.map fun x => [i64 x]).length = hi.length)
  have hlw := (by simp : (W.map fun x => [i64 x]).length = W.length)
  have g1 : (W.map fun x => [i64 x]).getD k [] = [i64 (W.getD k 0)] := getD_ints (by omega)
  have g2 : (hi.map fun x => [i64 x]).getD k [] = [i64 (hi.getD k 0)] := getD_ints (by omega)
  have d0 : decide (W.getD k 0 > hi.getD k 0) = true := decide_eq_true (by omega)
  have hkn : (k : Int) < (n : Int) := by omega
  have hkh : (k : Int) < (hi.length : Int) := by omega
  have f0 : H[0]? = some (dB d1 lo d2 hi) := hJ.s 0 (by simp) (by omega)
  have f1 : H[1]? = some zB := hJ.s 1 (by simp) (by omega)
  have y1 := (List.getElem?_eq_some_iff.1 f1).1
  have f2 : ∀ v, (H.set 1 v)[1]? = some v := fun v => List.getElem?_set_self y1
  have f := PLift.up hE
  clear hE hJ hgt hh
  generalize W.getD k 0 = wv at *
  generalize hi.getD k 0 = hv at *
  unfold c42l0
  repeat' (first | ((with_reducible refine T_calm ?_ ?_); rfl) | (with_reducible first | refine T_seq ?_ | refine T_reg ?_ | refine T_draw ?_ | refine T_skip ?_ | refine T_exit ?_ | refine T_block ?_ | refine T_cond_t rfl ?_ | refine T_cond_f rfl ?_ | refine wdW_cons rfl ?_ | refine T_ret ?_ | refine wif_intro ?_ (fun hc => ?_) | refine And.intro ?_ ?_ | intro hc) | simp (maxSteps := 4000000) only [wops_nil, wops_cons, wstep_none, wrun_mv, wrun_bin, wrun_build, wrun_load, wrun_store, wrun_faddr, wrun_iaddrS, wop, aop, ev, look, put_some, put_none, writes, ores_some, ores_ite_none, binV, thenK, blockK, value, cut, hget, fillA, putCells, AV.parts, isOne, toLits, mkAgg, List.map_nil, List.length_cons, List.length_nil, List.set_cons_zero, List.take_succ_cons, List.take_zero, List.take_nil, List.drop_succ_cons, List.drop_zero, List.drop_nil, List.nil_append, List.append_nil, List.replicate_zero, List.getD_cons_zero, List.all_cons, List.all_nil, Option.getD_some, Option.map_some, if_true, if_false, Nat.reduceEqDiff, Nat.reduceAdd, Nat.reduceLT, Nat.zero_add, Nat.le_refl, reduceCtorEq, Bool.and_true, Bool.false_eq_true, eq_self, true_and, and_true, and_self, decide_true, List.all_cons, Int.toNat_natCast, *] | simp (disch := omega) only [getD_ints, wrapI] | (with_reducible refine wdW_cons ?_ ?_; (next => simp [chk, foot, compatB, argsOf, St.get, target, ev, look, lidsL, hget, kind, AOp.isRaw, wids, wtops, tops, opds, topId, Int.toNat_natCast, y1]; done)) | omega)
  all_goals first | exact f.down _ rfl rfl (f2 _)
set_option maxHeartbeats 8000000 in
theorem k42good {d1 d2 nw : Bool} {lo hi W : List Int} {n k : Nat} (hn : n ≤ 1000) (hW : W.length = n) (hh : hi.length = n) (hlo : lo.length = n) (hb : (-1000000000 ≤ lo.getD k 0 ∧ lo.getD k 0 ≤ 1000000000) ∧ (-1000000000 ≤ hi.getD k 0 ∧ hi.getD k 0 ≤ 1000000000) ∧ (-1000000000 ≤ W.getD k 0 ∧ W.getD k 0 ≤ 1000000000)) (K : Exit → St → Prop) (hk : k < n) (hle : W.getD k 0 ≤ hi.getD k 0) {H : List Blk} (hJ : I96 (H96 d1 d2 lo hi) 2 lo hi W k H) {bb : Nat} :
    T none Try.prog muts 51 bb c42l0 ⟨SL96 nw W n k, H⟩ (thenK (fun s' => I96 (H96 d1 d2 lo hi) 2 lo hi W (k + 1) s'.heap ∧ (s'.only [2, 4, 6, 9, 10, 11]).slots = SL96 nw W n (k + 1)) K) := by
  have hll := (by simp : (lo.map fun x => [i64 x]).length = lo.length)
  have hlh := (by simp : (hi.map fun x => [i64 x]).length = hi.length)
  have hlw := (by simp : (W.map fun x => [i64 x]).length = W.length)
  have g1 : (W.map fun x => [i64 x]).getD k [] = [i64 (W.getD k 0)] := getD_ints (by omega)
  have g2 : (hi.map fun x => [i64 x]).getD k [] = [i64 (hi.getD k 0)] := getD_ints (by omega)
  have g3 : (lo.map fun x => [i64 x]).getD k [] = [i64 (lo.getD k 0)] := getD_ints (by omega)
  have d0 : decide (W.getD k 0 > hi.getD k 0) = false := decide_eq_false (by omega)
  have hkn : (k : Int) < (n : Int) := by omega
  have hkh : (k : Int) < (hi.length : Int) := by omega
  have hkl : (k : Int) < (lo.length : Int) := by omega
  have ew1 : IntKind.i64.wrap (lo.getD k 0 - W.getD k 0) = lo.getD k 0 - W.getD k 0 := wrapI (by omega) (by omega)
  obtain ⟨hv, ehv, ew2⟩ : ∃ hv, hwz hi W k = hv ∧ IntKind.i64.wrap (hi.getD k 0 - W.getD k 0) = hv := ⟨_, rfl, wrapI (by omega) (by omega)⟩
  obtain ⟨lv, elv, em⟩ : ∃ lv, lwz lo W k = lv ∧ (if lo.getD k 0 - W.getD k 0 > 0 then lo.getD k 0 - W.getD k 0 else 0) = lv := ⟨_, rfl, rfl⟩
  have e1 := fR_snoc k (lwz lo W)
  have e2 := fR_snoc k (hwz hi W)
  rw [elv] at e1
  rw [ehv] at e2
  have r1 := fR_len k (lwz lo W)
  have r2 := fR_len k (hwz hi W)
  obtain ⟨hN, hS, hB, hT1, hT2⟩ := hJ
  have f0 : H[0]? = some (dB d1 lo d2 hi) := hS 0 (by simp) (by omega)
  by_cases hk0 : k = 0
  · subst hk0
    have hN9 : H.length = 3 := hN
    have fin := PLift.up (fun a c => I96.fin (H0 := H96 d1 d2 lo hi) (q := 2) (lo := lo) (hi := hi) (W := W) (k := 0) (by simp) hN hS a c)
    rw [e1, e2] at fin
    have z1 : fR 0 (lwz lo W) = [] := rfl
    have z2 : fR 0 (hwz hi W) = [] := rfl
    rw [z1, z2] at fin
    obtain ⟨u1, u2, u3, u4⟩ := cells_sub (X := []) hN9
    have u5 := fun Y => u2 Y 1
    have u6 := fun Y => u2 Y 2
    have u7 := fun Y => u2 Y 3
    have x5 := fun Y v => u4 Y 1 v
    have x6 := fun Y v => u4 Y 2 v
    have x7 := fun Y v => u4 Y 3 v
    simp only [Nat.reduceAdd] at u5 u6 u7 x5 x6 x7
    have a0 := at_in f0
    have hB' : H[2]? = some zB := hB
    have a2 := at_in hB'
    have s2 := set_in (H := H) (i := 2) (by omega)
    have l2 := look_set (H := H) (i := 2) (by omega)
    have ss : ∀ v w, (H.set 2 v).set 2 w = H.set 2 w := fun v w => List.set_set ..
    have s3 : ∀ v Y w, (H.set 2 v ++ Y).set 2 w = H.set 2 w ++ Y := fun v Y w => by rw [set_in (by simp; omega), ss]
    clear hS hT1 hT2 hB hN ss hb elv ehv hh hlo e1 e2
    generalize lo.getD 0 0 = xl at *
    generalize hi.getD 0 0 = xh at *
    generalize W.getD 0 0 = xw at *
    unfold c42l0
    simp only [SL96]
    repeat' (first | ((with_reducible refine T_calm ?_ ?_); rfl) | (with_reducible first | refine T_seq ?_ | refine T_reg ?_ | refine T_draw ?_ | refine T_skip ?_ | refine T_exit ?_ | refine T_block ?_ | refine T_cond_t rfl ?_ | refine T_cond_f rfl ?_ | refine wdW_cons rfl ?_ | refine T_ret ?_ | refine wif_intro ?_ (fun hc => ?_) | refine And.intro ?_ ?_ | intro hc) | simp (maxSteps := 4000000) only [wops_nil, wops_cons, wstep_none, wrun_mv, wrun_bin, wrun_load, wrun_store, wrun_faddr, wrun_iaddrS, wrun_minmax, wrun_bslice, wrun_app, wrunX_mv, wrunX_bin, wrunX_load, wrunX_store, wrunX_faddr, wrunX_iaddrS, wrunX_minmax, wrunX_bslice, wrunX_app, wdW_nil, wstepX_none, wop, aop, ev, look, put_some, put_none, writes, ores_some, ores_ite_none, binV, thenK, blockK, elsOf, szOk, value, cut, hget, fillA, putCells, AV.parts, isOne, toLits, mkAgg, List.flatten_cons, List.flatten_nil, rowsOf, List.map_cons, List.map_nil, List.length_cons, List.length_nil, List.getElem?_cons_zero, List.getElem?_cons_succ, List.set_cons_zero, List.set_cons_succ, List.take_succ_cons, List.take_zero, List.take_nil, List.drop_succ_cons, List.drop_zero, List.drop_nil, List.cons_append, List.nil_append, List.append_nil, List.replicate_zero, List.replicate_succ, List.getD_cons_zero, List.all_cons, List.all_nil, List.isEmpty_cons, List.length_append, Option.getD_some, Option.map_some, if_true, if_false, Nat.reduceEqDiff, Nat.reduceAdd, Nat.reduceMul, Nat.reduceLeDiff, Nat.reduceLT, Nat.add_zero, Nat.zero_add, Nat.sub_zero, Nat.mul_one, Nat.le_refl, reduceCtorEq, Bool.and_true, Bool.or_true, Bool.false_eq_true, eq_self, true_and, and_true, and_self, decide_true, beq_self_eq_true, List.all_cons, Int.toNat_natCast, *] | simp (disch := omega) only [wrapI] | (with_reducible refine wdW_cons ?_ ?_; (next => simp [chk, foot, compatB, argsOf, St.get, target, ev, look, lidsL, hget, kind, AOp.isRaw, wids, wtops, tops, opds, topId, Int.toNat_natCast]; done)) | omega)
    all_goals first | exact fin.down _ _ | (simp [St.only, get_mk, look]; done)
  · have hN9 : H.length = 3 + 4 * k := hN
    have hT1' := hT1 hk0
    have hT2' := hT2 hk0
    simp only [oL, if_neg hk0] at hB
    have hM1 := (List.getElem?_eq_some_iff.1 hT1').1
    have hM2 := (List.getElem?_eq_some_iff.1 hT2').1
    have eM1 : (H96 d1 d2 lo hi).length + 4 * k - 3 = 4 * k := by show 3 + 4 * k - 3 = 4 * k; omega
    have eM2 : (H96 d1 d2 lo hi).length + 4 * k - 1 = 4 * k + 2 := by show 3 + 4 * k - 1 = 4 * k + 2; omega
    rw [eM1] at hT1' hB hM1
    rw [eM2] at hT2' hB hM2
    have fin := PLift.up (fun a c => I96.fin (H0 := H96 d1 d2 lo hi) (F := (H.set (4 * k) .dead).set (4 * k + 2) .dead) (q := 2) (lo := lo) (hi := hi) (W := W) (k := k) (by simp) (by rw [List.length_set, List.length_set]; exact hN) (fun i hi9 hne => by
      have : i < 3 := hi9
      rw [List.getElem?_set_ne (by omega), List.getElem?_set_ne (by omega)]; exact hS i hi9 hne) a c)
    rw [e1, e2] at fin
    have eN1 : (H96 d1 d2 lo hi).length + 4 * k + 1 = 3 + 4 * k + 1 := rfl
    have eN3 : (H96 d1 d2 lo hi).length + 4 * k + 3 = 3 + 4 * k + 3 := rfl
    rw [eN1, eN3] at fin
    have n1 : 4 * k ≠ 4 * k + 2 := by omega
    have n2 : 4 * k + 2 ≠ 4 * k := by omega
    have n3 : 0 ≠ 4 * k := by omega
    have n4 : 0 ≠ 4 * k + 2 := by omega
    have n5 : 2 ≠ 4 * k := by omega
    have n6 : 2 ≠ 4 * k + 2 := by omega
    have n7 : 1 ≠ 4 * k := by omega
    have n8 : 1 ≠ 4 * k + 2 := by omega
    have m0 : 0 < 3 + 4 * k := by omega
    have m1 : 0 ≠ 3 + 4 * k := by omega
    have m2 : 3 + 4 * k ≠ 0 := by omega
    have m3 : 1 < 3 + 4 * k := by omega
    have m4 : 1 ≠ 3 + 4 * k := by omega
    have m5 : 3 + 4 * k ≠ 1 := by omega
    have m6 : 2 < 3 + 4 * k := by omega
    have m7 : 2 ≠ 3 + 4 * k := by omega
    have m8 : 3 + 4 * k ≠ 2 := by omega
    have m9 : 4 * k < 3 + 4 * k := by omega
    have m10 : 4 * k ≠ 3 + 4 * k := by omega
    have m11 : 3 + 4 * k ≠ 4 * k := by omega
    have m12 : 4 * k + 2 < 3 + 4 * k := by omega
    have m13 : 4 * k + 2 ≠ 3 + 4 * k := by omega
    have m14 : 3 + 4 * k ≠ 4 * k + 2 := by omega
    have m15 : 0 < 3 + 4 * k + 1 := by omega
    have m16 : 0 ≠ 3 + 4 * k + 1 := by omega
    have m17 : 3 + 4 * k + 1 ≠ 0 := by omega
    have m18 : 1 < 3 + 4 * k + 1 := by omega
    have m19 : 1 ≠ 3 + 4 * k + 1 := by omega
    have m20 : 3 + 4 * k + 1 ≠ 1 := by omega
    have m21 : 2 < 3 + 4 * k + 1 := by omega
    have m22 : 2 ≠ 3 + 4 * k + 1 := by omega
    have m23 : 3 + 4 * k + 1 ≠ 2 := by omega
    have m24 : 4 * k < 3 + 4 * k + 1 := by omega
    have m25 : 4 * k ≠ 3 + 4 * k + 1 := by omega
    have m26 : 3 + 4 * k + 1 ≠ 4 * k := by omega
    have m27 : 4 * k + 2 < 3 + 4 * k + 1 := by omega
    have m28 : 4 * k + 2 ≠ 3 + 4 * k + 1 := by omega
    have m29 : 3 + 4 * k + 1 ≠ 4 * k + 2 := by omega
    have m30 : 0 < 3 + 4 * k + 2 := by omega
    have m31 : 0 ≠ 3 + 4 * k + 2 := by omega
    have m32 : 3 + 4 * k + 2 ≠ 0 := by omega
    have m33 : 1 < 3 + 4 * k + 2 := by omega
    have m34 : 1 ≠ 3 + 4 * k + 2 := by omega
    have m35 : 3 + 4 * k + 2 ≠ 1 := by omega
    have m36 : 2 < 3 + 4 * k + 2 := by omega
    have m37 : 2 ≠ 3 + 4 * k + 2 := by omega
    have m38 : 3 + 4 * k + 2 ≠ 2 := by omega
    have m39 : 4 * k < 3 + 4 * k + 2 := by omega
    have m40 : 4 * k ≠ 3 + 4 * k + 2 := by omega
    have m41 : 3 + 4 * k + 2 ≠ 4 * k := by omega
    have m42 : 4 * k + 2 < 3 + 4 * k + 2 := by omega
    have m43 : 4 * k + 2 ≠ 3 + 4 * k + 2 := by omega
    have m44 : 3 + 4 * k + 2 ≠ 4 * k + 2 := by omega
    have m45 : 0 < 3 + 4 * k + 3 := by omega
    have m46 : 0 ≠ 3 + 4 * k + 3 := by omega
    have m47 : 3 + 4 * k + 3 ≠ 0 := by omega
    have m48 : 1 < 3 + 4 * k + 3 := by omega
    have m49 : 1 ≠ 3 + 4 * k + 3 := by omega
    have m50 : 3 + 4 * k + 3 ≠ 1 := by omega
    have m51 : 2 < 3 + 4 * k + 3 := by omega
    have m52 : 2 ≠ 3 + 4 * k + 3 := by omega
    have m53 : 3 + 4 * k + 3 ≠ 2 := by omega
    have m54 : 4 * k < 3 + 4 * k + 3 := by omega
    have m55 : 4 * k ≠ 3 + 4 * k + 3 := by omega
    have m56 : 3 + 4 * k + 3 ≠ 4 * k := by omega
    have m57 : 4 * k + 2 < 3 + 4 * k + 3 := by omega
    have m58 : 4 * k + 2 ≠ 3 + 4 * k + 3 := by omega
    have m59 : 3 + 4 * k + 3 ≠ 4 * k + 2 := by omega
    have p0 : 4 * k ≠ 0 := by omega
    have p1 : 4 * k ≠ 1 := by omega
    have p2 : 4 * k ≠ 2 := by omega
    have p3 : 4 * k + 2 ≠ 0 := by omega
    have p4 : 4 * k + 2 ≠ 1 := by omega
    have p5 : 4 * k + 2 ≠ 2 := by omega
    -- memory H
    obtain ⟨u1, u2, u3, u4⟩ := cells_sub (X := []) hN9
    have a0 := at_in f0
    have a2 := at_in hB
    have at1 := at_in hT1'
    have at2 := at_in hT2'
    have s1 := fun Y => set_in (H := H) (i := 4 * k) hM1 Y .dead
    -- memory F1
    have hF1 : (H.set (4 * k) .dead).length = 3 + 4 * k := by rw [List.length_set, hN9]
    obtain ⟨v1, v2, v3, v4⟩ := cells_sub (X := []) hF1
    have b0 := at_in (look_off f0 n3 .dead)
    have b2 := at_in (look_off hB n5 .dead)
    have bt2 := at_in (look_off hT2' n2 .dead)
    have s2 := fun Y => set_in (H := H.set (4 * k) .dead) (i := 4 * k + 2) (by rw [List.length_set]; exact hM2) Y .dead
    -- memory F2
    have hF2 : ((H.set (4 * k) .dead).set (4 * k + 2) .dead).length = 3 + 4 * k := by rw [List.length_set, List.length_set, hN9]
    have c2 := at_in (look_off (look_off hB n5 .dead) n6 .dead)
    have q2 : 2 < ((H.set (4 * k) .dead).set (4 * k + 2) .dead).length := by omega
    generalize hFe : (H.set (4 * k) .dead).set (4 * k + 2) .dead = F at *
    obtain ⟨w1, w2, w3, w4⟩ := cells_sub (X := []) hF2
    have s4 := set_in (H := F) (i := 2) q2
    have l2 := look_set (H := F) (i := 2) q2
    have ss : ∀ v w, (F.set 2 v).set 2 w = F.set 2 w := fun v w => List.set_set ..
    have s3 : ∀ v Y w, (F.set 2 v ++ Y).set 2 w = F.set 2 w ++ Y := fun v Y w => by rw [set_in (by simp; omega), ss]
    have t1 : List.take k (fR k (lwz lo W)) = fR k (lwz lo W) := List.take_of_length_le (by omega)
    have t2 : List.take k (fR k (hwz hi W)) = fR k (hwz hi W) := List.take_of_length_le (by omega)
    generalize hFF : H.set (4 * k) .dead = F1 at *
    clear hS hT1 hT2 hN ss hb elv ehv hh hlo e1 e2 hT1' hT2' hFe hFF
    generalize lo.getD k 0 = xl at *
    generalize hi.getD k 0 = xh at *
    generalize W.getD k 0 = xw at *
    generalize fR k (lwz lo W) = R1 at *
    generalize fR k (hwz hi W) = R2 at *
    have hk9 : k ≠ 0 := hk0
    unfold c42l0
    simp only [SL96]
    clear eM1 eM2 eN1 eN3
    generalize 4 * k = M at *
    repeat' (first | ((with_reducible refine T_calm ?_ ?_); rfl) | (with_reducible first | refine T_seq ?_ | refine T_reg ?_ | refine T_draw ?_ | refine T_skip ?_ | refine T_exit ?_ | refine T_block ?_ | refine T_cond_t rfl ?_ | refine T_cond_f rfl ?_ | refine wdW_cons rfl ?_ | refine T_ret ?_ | refine wif_intro ?_ (fun hc => ?_) | refine And.intro ?_ ?_ | intro hc) | simp (maxSteps := 4000000) only [wops_nil, wops_cons, wstep_none, wrun_mv, wrun_bin, wrun_load, wrun_store, wrun_faddr, wrun_iaddrS, wrun_minmax, wrun_bslice, wrun_app, wrunX_mv, wrunX_bin, wrunX_load, wrunX_store, wrunX_faddr, wrunX_iaddrS, wrunX_minmax, wrunX_bslice, wrunX_app, wdW_nil, wstepX_none, wop, aop, ev, look, put_some, put_none, writes, ores_some, ores_ite_none, binV, thenK, blockK, elsOf, szOk, value, cut, hget, fillA, putCells, AV.parts, isOne, toLits, mkAgg, List.flatten_cons, List.flatten_nil, rowsOf, List.map_cons, List.map_nil, List.length_cons, List.length_nil, List.getElem?_cons_zero, List.getElem?_cons_succ, List.set_cons_zero, List.set_cons_succ, List.take_succ_cons, List.take_zero, List.take_nil, List.drop_succ_cons, List.drop_zero, List.drop_nil, List.cons_append, List.nil_append, List.append_nil, List.replicate_zero, List.replicate_succ, List.getD_cons_zero, List.all_cons, List.all_nil, List.isEmpty_cons, List.length_append, Option.getD_some, Option.map_some, if_true, if_false, Nat.reduceEqDiff, Nat.reduceAdd, Nat.reduceLeDiff, Nat.reduceLT, Nat.add_zero, Nat.zero_add, Nat.sub_zero, Nat.mul_one, Nat.le_refl, reduceCtorEq, Bool.and_true, Bool.and_false, Bool.or_true, Bool.false_eq_true, eq_self, true_and, and_true, and_self, decide_true, beq_self_eq_true, List.all_cons, Int.toNat_natCast, *] | simp (disch := omega) only [wrapI] | (with_reducible refine wdW_cons ?_ ?_; (next => simp [chk, foot, compatB, St.get, ev, look, kind, AOp.isRaw, wids, wtops, tops, opds, topId, p0, p2, m8, m23, m40, m53]; done)) | omega)
    all_goals first | exact fin.down _ _ | (simp [St.only, get_mk, look]; done)
end Go.Abs
