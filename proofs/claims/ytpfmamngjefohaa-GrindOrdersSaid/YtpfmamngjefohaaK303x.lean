import Derived.Test.YtpfmamngjefohaaK210
import Derived.Test.YtpfmamngjefohaaK300x
set_option linter.all false
set_option linter.unusedVariables false
set_option linter.unusedSimpArgs false
set_option linter.unusedSectionVars false
namespace Go.Abs
open Go.Proofs
/-! Copy: what it yields reads as the strokes -/
def skc (l : List Sk) : List Sk := l.map fun s => ⟨s.nm, false, s.wr⟩
def cpS (l : List Sk) : AV := if l = [] then .sl true 0 [] else sts false (skc l)
def otS (l : List Sk) (k : Nat) : List (List AV) := (List.range k).map fun i => [tx (l.getD i sk0).nm, AV.lsl (3 * i + 2) 0 (l.getD i sk0).wr.length]
theorem otS_len (l : List Sk) (k : Nat) : (otS l k).length = k := by simp [otS]
theorem otS_snoc (l : List Sk) (k : Nat) : otS l (k + 1) = otS l k ++ [[tx (l.getD k sk0).nm, AV.lsl (3 * k + 2) 0 (l.getD k sk0).wr.length]] := by simp [otS, List.range_succ]
structure I22 (l : List Sk) (k : Nat) (H : List Blk) : Prop where
  n : H.length = 3 * k
  r : ∀ i, i < k → ∃ o, H[3 * i + 2]? = some (.cells o false 1 ((l.getD i sk0).wr.map fun x => [i64 x]))
  t : k ≠ 0 → H[3 * k - 2]? = some (.cells true false 2 (otS l k))
abbrev SL22 (nil : Bool) (l : List Sk) (k : Nat) : List (Nat × AV) := [(0, sts nil l), (3, if k = 0 then .sl true 0 [] else .lsl (3 * k - 2) 0 k), (4, i64 k)]
set_option maxHeartbeats 8000000 in
theorem k22l {nil : Bool} {l : List Sk} (hl : l.length ≤ 1000) (hr : ∀ t, t < l.length → (l.getD t sk0).wr.length < 1000000) (K : Exit → St → Prop) (k : Nat) (hk : k < l.length) (H : List Blk) (hH : I22 l k H) :
    T none Try.prog muts 27 0 c22l0 ⟨SL22 nil l k, H⟩ (thenK (fun s' => k < l.length ∧ I22 l (k + 1) s'.heap ∧ (s'.only [0, 3, 4]).slots = SL22 nil l (k + 1)) K) := by
  have h1 := skR_get hk
  have h2 := hr k hk
  have hl2 := skR_len l
  have h53 := k53 (l.getD k sk0).nil (l.getD k sk0).wr (by omega)
  obtain ⟨hN, hR, hT⟩ := hH
  have hot := otS_len l k
  obtain ⟨g1, g2, g3, g4⟩ := cells_sub (X := []) hN
  have fin : ∀ F : List Blk, F.length = 3 * k → (∀ i, i < k → ∃ o, F[3 * i + 2]? = some (.cells o false 1 ((l.getD i sk0).wr.map fun x => [i64 x]))) → ∀ a : Blk,
      I22 l (k + 1) (F ++ [a, .cells true false 2 (otS l (k + 1)), .cells true false 1 ((l.getD k sk0).wr.map fun x => [i64 x])]) := fun F hF hFr a => by
    obtain ⟨f1, f2, f3, f4⟩ := cells_sub (X := []) hF
    refine ⟨by simp [hF]; omega, fun i hi => ?_, fun _ => ?_⟩
    · by_cases hik : i < k
      · obtain ⟨o, ho⟩ := hFr i hik
        exact ⟨o, by rw [List.getElem?_append_left (List.getElem?_eq_some_iff.1 ho).1]; exact ho⟩
      · have : i = k := by omega
        subst this
        exact ⟨true, by rw [f2]; rfl⟩
    · rw [show 3 * (k + 1) - 2 = 3 * k + 1 by omega, f2]; rfl
  have e := otS_snoc l k
  by_cases hk0 : k = 0
  · subst hk0
    have hH0 : H = [] := List.eq_nil_of_length_eq_zero (by omega)
    subst hH0
    have f0 := fin [] rfl (fun i hi => by omega)
    clear hN hR hT g1 g2 g3 g4 fin hr
    rw [e] at f0
    have e0 : otS l 0 = [] := rfl
    rw [e0] at f0
    clear e e0 hot
    replace f0 := And.intro f0 trivial
    unfold c22l0
    simp only [SL22, if_true]
    repeat' (first | ((with_reducible refine T_calm ?_ ?_); rfl) | (with_reducible first | refine T_seq ?_ | refine T_reg ?_ | refine T_draw ?_ | refine T_skip ?_ | refine T_exit ?_ | refine T_block ?_ | refine T_cond_t rfl ?_ | refine T_cond_f rfl ?_ | refine wdW_cons rfl ?_ | (show wcall _ false (.lit (.func (.func 53) _ _)) _ _ _ _; refine wcall_fn (h53) rfl (by simp [plainL, plain, plainR, Int.toNat_natCast, renR_sk, plainR_sk]) ?_) | (show wcallX _ false (.lit (.func (.func 53) _ _)) _ _ _ _; refine wcallX_fn (h53) rfl (by simp [plainL, plain]) ?_) | ((first | refine T_cond rfl (fun hc => ?_) (fun hc => ?_) | refine wguard_split (fun hc => ?_) (fun hc => ?_) | refine wguardX_split (fun hc => ?_) (fun hc => ?_)) <;> have hd := hc <;> (try simp (disch := omega) only [wrapI] at hd) <;> have hs := hd <;> (try simp only [decide_eq_true_eq, decide_eq_false_iff_not, Int.not_lt] at hd) <;> (try simp at hs)) | refine T_ret ?_ | refine leave_of (.inr rfl) _ rfl ?_ | refine leave_of (.inl rfl) _ rfl ?_ | refine leaveA_of (.inr rfl) _ rfl ?_ | refine leaveA_of (.inl rfl) _ rfl ?_ | refine wif_intro ?_ (fun hc => ?_) | refine And.intro ?_ ?_ | intro hc) | simp (maxSteps := 4000000) only [wops_nil, wops_cons, wstep_none, wrun_mv, wrun_bin, wrun_build, wrun_load, wrun_faddr, wrun_iaddrS, wrun_len, wrun_bslice, wrun_app, wrunX_mv, wrunX_build, wrunX_load, wrunX_faddr, wrunX_iaddrS, wrunX_bslice, wrunX_app, wdW_nil, wstepX_none, wrunX_call, wop, aop, ev, look, put_some, writes, ores_some, ores_ite_none, ores_map, ores_bind, binV, thenK, blockK, intV, lenOf, elsOf, szOk, value, cut, hget, fillA, putCells, AV.parts, isOne, toLits, mkAgg, List.flatten_cons, List.flatten_nil, rowsOf, List.map_cons, List.map_nil, List.length_cons, List.length_nil, List.getElem?_cons_zero, List.getElem?_cons_succ, List.set_cons_zero, List.set_cons_succ, List.take_succ_cons, List.take_zero, List.take_nil, List.drop_succ_cons, List.drop_zero, List.drop_nil, List.cons_append, List.nil_append, List.append_nil, List.replicate_zero, List.replicate_succ, List.all_cons, List.all_nil, List.isEmpty_cons, Option.pure_def, Option.bind_eq_bind, Option.getD_some, Option.map_some, Option.map_none, if_true, if_false, Nat.reduceEqDiff, Nat.reduceAdd, Nat.reduceSub, Nat.reduceMul, Nat.reduceLeDiff, Nat.add_zero, Nat.zero_add, Nat.sub_zero, Nat.zero_mul, Nat.mul_one, Nat.le_refl, reduceCtorEq, Bool.and_true, Bool.or_true, Bool.false_eq_true, eq_self, true_and, and_true, and_self, decide_true, beq_self_eq_true, freeze, lidsL, lids, List.flatMap_cons, List.flatMap_nil, List.all_cons, ren, renB, shiftρ, renR_ints, Int.toNat_natCast, *] | simp (disch := omega) only [wrapI] | (with_reducible show wcall _ false (.lit (.func (.func 53) _ _)) _ _ _ _; refine wcall_fn (h53) ?_ ?_ ?_; (next => simp [rfyL, rfy, hget, ints, take_rfy, Int.toNat_natCast, renR_sk, plainR_sk]); (next => simp [plainL, plain, plainR, Int.toNat_natCast, renR_sk, plainR_sk])) | (with_reducible show wcallX _ false (.lit (.func (.func 53) _ _)) _ _ _ _; refine wcallX_fn (h53) ?_ ?_ ?_; (next => simp [rfyL, rfy, hget, ints, take_rfy, Int.toNat_natCast, renR_sk, plainR_sk]); (next => simp [plainL, plain, plainR, Int.toNat_natCast, renR_sk, plainR_sk])) | omega)
    all_goals first | exact f0.1 _ | (simp [St.only, get_mk, look]; done)
  · have hT' := hT hk0
    have hML : 3 * k - 2 < H.length := (List.getElem?_eq_some_iff.1 hT').1
    have f0 := fin (H.set (3 * k - 2) .dead) (by simp [hN]) (fun i hi => by
      obtain ⟨o, ho⟩ := hR i hi
      exact ⟨o, by rw [List.getElem?_set_ne (by omega)]; exact ho⟩)
    have g5 : ∀ Y, (H ++ Y)[3 * k - 2]? = some (.cells true false 2 (otS l k)) := fun Y => by rw [List.getElem?_append_left hML]; exact hT'
    have g6 : ∀ Y v, (H ++ Y).set (3 * k - 2) v = H.set (3 * k - 2) v ++ Y := fun Y v => List.set_append_left _ _ hML
    obtain ⟨g7, g8, g9, g10⟩ := cells_sub (X := []) (H := H.set (3 * k - 2) .dead) (N := 3 * k) (by simp [hN])
    clear hR hT fin hr
    rw [e] at f0
    clear e
    have t1 : List.take k (otS l k) = otS l k := List.take_of_length_le (by omega)
    have e3 : 3 * (k + 1) - 2 = 3 * k + 1 := by omega
    have hk1 : k + 1 ≠ 0 := by omega
    unfold c22l0
    simp only [SL22, hk0, if_false]
    generalize 3 * k - 2 = M at *
    generalize hNe : 3 * k = N at *
    replace f0 := And.intro f0 trivial
    replace hML := And.intro hML trivial
    replace hNe := And.intro hNe trivial
    replace e3 := And.intro e3 trivial
    repeat' (first | ((with_reducible refine T_calm ?_ ?_); rfl) | (with_reducible first | refine T_seq ?_ | refine T_reg ?_ | refine T_draw ?_ | refine T_skip ?_ | refine T_exit ?_ | refine T_block ?_ | refine T_cond_t rfl ?_ | refine T_cond_f rfl ?_ | refine wdW_cons rfl ?_ | (show wcall _ false (.lit (.func (.func 53) _ _)) _ _ _ _; refine wcall_fn (h53) rfl (by simp [plainL, plain, plainR, Int.toNat_natCast, renR_sk, plainR_sk]) ?_) | (show wcallX _ false (.lit (.func (.func 53) _ _)) _ _ _ _; refine wcallX_fn (h53) rfl (by simp [plainL, plain]) ?_) | ((first | refine T_cond rfl (fun hc => ?_) (fun hc => ?_) | refine wguard_split (fun hc => ?_) (fun hc => ?_) | refine wguardX_split (fun hc => ?_) (fun hc => ?_)) <;> have hd := hc <;> (try simp (disch := omega) only [wrapI] at hd) <;> have hs := hd <;> (try simp only [decide_eq_true_eq, decide_eq_false_iff_not, Int.not_lt] at hd) <;> (try simp at hs)) | refine T_ret ?_ | refine leave_of (.inr rfl) _ rfl ?_ | refine leave_of (.inl rfl) _ rfl ?_ | refine leaveA_of (.inr rfl) _ rfl ?_ | refine leaveA_of (.inl rfl) _ rfl ?_ | refine wif_intro ?_ (fun hc => ?_) | refine And.intro ?_ ?_ | intro hc) | simp (maxSteps := 4000000) only [wops_nil, wops_cons, wstep_none, wrun_mv, wrun_bin, wrun_build, wrun_load, wrun_faddr, wrun_iaddrS, wrun_len, wrun_bslice, wrun_app, wrunX_mv, wrunX_build, wrunX_load, wrunX_faddr, wrunX_iaddrS, wrunX_bslice, wrunX_app, wdW_nil, wstepX_none, wrunX_call, wop, aop, ev, look, put_some, writes, ores_some, ores_ite_none, ores_map, ores_bind, binV, thenK, blockK, intV, lenOf, elsOf, szOk, value, cut, hget, fillA, putCells, AV.parts, isOne, toLits, mkAgg, List.flatten_cons, List.flatten_nil, rowsOf, List.map_cons, List.map_nil, List.length_cons, List.length_nil, List.getElem?_cons_zero, List.getElem?_cons_succ, List.set_cons_zero, List.set_cons_succ, List.take_succ_cons, List.take_zero, List.take_nil, List.drop_succ_cons, List.drop_zero, List.drop_nil, List.cons_append, List.nil_append, List.append_nil, List.append_assoc, List.replicate_zero, List.replicate_succ, List.all_cons, List.all_nil, List.isEmpty_cons, List.length_append, Option.pure_def, Option.bind_eq_bind, Option.getD_some, Option.map_some, Option.map_none, if_true, if_false, Nat.reduceEqDiff, Nat.reduceAdd, Nat.reduceLeDiff, Nat.add_zero, Nat.zero_add, Nat.sub_zero, Nat.zero_mul, Nat.le_refl, reduceCtorEq, Bool.and_true, Bool.and_false, Bool.or_true, Bool.false_eq_true, eq_self, true_and, and_true, and_self, decide_true, beq_self_eq_true, freeze, lidsL, lids, List.flatMap_cons, List.flatMap_nil, List.all_cons, ren, renB, shiftρ, renR_ints, Int.toNat_natCast, *] | simp (disch := omega) only [wrapI] | (with_reducible show wcall _ false (.lit (.func (.func 53) _ _)) _ _ _ _; refine wcall_fn (h53) ?_ ?_ ?_; (next => simp [rfyL, rfy, hget, ints, take_rfy, Int.toNat_natCast, renR_sk, plainR_sk]); (next => simp [plainL, plain, plainR, Int.toNat_natCast, renR_sk, plainR_sk])) | (with_reducible show wcallX _ false (.lit (.func (.func 53) _ _)) _ _ _ _; refine wcallX_fn (h53) ?_ ?_ ?_; (next => simp [rfyL, rfy, hget, ints, take_rfy, Int.toNat_natCast, renR_sk, plainR_sk]); (next => simp [plainL, plain, plainR, Int.toNat_natCast, renR_sk, plainR_sk])) | omega)
    all_goals first | exact f0.1 _ | (simp [St.only, get_mk, look]; done)
theorem plain_cpS (l : List Sk) : plain (cpS l) = true := by
  unfold cpS; split
  · rfl
  · exact plainR_sk _
theorem I22.rds {l : List Sk} {H : List Blk} (h : I22 l l.length H) (h0 : l.length ≠ 0) : rfy (hget H) 2 (.lsl (3 * l.length - 2) 0 l.length) = cpS l := by
  have hne : l ≠ [] := fun e => h0 (by rw [e]; rfl)
  unfold cpS
  rw [if_neg hne]
  unfold rfy
  rw [hget_some' (h.t h0)]
  have ho := otS_len l l.length
  dsimp only
  rw [if_pos (by omega), List.drop_zero, List.take_of_length_le (by omega)]
  refine congrArg (AV.sl false 2) ?_
  unfold otS skR skc
  rw [List.map_map, List.map_map]
  refine List.ext_getElem (by simp) fun i h1 h2 => ?_
  simp only [List.length_map, List.length_range] at h1
  obtain ⟨o, hr⟩ := h.r i h1
  have e := rfy_iB (d := 0) hr rfl
  have e2 : l.getD i sk0 = l[i] := by simp [List.getD, h1]
  simp only [List.getElem_map, List.getElem_range, Function.comp, List.map_cons, List.map_nil, Nat.zero_add, rfyL0] at e ⊢
  rw [e, e2]
set_option maxHeartbeats 8000000 in
theorem k22 {nil : Bool} {l : List Sk} (hl : l.length ≤ 1000) (hr : ∀ t, t < l.length → (l.getD t sk0).wr.length < 1000000) :
    Gv 2 Try.prog 22 [sts nil l] [cpS l] := by
  refine gv_of e22 ?_
  have hl0 := fun K k hk H hH => k22l (nil := nil) hl hr K k hk H hH
  replace hl0 := And.intro hl0 trivial
  have hl2 := skR_len l
  clear hr
  unfold c22
  repeat' (first | ((with_reducible refine T_calm ?_ ?_); rfl) | (with_reducible first | refine T_seq ?_ | refine T_reg ?_ | refine T_draw ?_ | refine T_skip ?_ | refine T_exit ?_ | refine T_block ?_ | refine T_cond_t rfl ?_ | refine T_cond_f rfl ?_ | refine wdW_cons rfl ?_ | refine T_ret ?_ | refine wif_intro ?_ (fun hc => ?_) | refine And.intro ?_ ?_ | intro hc) | simp (maxSteps := 4000000) only [wops_nil, wops_cons, wstep_none, wrun_mv, wop, aop, ev, put_some, writes, ores_some, thenK, List.map_cons, List.map_nil, List.length_nil, List.append_nil, List.replicate_zero, List.zipIdx_cons, List.zipIdx_nil, Nat.zero_add, *] | simp (disch := omega) only [getD_ints, wrapI] | omega)
  refine T_forP [0, 3, 4] (SL22 nil l) l.length (I22 l) 0 ?_ ?_ (Nat.zero_le _) ?_
  · simp [St.only, get_mk, look]
  · exact ⟨rfl, fun i hi => by omega, fun h => (h rfl).elim⟩
  intro k H hk hH
  by_cases hkz : k < l.length
  · exact hl0.1 _ k hkz H hH
  · have hke : k = l.length := by omega
    subst hke
    clear hl0
    by_cases h0 : l.length = 0
    · have hne : l = [] := List.eq_nil_of_length_eq_zero h0
      subst hne
      unfold c22l0
      simp only [SL22, List.length_nil, if_true]
      clear hH
      repeat' (first | ((with_reducible refine T_calm ?_ ?_); rfl) | (with_reducible first | refine T_seq ?_ | refine T_reg ?_ | refine T_draw ?_ | refine T_skip ?_ | refine T_exit ?_ | refine T_block ?_ | refine T_cond_t rfl ?_ | refine T_cond_f rfl ?_ | refine wdW_cons rfl ?_ | refine T_ret ?_ | refine wif_intro ?_ (fun hc => ?_) | refine And.intro ?_ ?_ | intro hc) | simp (maxSteps := 4000000) only [wops_nil, wops_cons, wstep_none, wrun_mv, wrun_bin, wrun_len, wop, aop, ev, look, put_some, writes, ores_some, ores_map, ores_bind, binV, thenK, blockK, intV, lenOf, hget, List.append_nil, List.replicate_zero, Option.pure_def, Option.bind_eq_bind, Option.map_some, if_true, if_false, Nat.reduceEqDiff, Nat.reduceSub, Nat.zero_add, Nat.mul_one, reduceCtorEq, eq_self, false_and, Nat.not_lt_zero, *] | simp (disch := omega) only [getD_ints, wrapI] | omega)
      refine leave_g (.inr rfl) [.sl true 0 []] rfl ?_ rfl
      rfl
    · have e := hH.rds h0
      clear hH
      unfold c22l0
      simp only [SL22, h0, if_false]
      replace e := And.intro e trivial
      repeat' (first | ((with_reducible refine T_calm ?_ ?_); rfl) | (with_reducible first | refine T_seq ?_ | refine T_reg ?_ | refine T_draw ?_ | refine T_skip ?_ | refine T_exit ?_ | refine T_block ?_ | refine T_cond_t rfl ?_ | refine T_cond_f rfl ?_ | refine wdW_cons rfl ?_ | ((first | refine T_cond rfl (fun hc => ?_) (fun hc => ?_) | refine wguard_split (fun hc => ?_) (fun hc => ?_) | refine wguardX_split (fun hc => ?_) (fun hc => ?_)) <;> have hd := hc <;> (try simp (disch := omega) only [wrapI] at hd) <;> have hs := hd <;> (try simp only [decide_eq_true_eq, decide_eq_false_iff_not, Int.not_lt] at hd) <;> (try simp at hs)) | refine T_ret ?_ | refine wif_intro ?_ (fun hc => ?_) | refine And.intro ?_ ?_ | intro hc) | simp (maxSteps := 4000000) only [wops_nil, wops_cons, wstep_none, wrun_mv, wrun_bin, wrun_len, wop, aop, ev, look, put_some, writes, ores_some, ores_map, ores_bind, binV, thenK, blockK, intV, lenOf, hget, List.append_nil, List.replicate_zero, Option.pure_def, Option.bind_eq_bind, Option.map_some, if_true, if_false, Nat.reduceEqDiff, reduceCtorEq, eq_self, false_and, *] | simp (disch := omega) only [getD_ints, wrapI] | omega)
      refine leave_g (.inr rfl) [.lsl (3 * l.length - 2) 0 l.length] rfl ?_ (by simp [plainL, plain_cpS])
      rw [List.map_cons, List.map_nil, e.1]
theorem skc_len (l : List Sk) : (skc l).length = l.length := by simp [skc]
theorem skc_get (l : List Sk) (k : Nat) : ((skc l).getD k sk0).wr = (l.getD k sk0).wr ∧ ((skc l).getD k sk0).nm = (l.getD k sk0).nm := by
  unfold skc
  simp only [List.getD_eq_getElem?_getD, List.getElem?_map]
  cases l[k]? <;> exact ⟨rfl, rfl⟩
theorem skc_sErr (l : List Sk) : sErr (skc l) = sErr l := by
  funext k
  unfold sErr sDup sShp
  simp only [(skc_get l _).1, (skc_get l _).2]
theorem skc_sE (l : List Sk) : sE (skc l) = sE l := by unfold sE; rw [skc_sErr, skc_len]
theorem cpS_ne {l : List Sk} (h : l ≠ []) : cpS l = sts false (skc l) := if_neg h
end Go.Abs
