import Derived.Test.YtookdheldelepaaGreatDoorPCmin
import Derived.Test.YtookdheldelepaaGreatDoorK9
import Derived.Test.YtookdheldelepaaGreatDoorK303x
set_option linter.all false
set_option linter.unusedVariables false
set_option linter.unusedSimpArgs false
set_option linter.unusedSectionVars false
namespace Go.Abs
open Go.Proofs
/-! CheckStrokes of the reference -/
theorem any_false {p : Int → Bool} {xs : List Int} (h : ∀ j, j < xs.length → p (xs.getD j 0) = false) : xs.any p = false := by
  rw [List.any_eq_false]
  intro x hx
  obtain ⟨k, hk, rfl⟩ := List.mem_iff_getElem.1 hx
  have := h k hk
  rw [List.getD_eq_getElem?_getD, List.getElem?_eq_getElem hk] at this
  simpa using this
theorem any_true {p : Int → Bool} {xs : List Int} {j : Nat} (hj : j < xs.length) (h : p (xs.getD j 0) = true) : xs.any p = true := by
  rw [List.any_eq_true]
  exact ⟨xs.getD j 0, by rw [List.getD_eq_getElem?_getD, List.getElem?_eq_getElem hj]; exact List.getElem_mem hj, h⟩
abbrev SL38i (nil : Bool) (l : List Sk) (k z : Nat) : List (Nat × AV) := [(0, sts nil l), (4, i64 k), (5, i64 z)]
set_option maxHeartbeats 8000000 in
theorem k11in {nil : Bool} {l : List Sk} (hl : l.length < 1000000) {k : Nat} (hk : k < l.length) (hw : (l.getD k sk0).wr.length < 1000000) (K : Exit → St → Prop)
    (hE : (l.getD k sk0).wr.any outW = true → ∀ τ : St, τ.get 2 = i64 0 → τ.get 3 = i64 2 → K .ret τ)
    (hN : (l.getD k sk0).wr.any outW = false → ∀ τ : St, τ.heap = [] → (τ.only [0, 4]).slots = [(0, sts nil l), (4, i64 k)] → K (.exit 2) τ) {σ : St} (h0 : (σ.only [0, 4, 5]).slots = SL38i nil l k 0) (hH : σ.heap = []) : T none Tryz.prog muts 81 0 (.loop c11l0) σ K := by
  have hll := skR_len l
  have g1 := skR_get hk
  have hwl : ((l.getD k sk0).wr.map fun x => [i64 x]).length = (l.getD k sk0).wr.length := by simp
  refine T_forP [0, 4, 5] (SL38i nil l k) (l.getD k sk0).wr.length (fun z H => H = [] ∧ ∀ j, j < z → outW ((l.getD k sk0).wr.getD j 0) = false) 0 h0 ⟨hH, fun j hj => by omega⟩ (Nat.zero_le _) ?_
  clear h0 hH
  intro z H hz ⟨hH0, hI⟩
  subst hH0
  by_cases hzn : z < (l.getD k sk0).wr.length
  · have g2 : ((l.getD k sk0).wr.map fun x => [i64 x]).getD z [] = [i64 ((l.getD k sk0).wr.getD z 0)] := getD_ints hzn
    have h24 := k24 ((l.getD k sk0).wr.getD z 0) 0 100
    have eo : outW ((l.getD k sk0).wr.getD z 0) = !(decide (0 ≤ (l.getD k sk0).wr.getD z 0) && decide ((l.getD k sk0).wr.getD z 0 ≤ 100)) := rfl
    cases a1 : (decide (0 ≤ (l.getD k sk0).wr.getD z 0) && decide ((l.getD k sk0).wr.getD z 0 ≤ 100)) with
    | true =>
      rw [a1] at h24 eo
      have hI2 : ∀ j, j < z + 1 → outW ((l.getD k sk0).wr.getD j 0) = false := fun j hj => by
        rcases Nat.lt_succ_iff_lt_or_eq.1 hj with h | rfl
        · exact hI j h
        · exact eo
      replace hI2 := PLift.up hI2
      clear hE hN hI a1 eo
      unfold c11l0
      repeat' (first | ((with_reducible refine T_calm ?_ ?_); rfl) | (with_reducible first | refine T_seq ?_ | refine T_reg ?_ | refine T_draw ?_ | refine T_skip ?_ | refine T_exit ?_ | refine T_block ?_ | refine T_cond_t rfl ?_ | refine T_cond_f rfl ?_ | refine wdW_cons rfl ?_ | (show wcall _ false (.lit (.func (.func 24) _ _)) _ _ _ _; refine wcall_fn (h24) rfl (by simp [plainL, plain]) ?_) | (show wcallX _ false (.lit (.func (.func 24) _ _)) _ _ _ _; refine wcallX_fn (h24) rfl (by simp [plainL, plain, plainR, Int.toNat_natCast]) ?_) | ((first | refine T_cond rfl (fun hc => ?_) (fun hc => ?_) | refine wguard_split (fun hc => ?_) (fun hc => ?_) | refine wguardX_split (fun hc => ?_) (fun hc => ?_)) <;> have hd := hc <;> (try simp (disch := omega) only [wrapI] at hd) <;> have hs := hd <;> (try simp only [decide_eq_true_eq, decide_eq_false_iff_not, Int.not_lt] at hd) <;> (try simp at hs)) | refine T_ret ?_ | refine leave_of (.inr rfl) _ rfl ?_ | refine leave_of (.inl rfl) _ rfl ?_ | refine wif_intro ?_ (fun hc => ?_) | refine And.intro ?_ ?_ | intro hc) | simp (maxSteps := 4000000) only [wops_nil, wops_cons, wstep_none, wrun_call, wrun_mv, wrun_bin, wrun_not, wrun_load, wrun_faddr, wrun_iaddrS, wrun_len, wop, aop, ev, look, put_some, writes, ores_some, ores_ite_none, ores_map, ores_bind, binV, thenK, blockK, boolV, intV, lenOf, value, cut, hget, mkAgg, List.map_cons, List.map_nil, List.length_cons, List.length_nil, List.take_succ_cons, List.take_nil, List.drop_succ_cons, List.drop_zero, List.append_nil, List.replicate_zero, Option.pure_def, Option.bind_eq_bind, Option.map_some, if_true, if_false, Nat.reduceEqDiff, Nat.zero_add, reduceCtorEq, Bool.not_true, Bool.false_eq_true, eq_self, true_and, and_true, and_self, decide_true, freeze, lidsL, lids, List.flatMap_cons, List.flatMap_nil, ren, Int.toNat_natCast, *] | simp (disch := omega) only [wrapI] | (with_reducible show wcall _ false (.lit (.func (.func 24) _ _)) _ _ _ _; refine wcall_fn (h24) ?_ ?_ ?_; (next => simp [rfyL, rfy, hget, ints, take_rfy, Int.toNat_natCast]); (next => simp [plainL, plain, plainR, Int.toNat_natCast])) | (with_reducible show wcallX _ false (.lit (.func (.func 24) _ _)) _ _ _ _; refine wcallX_fn (h24) ?_ ?_ ?_; (next => simp [rfyL, rfy, hget, ints, take_rfy, Int.toNat_natCast]); (next => simp [plainL, plain, plainR, Int.toNat_natCast])) | omega)
      all_goals first | exact hI2.down _ (by assumption) | (simp [St.only, get_mk, look]; done)
    | false =>
      rw [a1] at h24 eo
      have f := PLift.up (hE (any_true hzn eo))
      clear hE hN hI a1 eo
      unfold c11l0
      repeat' (first | ((with_reducible refine T_calm ?_ ?_); rfl) | (with_reducible first | refine T_seq ?_ | refine T_reg ?_ | refine T_draw ?_ | refine T_skip ?_ | refine T_exit ?_ | refine T_block ?_ | refine T_cond_t rfl ?_ | refine T_cond_f rfl ?_ | refine wdW_cons rfl ?_ | (show wcall _ false (.lit (.func (.func 24) _ _)) _ _ _ _; refine wcall_fn (h24) rfl (by simp [plainL, plain]) ?_) | (show wcallX _ false (.lit (.func (.func 24) _ _)) _ _ _ _; refine wcallX_fn (h24) rfl (by simp [plainL, plain, plainR, Int.toNat_natCast]) ?_) | ((first | refine T_cond rfl (fun hc => ?_) (fun hc => ?_) | refine wguard_split (fun hc => ?_) (fun hc => ?_) | refine wguardX_split (fun hc => ?_) (fun hc => ?_)) <;> have hd := hc <;> (try simp (disch := omega) only [wrapI] at hd) <;> have hs := hd <;> (try simp only [decide_eq_true_eq, decide_eq_false_iff_not, Int.not_lt] at hd) <;> (try simp at hs)) | refine T_ret ?_ | refine leave_of (.inr rfl) _ rfl ?_ | refine leave_of (.inl rfl) _ rfl ?_ | refine wif_intro ?_ (fun hc => ?_) | refine And.intro ?_ ?_ | intro hc) | simp (maxSteps := 4000000) only [wops_nil, wops_cons, wstep_none, wrun_call, wrun_mv, wrun_bin, wrun_not, wrun_load, wrun_faddr, wrun_iaddrS, wrun_len, wop, aop, ev, look, put_some, writes, ores_some, ores_ite_none, ores_map, ores_bind, binV, thenK, blockK, boolV, intV, lenOf, value, cut, hget, mkAgg, List.map_cons, List.map_nil, List.length_cons, List.length_nil, List.take_succ_cons, List.take_nil, List.drop_succ_cons, List.drop_zero, List.append_nil, List.replicate_zero, Option.pure_def, Option.bind_eq_bind, Option.map_some, if_true, if_false, Nat.reduceEqDiff, Nat.zero_add, reduceCtorEq, Bool.not_false, Bool.false_eq_true, eq_self, true_and, and_true, and_self, decide_true, freeze, lidsL, lids, List.flatMap_cons, List.flatMap_nil, ren, Int.toNat_natCast, *] | simp (disch := omega) only [getD_ints, wrapI] | (with_reducible show wcall _ false (.lit (.func (.func 24) _ _)) _ _ _ _; refine wcall_fn (h24) ?_ ?_ ?_; (next => simp [rfyL, rfy, hget, ints, take_rfy, Int.toNat_natCast]); (next => simp [plainL, plain, plainR, Int.toNat_natCast])) | (with_reducible show wcallX _ false (.lit (.func (.func 24) _ _)) _ _ _ _; refine wcallX_fn (h24) ?_ ?_ ?_; (next => simp [rfyL, rfy, hget, ints, take_rfy, Int.toNat_natCast]); (next => simp [plainL, plain, plainR, Int.toNat_natCast])) | omega)
      all_goals first | exact f.down _ rfl rfl
  · have hze : z = (l.getD k sk0).wr.length := by omega
    subst hze
    have f := PLift.up (hN (any_false hI))
    clear hE hN hI
    unfold c11l0
    repeat' (first | ((with_reducible refine T_calm ?_ ?_); rfl) | (with_reducible first | refine T_seq ?_ | refine T_reg ?_ | refine T_draw ?_ | refine T_skip ?_ | refine T_exit ?_ | refine T_block ?_ | refine T_cond_t rfl ?_ | refine T_cond_f rfl ?_ | refine wdW_cons rfl ?_ | ((first | refine T_cond rfl (fun hc => ?_) (fun hc => ?_) | refine wguard_split (fun hc => ?_) (fun hc => ?_) | refine wguardX_split (fun hc => ?_) (fun hc => ?_)) <;> have hd := hc <;> (try simp (disch := omega) only [wrapI] at hd) <;> have hs := hd <;> (try simp only [decide_eq_true_eq, decide_eq_false_iff_not, Int.not_lt] at hd) <;> (try simp at hs)) | refine T_ret ?_ | refine leave_of (.inr rfl) _ rfl ?_ | refine leave_of (.inl rfl) _ rfl ?_ | refine wif_intro ?_ (fun hc => ?_) | refine And.intro ?_ ?_ | intro hc) | simp (maxSteps := 4000000) only [wops_nil, wops_cons, wstep_none, wrun_mv, wrun_bin, wrun_load, wrun_faddr, wrun_iaddrS, wrun_len, wop, aop, ev, look, put_some, writes, ores_some, ores_ite_none, ores_map, ores_bind, binV, thenK, intV, lenOf, value, cut, hget, mkAgg, List.length_cons, List.length_nil, List.take_succ_cons, List.take_nil, List.drop_succ_cons, List.drop_zero, List.append_nil, List.replicate_zero, Option.pure_def, Option.bind_eq_bind, Option.map_some, if_true, if_false, Nat.reduceEqDiff, Nat.zero_add, reduceCtorEq, Bool.false_eq_true, eq_self, and_true, false_and, Int.toNat_natCast, *] | simp (disch := omega) only [getD_ints, wrapI] | omega)
    all_goals first | exact f.down _ rfl (by simp [St.only, get_mk, look])
abbrev SL38 (nil : Bool) (l : List Sk) (k : Nat) : List (Nat × AV) := [(0, sts nil l), (4, i64 k)]
set_option maxHeartbeats 8000000 in
theorem k11l {nil : Bool} {l : List Sk} (hl : l.length < 1000000) (hsz : ∀ k, k < l.length → (l.getD k sk0).nm.size < 1000000 ∧ (l.getD k sk0).wr.length < 1000000) {k : Nat} (hk : k < l.length) (K : Exit → St → Prop)
    (hE : sErr l k ≠ 0 → ∀ τ : St, τ.get 2 = i64 0 → τ.get 3 = i64 (sErr l k) → K .ret τ) :
    T none Tryz.prog muts 81 0 c11l1 ⟨SL38 nil l k, []⟩ (thenK (fun s' => (sErr l k = 0 ∧ s'.heap = []) ∧ (s'.only [0, 4]).slots = SL38 nil l (k + 1)) K) := by
  have hll := skR_len l
  have g1 := skR_get hk
  have g0 := skR_get (l := l) (k := 0) (by omega)
  have hwl : ((l.getD k sk0).wr.map fun x => [i64 x]).length = (l.getD k sk0).wr.length := by simp
  have hw0 : ((l.getD 0 sk0).wr.map fun x => [i64 x]).length = (l.getD 0 sk0).wr.length := by simp
  have h23 := k23 (l.getD k sk0).nm (hsz k hk).1
  have h42 := k42 nil l (l.getD k sk0).nm hl
  have hdup := sAt_dup hk
  have h24 := k24 ((l.getD k sk0).wr.length : Int) 1 40
  have hin := fun K hE hN σ h0 hH => k11in (nil := nil) hl hk (hsz k hk).2 K hE hN (σ := σ) h0 hH
  have hl0 : (0 : Int) < (l.length : Int) := by omega
  unfold sErr at hE ⊢
  unfold sShp at hE ⊢
  replace hin := PLift.up hin
  clear hsz
  cases a1 : nmB (l.getD k sk0).nm with
  | false =>
    rw [a1] at h23 hE
    rw [if_pos rfl] at hE
    have f := PLift.up (hE (by simp))
    clear hE h42 hdup h24 hin a1
    unfold c11l1
    repeat' (first | ((with_reducible refine T_calm ?_ ?_); rfl) | (with_reducible first | refine T_seq ?_ | refine T_reg ?_ | refine T_draw ?_ | refine T_skip ?_ | refine T_exit ?_ | refine T_block ?_ | refine T_cond_t rfl ?_ | refine T_cond_f rfl ?_ | refine wdW_cons rfl ?_ | (show wcall _ false (.lit (.func (.func 23) _ _)) _ _ _ _; refine wcall_fn (h23) rfl (by simp [plainL, plain]) ?_) | (show wcallX _ false (.lit (.func (.func 23) _ _)) _ _ _ _; refine wcallX_fn (h23) rfl (by simp [plainL, plain, plainR, Int.toNat_natCast]) ?_) | ((first | refine T_cond rfl (fun hc => ?_) (fun hc => ?_) | refine wguard_split (fun hc => ?_) (fun hc => ?_) | refine wguardX_split (fun hc => ?_) (fun hc => ?_)) <;> have hd := hc <;> (try simp (disch := omega) only [wrapI] at hd) <;> have hs := hd <;> (try simp only [decide_eq_true_eq, decide_eq_false_iff_not, Int.not_lt] at hd) <;> (try simp at hs)) | refine T_ret ?_ | refine leave_of (.inr rfl) _ rfl ?_ | refine leave_of (.inl rfl) _ rfl ?_ | refine wif_intro ?_ (fun hc => ?_) | refine And.intro ?_ ?_ | intro hc) | simp (maxSteps := 4000000) only [wops_nil, wops_cons, wstep_none, wrun_call, wrun_mv, wrun_bin, wrun_not, wrun_load, wrun_faddr, wrun_iaddrS, wrun_len, wop, aop, ev, look, put_some, writes, ores_some, ores_ite_none, ores_map, ores_bind, binV, thenK, blockK, boolV, intV, lenOf, value, cut, hget, mkAgg, List.map_cons, List.map_nil, List.length_cons, List.length_nil, List.take_succ_cons, List.take_zero, List.drop_zero, List.append_nil, List.replicate_zero, Option.pure_def, Option.bind_eq_bind, Option.map_some, if_true, if_false, Nat.reduceEqDiff, Nat.add_zero, Nat.zero_add, reduceCtorEq, Bool.not_false, Bool.false_eq_true, eq_self, and_true, and_self, decide_true, freeze, lidsL, lids, List.flatMap_cons, List.flatMap_nil, ren, Int.toNat_natCast, *] | simp (disch := omega) only [getD_ints, wrapI] | (with_reducible show wcall _ false (.lit (.func (.func 23) _ _)) _ _ _ _; refine wcall_fn (h23) ?_ ?_ ?_; (next => simp [rfyL, rfy, hget, ints, take_rfy, Int.toNat_natCast]); (next => simp [plainL, plain, plainR, Int.toNat_natCast])) | (with_reducible show wcallX _ false (.lit (.func (.func 23) _ _)) _ _ _ _; refine wcallX_fn (h23) ?_ ?_ ?_; (next => simp [rfyL, rfy, hget, ints, take_rfy, Int.toNat_natCast]); (next => simp [plainL, plain, plainR, Int.toNat_natCast])) | omega)
    all_goals first | exact f.down _ rfl rfl
  | true =>
    rw [a1] at h23 hE
    rw [if_neg (by simp)] at hE ⊢
    cases a2 : sDup l k with
    | true =>
      rw [a2] at hdup hE
      rw [if_pos rfl] at hE
      have f := PLift.up (hE (by simp))
      clear hE h24 hin a1 a2
      unfold c11l1
      repeat' (first | ((with_reducible refine T_calm ?_ ?_); rfl) | (with_reducible first | refine T_seq ?_ | refine T_reg ?_ | refine T_draw ?_ | refine T_skip ?_ | refine T_exit ?_ | refine T_block ?_ | refine T_cond_t rfl ?_ | refine T_cond_f rfl ?_ | refine wdW_cons rfl ?_ | (show wcall _ false (.lit (.func (.func 23) _ _)) _ _ _ _; refine wcall_fn (h23) rfl (by simp [plainL, plain]) ?_) | (show wcallX _ false (.lit (.func (.func 23) _ _)) _ _ _ _; refine wcallX_fn (h23) rfl (by simp [plainL, plain, plainR, Int.toNat_natCast, plainR_sk]) ?_) | (show wcall _ false (.lit (.func (.func 42) _ _)) _ _ _ _; refine wcall_fn (h42) rfl (by simp [plainL, plain, plainR_sk]) ?_) | (show wcallX _ false (.lit (.func (.func 42) _ _)) _ _ _ _; refine wcallX_fn (h42) rfl (by simp [plainL, plain, plainR, Int.toNat_natCast, plainR_sk]) ?_) | ((first | refine T_cond rfl (fun hc => ?_) (fun hc => ?_) | refine wguard_split (fun hc => ?_) (fun hc => ?_) | refine wguardX_split (fun hc => ?_) (fun hc => ?_)) <;> have hd := hc <;> (try simp (disch := omega) only [wrapI] at hd) <;> have hs := hd <;> (try simp only [decide_eq_true_eq, decide_eq_false_iff_not, Int.not_lt] at hd) <;> (try simp at hs)) | refine T_ret ?_ | refine leave_of (.inr rfl) _ rfl ?_ | refine leave_of (.inl rfl) _ rfl ?_ | refine wif_intro ?_ (fun hc => ?_) | refine And.intro ?_ ?_ | intro hc) | simp (maxSteps := 4000000) only [wops_nil, wops_cons, wstep_none, wrun_call, wrun_mv, wrun_bin, wrun_not, wrun_load, wrun_faddr, wrun_iaddrS, wrun_len, wop, aop, ev, look, put_some, writes, ores_some, ores_ite_none, ores_map, ores_bind, binV, thenK, blockK, boolV, intV, lenOf, value, cut, hget, mkAgg, List.map_cons, List.map_nil, List.length_cons, List.length_nil, List.take_succ_cons, List.take_zero, List.drop_zero, List.append_nil, List.replicate_zero, Option.pure_def, Option.bind_eq_bind, Option.map_some, if_true, if_false, Nat.reduceEqDiff, Nat.add_zero, Nat.zero_add, reduceCtorEq, Bool.not_true, Bool.false_eq_true, eq_self, true_and, and_true, and_self, decide_true, freeze, lidsL, lids, List.flatMap_cons, List.flatMap_nil, ren, Int.toNat_natCast, *] | simp (disch := omega) only [getD_ints, wrapI] | (with_reducible show wcall _ false (.lit (.func (.func 23) _ _)) _ _ _ _; refine wcall_fn (h23) ?_ ?_ ?_; (next => simp [rfyL, rfy, hget, ints, take_rfy, Int.toNat_natCast, plainR_sk]); (next => simp [plainL, plain, plainR, Int.toNat_natCast, plainR_sk])) | (with_reducible show wcallX _ false (.lit (.func (.func 23) _ _)) _ _ _ _; refine wcallX_fn (h23) ?_ ?_ ?_; (next => simp [rfyL, rfy, hget, ints, take_rfy, Int.toNat_natCast, plainR_sk]); (next => simp [plainL, plain, plainR, Int.toNat_natCast, plainR_sk])) | (with_reducible show wcall _ false (.lit (.func (.func 42) _ _)) _ _ _ _; refine wcall_fn (h42) ?_ ?_ ?_; (next => simp [rfyL, rfy, hget, ints, take_rfy, Int.toNat_natCast, plainR_sk]); (next => simp [plainL, plain, plainR, Int.toNat_natCast, plainR_sk])) | (with_reducible show wcallX _ false (.lit (.func (.func 42) _ _)) _ _ _ _; refine wcallX_fn (h42) ?_ ?_ ?_; (next => simp [rfyL, rfy, hget, ints, take_rfy, Int.toNat_natCast, plainR_sk]); (next => simp [plainL, plain, plainR, Int.toNat_natCast, plainR_sk])) | omega)
      all_goals first | exact f.down _ rfl rfl
    | false =>
      rw [a2] at hdup hE
      rw [if_neg (by simp)] at hE ⊢
      cases a3 : (((l.getD k sk0).wr.length : Int) != ((l.getD 0 sk0).wr.length : Int)) with
      | true =>
        rw [a3] at hE
        rw [if_pos (by simp)] at hE
        have f := PLift.up (hE (by simp))
        clear hE h24 hin a1 a2
        unfold c11l1
        repeat' (first | ((with_reducible refine T_calm ?_ ?_); rfl) | (with_reducible first | refine T_seq ?_ | refine T_reg ?_ | refine T_draw ?_ | refine T_skip ?_ | refine T_exit ?_ | refine T_block ?_ | refine T_cond_t rfl ?_ | refine T_cond_f rfl ?_ | refine wdW_cons rfl ?_ | (show wcall _ false (.lit (.func (.func 23) _ _)) _ _ _ _; refine wcall_fn (h23) rfl (by simp [plainL, plain]) ?_) | (show wcallX _ false (.lit (.func (.func 23) _ _)) _ _ _ _; refine wcallX_fn (h23) rfl (by simp [plainL, plain, plainR, Int.toNat_natCast, Int.toNat_zero, plainR_sk]) ?_) | (show wcall _ false (.lit (.func (.func 42) _ _)) _ _ _ _; refine wcall_fn (h42) rfl (by simp [plainL, plain, plainR_sk]) ?_) | (show wcallX _ false (.lit (.func (.func 42) _ _)) _ _ _ _; refine wcallX_fn (h42) rfl (by simp [plainL, plain, plainR, Int.toNat_natCast, Int.toNat_zero, plainR_sk]) ?_) | ((first | refine T_cond rfl (fun hc => ?_) (fun hc => ?_) | refine wguard_split (fun hc => ?_) (fun hc => ?_) | refine wguardX_split (fun hc => ?_) (fun hc => ?_)) <;> have hd := hc <;> (try simp (disch := omega) only [wrapI] at hd) <;> have hs := hd <;> (try simp only [decide_eq_true_eq, decide_eq_false_iff_not, Int.not_lt] at hd) <;> (try simp at hs)) | refine T_ret ?_ | refine leave_of (.inr rfl) _ rfl ?_ | refine leave_of (.inl rfl) _ rfl ?_ | refine wif_intro ?_ (fun hc => ?_) | refine And.intro ?_ ?_ | intro hc) | simp (maxSteps := 4000000) only [wops_nil, wops_cons, wstep_none, wrun_call, wrun_mv, wrun_pick, wrun_bin, wrun_not, wrun_load, wrun_faddr, wrun_iaddrS, wrun_len, wrunX_mv, wrunX_pick, wrunX_bin, wrunX_load, wrunX_faddr, wrunX_iaddrS, wrunX_len, wdW_nil, wstepX_none, wstepX_some, wguardX_tf, wop, aop, ev, look, put_some, writes, ores_some, ores_ite_none, ores_map, ores_bind, binV, thenK, blockK, boolV, intV, lenOf, value, cut, hget, toLits, mkAgg, List.map_cons, List.map_nil, List.length_cons, List.length_nil, List.take_succ_cons, List.take_zero, List.take_nil, List.drop_succ_cons, List.drop_zero, List.append_nil, List.replicate_zero, Option.pure_def, Option.bind_eq_bind, Option.map_some, Option.bind_some, if_true, if_false, Nat.reduceEqDiff, Nat.add_zero, Nat.zero_add, reduceCtorEq, Bool.not_true, Bool.false_and, Bool.false_eq_true, eq_self, true_and, and_true, and_self, decide_true, freeze, lidsL, lids, List.flatMap_cons, List.flatMap_nil, ren, Int.toNat_natCast, Int.toNat_zero, *] | simp (disch := omega) only [getD_ints, wrapI] | (with_reducible show wcall _ false (.lit (.func (.func 23) _ _)) _ _ _ _; refine wcall_fn (h23) ?_ ?_ ?_; (next => simp [rfyL, rfy, hget, ints, take_rfy, Int.toNat_natCast, Int.toNat_zero, plainR_sk]); (next => simp [plainL, plain, plainR, Int.toNat_natCast, Int.toNat_zero, plainR_sk])) | (with_reducible show wcallX _ false (.lit (.func (.func 23) _ _)) _ _ _ _; refine wcallX_fn (h23) ?_ ?_ ?_; (next => simp [rfyL, rfy, hget, ints, take_rfy, Int.toNat_natCast, Int.toNat_zero, plainR_sk]); (next => simp [plainL, plain, plainR, Int.toNat_natCast, Int.toNat_zero, plainR_sk])) | (with_reducible show wcall _ false (.lit (.func (.func 42) _ _)) _ _ _ _; refine wcall_fn (h42) ?_ ?_ ?_; (next => simp [rfyL, rfy, hget, ints, take_rfy, Int.toNat_natCast, Int.toNat_zero, plainR_sk]); (next => simp [plainL, plain, plainR, Int.toNat_natCast, Int.toNat_zero, plainR_sk])) | (with_reducible show wcallX _ false (.lit (.func (.func 42) _ _)) _ _ _ _; refine wcallX_fn (h42) ?_ ?_ ?_; (next => simp [rfyL, rfy, hget, ints, take_rfy, Int.toNat_natCast, Int.toNat_zero, plainR_sk]); (next => simp [plainL, plain, plainR, Int.toNat_natCast, Int.toNat_zero, plainR_sk])) | omega)
        all_goals first | exact f.down _ rfl rfl
      | false =>
        have e300 : (l.getD k sk0).wr.length = (l.getD 0 sk0).wr.length := by
          simp only [bne_eq_false_iff_eq] at a3; omega
        rw [a3] at hE
        rw [← e300] at hE
        rw [← e300]
        cases a4 : (decide (1 ≤ ((l.getD k sk0).wr.length : Int)) && decide (((l.getD k sk0).wr.length : Int) ≤ 40)) with
        | false =>
          rw [a4] at hE h24
          rw [if_pos (by simp)] at hE
          have f := PLift.up (hE (by simp))
          clear hE hin a1 a2 a4 e300
          unfold c11l1
          repeat' (first | ((with_reducible refine T_calm ?_ ?_); rfl) | (with_reducible first | refine T_seq ?_ | refine T_reg ?_ | refine T_draw ?_ | refine T_skip ?_ | refine T_exit ?_ | refine T_block ?_ | refine T_cond_t rfl ?_ | refine T_cond_f rfl ?_ | refine wdW_cons rfl ?_ | (show wcall _ false (.lit (.func (.func 23) _ _)) _ _ _ _; refine wcall_fn (h23) rfl (by simp [plainL, plain]) ?_) | (show wcallX _ false (.lit (.func (.func 23) _ _)) _ _ _ _; refine wcallX_fn (h23) rfl (by simp [plainL, plain, plainR, Int.toNat_natCast, Int.toNat_zero, plainR_sk]) ?_) | (show wcall _ false (.lit (.func (.func 42) _ _)) _ _ _ _; refine wcall_fn (h42) rfl (by simp [plainL, plain, plainR_sk]) ?_) | (show wcallX _ false (.lit (.func (.func 42) _ _)) _ _ _ _; refine wcallX_fn (h42) rfl (by simp [plainL, plain, plainR, Int.toNat_natCast, Int.toNat_zero, plainR_sk]) ?_) | (show wcall _ false (.lit (.func (.func 24) _ _)) _ _ _ _; refine wcall_fn (h24) rfl (by simp [plainL, plain, plainR, Int.toNat_natCast, Int.toNat_zero, plainR_sk]) ?_) | (show wcallX _ false (.lit (.func (.func 24) _ _)) _ _ _ _; refine wcallX_fn (h24) rfl (by simp [plainL, plain]) ?_) | ((first | refine T_cond rfl (fun hc => ?_) (fun hc => ?_) | refine wguard_split (fun hc => ?_) (fun hc => ?_) | refine wguardX_split (fun hc => ?_) (fun hc => ?_)) <;> have hd := hc <;> (try simp (disch := omega) only [wrapI] at hd) <;> have hs := hd <;> (try simp only [decide_eq_true_eq, decide_eq_false_iff_not, Int.not_lt] at hd) <;> (try simp at hs)) | refine T_ret ?_ | refine leave_of (.inr rfl) _ rfl ?_ | refine leave_of (.inl rfl) _ rfl ?_ | refine wif_intro ?_ (fun hc => ?_) | refine And.intro ?_ ?_ | intro hc) | simp (maxSteps := 4000000) only [wops_nil, wops_cons, wstep_none, wrun_call, wrun_mv, wrun_pick, wrun_bin, wrun_not, wrun_load, wrun_faddr, wrun_iaddrS, wrun_len, wrunX_mv, wrunX_pick, wrunX_bin, wrunX_not, wrunX_load, wrunX_faddr, wrunX_iaddrS, wrunX_len, wdW_nil, wstepX_none, wstepX_some, wguardX_ff, wrunX_call, wop, aop, ev, look, put_some, writes, ores_some, ores_ite_none, ores_map, ores_bind, binV, thenK, blockK, boolV, intV, lenOf, value, cut, hget, toLits, mkAgg, List.map_cons, List.map_nil, List.length_cons, List.length_nil, List.take_succ_cons, List.take_zero, List.take_nil, List.drop_succ_cons, List.drop_zero, List.append_nil, List.replicate_zero, Option.pure_def, Option.bind_eq_bind, Option.map_some, Option.bind_some, if_true, if_false, Nat.reduceEqDiff, Nat.add_zero, Nat.zero_add, reduceCtorEq, Bool.not_true, Bool.not_false, Bool.and_false, Bool.false_eq_true, eq_self, true_and, and_true, and_self, decide_true, freeze, lidsL, lids, List.flatMap_cons, List.flatMap_nil, ren, Int.toNat_natCast, Int.toNat_zero, *] | simp (disch := omega) only [getD_ints, wrapI] | (with_reducible show wcall _ false (.lit (.func (.func 23) _ _)) _ _ _ _; refine wcall_fn (h23) ?_ ?_ ?_; (next => simp [rfyL, rfy, hget, ints, take_rfy, Int.toNat_natCast, Int.toNat_zero, plainR_sk]); (next => simp [plainL, plain, plainR, Int.toNat_natCast, Int.toNat_zero, plainR_sk])) | (with_reducible show wcallX _ false (.lit (.func (.func 23) _ _)) _ _ _ _; refine wcallX_fn (h23) ?_ ?_ ?_; (next => simp [rfyL, rfy, hget, ints, take_rfy, Int.toNat_natCast, Int.toNat_zero, plainR_sk]); (next => simp [plainL, plain, plainR, Int.toNat_natCast, Int.toNat_zero, plainR_sk])) | (with_reducible show wcall _ false (.lit (.func (.func 42) _ _)) _ _ _ _; refine wcall_fn (h42) ?_ ?_ ?_; (next => simp [rfyL, rfy, hget, ints, take_rfy, Int.toNat_natCast, Int.toNat_zero, plainR_sk]); (next => simp [plainL, plain, plainR, Int.toNat_natCast, Int.toNat_zero, plainR_sk])) | (with_reducible show wcallX _ false (.lit (.func (.func 42) _ _)) _ _ _ _; refine wcallX_fn (h42) ?_ ?_ ?_; (next => simp [rfyL, rfy, hget, ints, take_rfy, Int.toNat_natCast, Int.toNat_zero, plainR_sk]); (next => simp [plainL, plain, plainR, Int.toNat_natCast, Int.toNat_zero, plainR_sk])) | (with_reducible show wcall _ false (.lit (.func (.func 24) _ _)) _ _ _ _; refine wcall_fn (h24) ?_ ?_ ?_; (next => simp [rfyL, rfy, hget, ints, take_rfy, Int.toNat_natCast, Int.toNat_zero, plainR_sk]); (next => simp [plainL, plain, plainR, Int.toNat_natCast, Int.toNat_zero, plainR_sk])) | (with_reducible show wcallX _ false (.lit (.func (.func 24) _ _)) _ _ _ _; refine wcallX_fn (h24) ?_ ?_ ?_; (next => simp [rfyL, rfy, hget, ints, take_rfy, Int.toNat_natCast, Int.toNat_zero, plainR_sk]); (next => simp [plainL, plain, plainR, Int.toNat_natCast, Int.toNat_zero, plainR_sk])) | omega)
          all_goals first | exact f.down _ rfl rfl
        | true =>
          rw [a4] at hE h24
          rw [if_neg (by simp)] at hE ⊢
          replace hE := PLift.up hE
          clear a1 a2 a4 e300
          unfold c11l1
          repeat' (first | ((with_reducible refine T_calm ?_ ?_); rfl) | (with_reducible first | refine T_seq ?_ | refine T_reg ?_ | refine T_draw ?_ | refine T_skip ?_ | refine T_exit ?_ | refine T_block ?_ | refine T_cond_t rfl ?_ | refine T_cond_f rfl ?_ | refine wdW_cons rfl ?_ | (show wcall _ false (.lit (.func (.func 23) _ _)) _ _ _ _; refine wcall_fn (h23) rfl (by simp [plainL, plain]) ?_) | (show wcallX _ false (.lit (.func (.func 23) _ _)) _ _ _ _; refine wcallX_fn (h23) rfl (by simp [plainL, plain, plainR, Int.toNat_natCast, Int.toNat_zero, plainR_sk]) ?_) | (show wcall _ false (.lit (.func (.func 42) _ _)) _ _ _ _; refine wcall_fn (h42) rfl (by simp [plainL, plain, plainR_sk]) ?_) | (show wcallX _ false (.lit (.func (.func 42) _ _)) _ _ _ _; refine wcallX_fn (h42) rfl (by simp [plainL, plain, plainR, Int.toNat_natCast, Int.toNat_zero, plainR_sk]) ?_) | (show wcall _ false (.lit (.func (.func 24) _ _)) _ _ _ _; refine wcall_fn (h24) rfl (by simp [plainL, plain, plainR, Int.toNat_natCast, Int.toNat_zero, plainR_sk]) ?_) | (show wcallX _ false (.lit (.func (.func 24) _ _)) _ _ _ _; refine wcallX_fn (h24) rfl (by simp [plainL, plain]) ?_) | ((first | refine T_cond rfl (fun hc => ?_) (fun hc => ?_) | refine wguard_split (fun hc => ?_) (fun hc => ?_) | refine wguardX_split (fun hc => ?_) (fun hc => ?_)) <;> have hd := hc <;> (try simp (disch := omega) only [wrapI] at hd) <;> have hs := hd <;> (try simp only [decide_eq_true_eq, decide_eq_false_iff_not, Int.not_lt] at hd) <;> (try simp at hs)) | refine T_ret ?_ | refine leave_of (.inr rfl) _ rfl ?_ | refine leave_of (.inl rfl) _ rfl ?_ | refine wif_intro ?_ (fun hc => ?_) | refine And.intro ?_ ?_ | intro hc) | simp (maxSteps := 4000000) only [wops_nil, wops_cons, wstep_none, wrun_call, wrun_mv, wrun_pick, wrun_bin, wrun_not, wrun_load, wrun_faddr, wrun_iaddrS, wrun_len, wrunX_mv, wrunX_pick, wrunX_bin, wrunX_not, wrunX_load, wrunX_faddr, wrunX_iaddrS, wrunX_len, wdW_nil, wstepX_none, wstepX_some, wguardX_ff, wrunX_call, wop, aop, ev, look, put_some, writes, ores_some, ores_ite_none, ores_map, ores_bind, binV, thenK, boolV, intV, lenOf, value, cut, hget, toLits, mkAgg, List.map_cons, List.map_nil, List.length_cons, List.length_nil, List.take_succ_cons, List.take_zero, List.take_nil, List.drop_succ_cons, List.drop_zero, List.append_nil, List.replicate_zero, Option.pure_def, Option.bind_eq_bind, Option.map_some, Option.bind_some, if_true, if_false, Nat.reduceEqDiff, Nat.add_zero, Nat.zero_add, reduceCtorEq, Bool.not_true, Bool.false_eq_true, eq_self, true_and, and_true, and_self, decide_true, freeze, lidsL, lids, List.flatMap_cons, List.flatMap_nil, ren, Int.toNat_natCast, Int.toNat_zero, *] | simp (disch := omega) only [getD_ints, wrapI] | (with_reducible show wcall _ false (.lit (.func (.func 23) _ _)) _ _ _ _; refine wcall_fn (h23) ?_ ?_ ?_; (next => simp [rfyL, rfy, hget, ints, take_rfy, Int.toNat_natCast, Int.toNat_zero, plainR_sk]); (next => simp [plainL, plain, plainR, Int.toNat_natCast, Int.toNat_zero, plainR_sk])) | (with_reducible show wcallX _ false (.lit (.func (.func 23) _ _)) _ _ _ _; refine wcallX_fn (h23) ?_ ?_ ?_; (next => simp [rfyL, rfy, hget, ints, take_rfy, Int.toNat_natCast, Int.toNat_zero, plainR_sk]); (next => simp [plainL, plain, plainR, Int.toNat_natCast, Int.toNat_zero, plainR_sk])) | (with_reducible show wcall _ false (.lit (.func (.func 42) _ _)) _ _ _ _; refine wcall_fn (h42) ?_ ?_ ?_; (next => simp [rfyL, rfy, hget, ints, take_rfy, Int.toNat_natCast, Int.toNat_zero, plainR_sk]); (next => simp [plainL, plain, plainR, Int.toNat_natCast, Int.toNat_zero, plainR_sk])) | (with_reducible show wcallX _ false (.lit (.func (.func 42) _ _)) _ _ _ _; refine wcallX_fn (h42) ?_ ?_ ?_; (next => simp [rfyL, rfy, hget, ints, take_rfy, Int.toNat_natCast, Int.toNat_zero, plainR_sk]); (next => simp [plainL, plain, plainR, Int.toNat_natCast, Int.toNat_zero, plainR_sk])) | (with_reducible show wcall _ false (.lit (.func (.func 24) _ _)) _ _ _ _; refine wcall_fn (h24) ?_ ?_ ?_; (next => simp [rfyL, rfy, hget, ints, take_rfy, Int.toNat_natCast, Int.toNat_zero, plainR_sk]); (next => simp [plainL, plain, plainR, Int.toNat_natCast, Int.toNat_zero, plainR_sk])) | (with_reducible show wcallX _ false (.lit (.func (.func 24) _ _)) _ _ _ _; refine wcallX_fn (h24) ?_ ?_ ?_; (next => simp [rfyL, rfy, hget, ints, take_rfy, Int.toNat_natCast, Int.toNat_zero, plainR_sk]); (next => simp [plainL, plain, plainR, Int.toNat_natCast, Int.toNat_zero, plainR_sk])) | omega)
          refine hin.down _ ?_ ?_ _ ?_ rfl
          · intro h τ t2 t3
            exact hE.down (by rw [if_pos h]; simp) τ t2 (by rw [if_pos h]; exact t3)
          · intro h τ t1 t2
            rw [if_neg (by rw [h]; simp)]
            clear hin hE h23 h42 h24 hdup
            simp only [blockK, thenK, reduceIte]
            refine T_onlyU [0, 4] (S := ⟨SL38 nil l k, []⟩) (by show (⟨(τ.only [0, 4]).slots, τ.heap⟩ : St) = _; rw [t2, t1]) ?_
            repeat' (first | ((with_reducible refine T_calm ?_ ?_); rfl) | (with_reducible first | refine T_seq ?_ | refine T_reg ?_ | refine T_draw ?_ | refine T_skip ?_ | refine T_exit ?_ | refine T_block ?_ | refine T_cond_t rfl ?_ | refine T_cond_f rfl ?_ | refine wdW_cons rfl ?_ | refine T_ret ?_ | refine leave_of (.inr rfl) _ rfl ?_ | refine leave_of (.inl rfl) _ rfl ?_ | refine wif_intro ?_ (fun hc => ?_) | refine And.intro ?_ ?_ | intro hc) | simp (maxSteps := 4000000) only [wops_nil, wops_cons, wstep_none, wrun_mv, wrun_bin, wop, aop, ev, look, put_some, writes, ores_some, binV, thenK, List.length_nil, List.append_nil, List.replicate_zero, Option.map_some, if_true, if_false, Nat.reduceEqDiff, reduceCtorEq, eq_self, true_and, *] | simp (disch := omega) only [wrapI] | omega)
            all_goals first | rfl | (simp [St.only, get_mk, look]; done)
          · simp [St.only, get_mk, look]
set_option maxHeartbeats 8000000 in
theorem k11 (nil : Bool) (l : List Sk) (hl : l.length < 1000000) (hsz : ∀ k, k < l.length → (l.getD k sk0).nm.size < 1000000 ∧ (l.getD k sk0).wr.length < 1000000) : Fn Tryz.prog 11 [sts nil l] (.tup [i64 (sN l), i64 (sE l)]) [] := by
  refine fn_of e11 ?_
  have hll := skR_len l
  have hN0 : sE l ≠ 0 → sN l = 0 := fun h => by unfold sN; rw [if_neg h]
  have hN1 : sE l = 0 → sN l = ((l.getD 0 sk0).wr.length : Int) := fun h => by unfold sN; rw [if_pos h]
  by_cases h0 : l.length = 0
  · have hE : sE l = 10 := if_pos h0
    rw [hN0 (by rw [hE]; simp), hE]
    have d1 : ((l.length : Int) == 0) = true := by simp [h0]
    clear hE h0 hsz hN0 hN1
    unfold c11
    repeat' (first | ((with_reducible refine T_calm ?_ ?_); rfl) | (with_reducible first | refine T_seq ?_ | refine T_reg ?_ | refine T_draw ?_ | refine T_skip ?_ | refine T_exit ?_ | refine T_block ?_ | refine T_cond_t rfl ?_ | refine T_cond_f rfl ?_ | refine wdW_cons rfl ?_ | refine T_ret ?_ | refine leave_of (.inr rfl) _ rfl ?_ | refine leave_of (.inl rfl) _ rfl ?_ | refine wif_intro ?_ (fun hc => ?_) | refine And.intro ?_ ?_ | intro hc) | simp (maxSteps := 4000000) only [wops_nil, wops_cons, wstep_none, wrun_mv, wrun_bin, wrun_len, get_mk, wop, aop, ev, look, put_some, writes, ores_some, ores_map, ores_bind, binV, thenK, intV, lenOf, hget, tupOf, List.map_cons, List.map_nil, List.length_nil, List.append_nil, List.replicate_zero, List.zipIdx_cons, List.zipIdx_nil, Option.pure_def, Option.bind_eq_bind, Option.map_some, if_true, if_false, Nat.reduceEqDiff, Nat.zero_add, reduceCtorEq, eq_self, ren, renL, *] | simp (disch := omega) only [getD_ints, wrapI] | omega)
    all_goals first | rfl
  have d1 : ((l.length : Int) == 0) = false := by simp only [beq_eq_false_iff_ne]; omega
  by_cases h309 : l.length > 12
  · have hE : sE l = 8 := by unfold sE; rw [if_neg h0, if_pos h309]
    rw [hN0 (by rw [hE]; simp), hE]
    have d2 : decide ((l.length : Int) > 12) = true := decide_eq_true (by omega)
    clear hE h0 h309 hsz hN0 hN1
    unfold c11
    repeat' (first | ((with_reducible refine T_calm ?_ ?_); rfl) | (with_reducible first | refine T_seq ?_ | refine T_reg ?_ | refine T_draw ?_ | refine T_skip ?_ | refine T_exit ?_ | refine T_block ?_ | refine T_cond_t rfl ?_ | refine T_cond_f rfl ?_ | refine wdW_cons rfl ?_ | refine T_ret ?_ | refine leave_of (.inr rfl) _ rfl ?_ | refine leave_of (.inl rfl) _ rfl ?_ | refine wif_intro ?_ (fun hc => ?_) | refine And.intro ?_ ?_ | intro hc) | simp (maxSteps := 4000000) only [wops_nil, wops_cons, wstep_none, wrun_mv, wrun_bin, wrun_len, get_mk, wop, aop, ev, look, put_some, writes, ores_some, ores_map, ores_bind, binV, thenK, intV, lenOf, hget, tupOf, List.map_cons, List.map_nil, List.length_nil, List.append_nil, List.replicate_zero, List.zipIdx_cons, List.zipIdx_nil, Option.pure_def, Option.bind_eq_bind, Option.map_some, if_true, if_false, Nat.reduceEqDiff, Nat.zero_add, reduceCtorEq, eq_self, ren, renL, *] | simp (disch := omega) only [getD_ints, wrapI] | omega)
    all_goals first | rfl
  have d2 : decide ((l.length : Int) > 12) = false := decide_eq_false (by omega)
  have hE : sE l = fe (sErr l) l.length := by unfold sE; rw [if_neg h0, if_neg h309]
  have hret : ∀ τ, τ.get 2 = i64 (sN l) → τ.get 3 = i64 (sE l) → leave 0 [.tmp 2, .tmp 3] (fun r' H' => r' = .tup [i64 (sN l), i64 (sE l)] ∧ H' = []) .ret τ := fun τ h h' => leave_of (.inr rfl) [i64 (sN l), i64 (sE l)] (by simp [resL, resAV, h, h']) ⟨rfl, rfl⟩
  have hrow := fun k hk K hE => k11l (nil := nil) hl hsz (k := k) hk K hE
  have hbad : ∀ k, k < l.length → fe (sErr l) k = 0 → sErr l k ≠ 0 → sE l = sErr l k ∧ sN l = 0 := fun k hk h1 h2 => by
    have : sE l = sErr l k := by rw [hE]; exact fe_stop h1 h2 _ hk
    exact ⟨this, hN0 (by rw [this]; exact h2)⟩
  have hend : fe (sErr l) l.length = 0 → sE l = 0 ∧ sN l = ((l.getD 0 sk0).wr.length : Int) := fun h => ⟨by rw [hE, h], hN1 (by rw [hE, h])⟩
  have g0 := skR_get (l := l) (k := 0) (by omega)
  have hl0 : (0 : Int) < (l.length : Int) := by omega
  have hw0 : ((l.getD 0 sk0).wr.map fun x => [i64 x]).length = (l.getD 0 sk0).wr.length := by simp
  generalize sE l = E at *
  generalize sN l = N at *
  replace hret := PLift.up hret
  replace hrow := PLift.up hrow
  replace hbad := PLift.up hbad
  replace hend := PLift.up hend
  clear hE hN0 hN1 hsz h309 h0
  unfold c11
  repeat' (first | ((with_reducible refine T_calm ?_ ?_); rfl) | (with_reducible first | refine T_seq ?_ | refine T_reg ?_ | refine T_draw ?_ | refine T_skip ?_ | refine T_exit ?_ | refine T_block ?_ | refine T_cond_t rfl ?_ | refine T_cond_f rfl ?_ | refine wdW_cons rfl ?_ | refine T_ret ?_ | refine leave_of (.inr rfl) _ rfl ?_ | refine leave_of (.inl rfl) _ rfl ?_ | refine wif_intro ?_ (fun hc => ?_) | refine And.intro ?_ ?_ | intro hc) | simp (maxSteps := 4000000) only [wops_nil, wops_cons, wstep_none, wrun_mv, wrun_bin, wrun_len, wop, aop, ev, look, put_some, writes, ores_some, ores_map, ores_bind, binV, thenK, intV, lenOf, hget, List.map_cons, List.map_nil, List.length_nil, List.append_nil, List.replicate_zero, List.zipIdx_cons, List.zipIdx_nil, Option.pure_def, Option.bind_eq_bind, Option.map_some, if_true, if_false, Nat.reduceEqDiff, Nat.zero_add, reduceCtorEq, eq_self, *] | simp (disch := omega) only [getD_ints, wrapI] | omega)
  refine T_forP [0, 4] (SL38 nil l) l.length (fun k H => H = [] ∧ fe (sErr l) k = 0) 0 ?_ ⟨rfl, rfl⟩ (Nat.zero_le _) ?_
  · simp [St.only, get_mk, look]
  intro k H hk ⟨hH0, hI⟩
  subst hH0
  by_cases hkn : k < l.length
  · refine T_thenR (hrow.down k hkn _ fun hne τ t2 t3 => ?_) fun s' hs => ⟨hkn, ⟨hs.1.2, fe_next hI hs.1.1⟩, hs.2⟩
    have h306 := hbad.down k hkn hI hne
    exact hret.down τ (by rw [h306.2]; exact t2) (by rw [h306.1]; exact t3)
  · have hke : k = l.length := by omega
    subst hke
    have h306 := hend.down hI
    rw [h306.1, h306.2]
    clear hI hrow hret hbad hend h306
    unfold c11l1
    repeat' (first | ((with_reducible refine T_calm ?_ ?_); rfl) | (with_reducible first | refine T_seq ?_ | refine T_reg ?_ | refine T_draw ?_ | refine T_skip ?_ | refine T_exit ?_ | refine T_block ?_ | refine T_cond_t rfl ?_ | refine T_cond_f rfl ?_ | refine wdW_cons rfl ?_ | ((first | refine T_cond rfl (fun hc => ?_) (fun hc => ?_) | refine wguard_split (fun hc => ?_) (fun hc => ?_) | refine wguardX_split (fun hc => ?_) (fun hc => ?_)) <;> have hd := hc <;> (try simp (disch := omega) only [wrapI] at hd) <;> have hs := hd <;> (try simp only [decide_eq_true_eq, decide_eq_false_iff_not, Int.not_lt] at hd) <;> (try simp at hs)) | refine T_ret ?_ | refine leave_of (.inr rfl) _ rfl ?_ | refine leave_of (.inl rfl) _ rfl ?_ | refine wif_intro ?_ (fun hc => ?_) | refine And.intro ?_ ?_ | intro hc) | simp (maxSteps := 4000000) only [wops_nil, wops_cons, wstep_none, wrun_mv, wrun_bin, wrun_load, wrun_faddr, wrun_iaddrS, wrun_len, get_mk, wop, aop, ev, look, put_some, writes, ores_some, ores_ite_none, ores_map, ores_bind, binV, thenK, blockK, intV, lenOf, value, cut, hget, mkAgg, tupOf, List.length_cons, List.length_nil, List.take_succ_cons, List.take_nil, List.drop_succ_cons, List.drop_zero, List.append_nil, List.replicate_zero, Option.pure_def, Option.bind_eq_bind, Option.map_some, if_true, if_false, Nat.reduceEqDiff, Nat.add_zero, Nat.zero_add, reduceCtorEq, Bool.false_eq_true, eq_self, and_true, and_self, false_and, ren, renL, Int.toNat_zero, *] | simp (disch := omega) only [getD_ints, wrapI] | omega)
    all_goals first | rfl
end Go.Abs
