import Derived.Test.YtookdheldelepaaGreatDoorPCmin
import Derived.Test.YtookdheldelepaaGreatDoorK7x
import Derived.Test.YtookdheldelepaaGreatDoorK304x
import Derived.Test.YtookdheldelepaaGreatDoorK301x
import Derived.Test.YtookdheldelepaaGreatDoorK302x
set_option linter.all false
set_option linter.unusedVariables false
set_option linter.unusedSimpArgs false
set_option linter.unusedSectionVars false
namespace Go.Abs
open Go.Proofs
/-! the program's CheckStrokes -/
structure J101 (l : List Sk) (k : Nat) (H : List Blk) : Prop where
  m : ∃ es, H[0]? = some (.obj (.smap .str es)) ∧ Seen (fun b => ∃ j, j < k ∧ eqT (l.getD j sk0).nm b = true) es
abbrev SL101 (nil : Bool) (l : List Sk) (k : Nat) : List (Nat × AV) := [(4, i64 (l.getD 0 sk0).wr.length), (5, .mp 0), (22, sts nil l), (23, i64 l.length), (24, i64 k)]
set_option maxHeartbeats 8000000 in
theorem k8l0 {nil : Bool} {l : List Sk} (hl : l.length < 1000000) (hsz : ∀ k, k < l.length → (l.getD k sk0).nm.size < 1000000 ∧ (l.getD k sk0).wr.length < 1000000) {k : Nat} (hk : k < l.length) {H : List Blk} (hJ : J101 l k H) (K : Exit → St → Prop)
    (hE : sErr l k ≠ 0 → ∀ τ : St, τ.get 2 = i64 0 → τ.get 3 = i64 (sErr l k) → K .ret τ) :
    T none Tryz.prog muts 55 0 c8l0 ⟨SL101 nil l k, H⟩ (thenK (fun s' => sErr l k = 0 ∧ J101 l (k + 1) s'.heap ∧ (s'.only [4, 5, 22, 23, 24]).slots = SL101 nil l (k + 1)) K) := by
  have hll := skR_len l
  have g1 := skR_get hk
  have hwl : ((l.getD k sk0).wr.map fun x => [i64 x]).length = (l.getD k sk0).wr.length := by simp
  obtain ⟨es, hm, hs⟩ := hJ
  have h32 := k32 (l.getD k sk0).nm (hsz k hk).1
  have h34 := k34 ((l.getD 0 sk0).wr.length : Int) 1 40
  have h35 := k35f k36 (l.getD k sk0).nil (l.getD k sk0).wr (by have := (hsz k hk).2; omega)
  have hkc : ((k : Int) < (l.length : Int)) := by omega
  obtain ⟨u1, u2, u3, u4⟩ := cells_sub (X := []) (H := H) rfl
  have a0 := at_in hm
  have l0 := (List.getElem?_eq_some_iff.1 hm).1
  have h33 := fun Y => k33 (b := (l.getD k sk0).nm) (a0 Y) hs
  have hseen : ∀ Bk, J101 l (k + 1) ((H ++ [Bk]).set 0 (.obj (.smap .str (mput (.string (l.getD k sk0).nm) (.bool true) es)))) := fun Bk =>
    ⟨_, List.getElem?_set_self (by rw [List.length_append]; omega), hs.put _ fun b' => by
      constructor
      · rintro ⟨j, hj, he⟩
        rcases Nat.lt_succ_iff_lt_or_eq.1 hj with h | rfl
        · exact .inl ⟨j, h, he⟩
        · exact .inr he
      · rintro (⟨j, hj, he⟩ | he)
        · exact ⟨j, by omega, he⟩
        · exact ⟨k, by omega, he⟩⟩
  have hd1 : mfind (.string (l.getD k sk0).nm) es = some (.bool true) → sDup l k = true := fun h => by
    rcases hs (l.getD k sk0).nm with ⟨_, h2⟩ | ⟨h1, _⟩
    · exact decide_eq_true h2
    · rw [h] at h1; simp at h1
  have hd2 : mfind (.string (l.getD k sk0).nm) es = none → sDup l k = false := fun h => by
    rcases hs (l.getD k sk0).nm with ⟨h1, _⟩ | ⟨_, h2⟩
    · rw [h] at h1; simp at h1
    · exact decide_eq_false h2
  have hre : sErr l k = if nmB (l.getD k sk0).nm = false then 4 else if sDup l k = true then 5 else if (!(((l.getD k sk0).wr.length : Int) != ((l.getD 0 sk0).wr.length : Int)) && (decide (1 ≤ ((l.getD 0 sk0).wr.length : Int)) && decide (((l.getD 0 sk0).wr.length : Int) ≤ 40))) = false then 10 else if (l.getD k sk0).wr.any outW = true then 2 else 0 := rfl
  replace h33 := PLift.up h33
  replace hseen := PLift.up hseen
  replace hd1 := PLift.up hd1
  replace hd2 := PLift.up hd2
  generalize sErr l k = E at *
  clear hm hs hsz
  cases a1 : nmB (l.getD k sk0).nm with
  | false =>
    rw [a1] at h32 hre
    rw [if_pos rfl] at hre
    subst hre
    have f := PLift.up (hE (by simp))
    clear hE h34 hseen hd1 hd2 h33 a1 h35
    unfold c8l0
    repeat' (first | (with_reducible first | refine T_seq ?_ | refine T_reg ?_ | refine T_skip ?_ | refine T_exit ?_ | refine T_block ?_ | refine T_cond_t rfl ?_ | refine T_cond_f rfl ?_ | (show wcall _ false (.lit (.func (.func 32) _ _)) _ _ _ _; refine wcall_fn (h32) rfl (by simp [plainL, plain]) ?_) | refine T_ret ?_ | refine wif_intro ?_ (fun hc => ?_) | refine And.intro ?_ ?_ | intro hc) | simp (maxSteps := 4000000) only [wops_nil, wops_cons, wstep_none, wrun_call, wrun_mv, wrun_bin, wrun_not, wrun_load, wrun_store, wrun_faddr, wrun_iaddrS, wrun_alloc, wop, aop, ev, look, put_some, put_none, writes, ores_some, ores_ite_none, binV, thenK, blockK, boolV, value, cut, hget, putCells, AV.parts, isOne, toLits, mkAgg, List.map_cons, List.map_nil, List.length_cons, List.length_nil, List.getElem?_cons_zero, List.set_cons_zero, List.take_succ_cons, List.take_zero, List.take_nil, List.drop_succ_cons, List.drop_zero, List.drop_nil, List.nil_append, List.append_nil, List.append_assoc, List.replicate_zero, List.replicate_succ, List.getD_cons_zero, List.all_cons, List.all_nil, List.length_append, Option.getD_some, Option.map_some, Option.map_none, if_true, if_false, Nat.reduceEqDiff, Nat.reduceAdd, Nat.reduceLT, Nat.add_zero, Nat.zero_add, Nat.le_refl, reduceCtorEq, Bool.not_false, Bool.and_true, Bool.false_eq_true, eq_self, true_and, and_true, and_self, decide_true, freeze, lidsL, lids, List.flatMap_cons, List.flatMap_nil, List.all_cons, ren, Int.toNat_natCast, *] | simp (disch := omega) only [getD_ints, wrapI] | (with_reducible show wcall _ false (.lit (.func (.func 32) _ _)) _ _ _ _; refine wcall_fn (h32) ?_ ?_ ?_; (next => simp [rfyL, rfy, hget, ints, take_rfy, Int.toNat_natCast, renR_sk, plainR_sk, renR_ints]); (next => simp [plainL, plain, plainR, Int.toNat_natCast, renR_sk, plainR_sk, renR_ints])) | omega)
    all_goals first | exact f.down _ rfl rfl
  | true =>
    rw [a1] at h32 hre
    rw [if_neg (by simp)] at hre
    replace hE := PLift.up hE
    replace hre := PLift.up hre
    replace h35 := PLift.up h35
    clear a1
    unfold c8l0
    repeat' (first | (with_reducible first | refine T_seq ?_ | refine T_reg ?_ | refine T_skip ?_ | refine T_exit ?_ | refine T_block ?_ | refine T_cond_t rfl ?_ | refine T_cond_f rfl ?_ | (show wcall _ false (.lit (.func (.func 32) _ _)) _ _ _ _; refine wcall_fn (h32) rfl (by simp [plainL, plain]) ?_) | refine T_ret ?_ | refine wif_intro ?_ (fun hc => ?_) | refine And.intro ?_ ?_ | intro hc) | simp (maxSteps := 4000000) only [wops_nil, wops_cons, wstep_none, wrun_call, wrun_mv, wrun_bin, wrun_not, wrun_load, wrun_store, wrun_faddr, wrun_iaddrS, wrun_alloc, wop, aop, ev, look, put_some, put_none, writes, ores_some, ores_ite_none, binV, thenK, boolV, value, cut, hget, putCells, AV.parts, isOne, toLits, mkAgg, List.map_cons, List.map_nil, List.length_cons, List.length_nil, List.getElem?_cons_zero, List.set_cons_zero, List.take_succ_cons, List.take_zero, List.take_nil, List.drop_succ_cons, List.drop_zero, List.drop_nil, List.nil_append, List.append_nil, List.append_assoc, List.replicate_zero, List.replicate_succ, List.getD_cons_zero, List.all_cons, List.all_nil, List.length_append, Option.getD_some, Option.map_some, Option.map_none, if_true, if_false, Nat.reduceEqDiff, Nat.reduceAdd, Nat.reduceLT, Nat.add_zero, Nat.zero_add, Nat.le_refl, reduceCtorEq, Bool.not_true, Bool.and_true, Bool.false_eq_true, eq_self, true_and, and_true, and_self, decide_true, freeze, lidsL, lids, List.flatMap_cons, List.flatMap_nil, List.all_cons, ren, Int.toNat_natCast, *] | simp (disch := omega) only [getD_ints, wrapI] | (with_reducible show wcall _ false (.lit (.func (.func 32) _ _)) _ _ _ _; refine wcall_fn (h32) ?_ ?_ ?_; (next => simp [rfyL, rfy, hget, ints, take_rfy, Int.toNat_natCast, renR_sk, plainR_sk, renR_ints]); (next => simp [plainL, plain, plainR, Int.toNat_natCast, renR_sk, plainR_sk, renR_ints])) | omega)
    refine wcall_raw ((h33.down _).mono fun r H' hQ => ?_)
    rcases hQ with ⟨hf, rfl, rfl⟩ | ⟨hf, rfl, rfl⟩
    · have h302 := hre.down
      rw [hd1.down hf, if_pos rfl] at h302
      subst h302
      have f := PLift.up (hE.down (by simp))
      clear hE hre hseen hd1 hd2 h33 hf h34 h35
      repeat' (first | (with_reducible first | refine T_seq ?_ | refine T_reg ?_ | refine T_skip ?_ | refine T_exit ?_ | refine T_block ?_ | refine T_cond_t rfl ?_ | refine T_cond_f rfl ?_ | refine T_ret ?_ | refine wif_intro ?_ (fun hc => ?_) | refine And.intro ?_ ?_ | intro hc) | simp (maxSteps := 4000000) only [wops_nil, wops_cons, wstep_none, wrun_mv, wop, aop, ev, look, put_some, writes, ores_some, thenK, blockK, List.length_cons, List.length_nil, List.append_nil, List.replicate_zero, List.length_append, if_true, if_false, Nat.reduceEqDiff, Nat.zero_add, eq_self, *] | simp (disch := omega) only [getD_ints, wrapI] | omega)
      all_goals first | exact f.down _ rfl rfl
    · have h302 := hre.down
      rw [hd2.down hf, if_neg (by simp)] at h302
      have hJ2 := PLift.up (hseen.down (.cells true false 2 [[tx (l.getD k sk0).nm, ints (l.getD k sk0).nil (l.getD k sk0).wr]]))
      have c1 : ∀ v, ((H ++ [Blk.cells true false 2 [[tx (l.getD k sk0).nm, ints (l.getD k sk0).nil (l.getD k sk0).wr]]]).set 0 v)[H.length]? = some (.cells true false 2 [[tx (l.getD k sk0).nm, ints (l.getD k sk0).nil (l.getD k sk0).wr]]) := fun v => by
        rw [List.getElem?_set_ne (by omega), u1]; rfl
      clear hre hseen hd1 hd2 h33 hf
      cases a3 : (((l.getD k sk0).wr.length : Int) != ((l.getD 0 sk0).wr.length : Int)) with
      | true =>
        rw [a3] at h302
        rw [if_pos (by simp)] at h302
        subst h302
        have f := PLift.up (hE.down (by simp))
        clear hE h34 h35
        repeat' (first | (with_reducible first | refine T_seq ?_ | refine T_reg ?_ | refine T_skip ?_ | refine T_exit ?_ | refine T_block ?_ | refine T_cond_t rfl ?_ | refine T_cond_f rfl ?_ | refine T_ret ?_ | refine wif_intro ?_ (fun hc => ?_) | refine And.intro ?_ ?_ | intro hc) | simp (maxSteps := 4000000) only [wops_nil, wops_cons, wstep_none, wstep_some, wguard_tf, wrun_mv, wrun_pick, wrun_bin, wrun_load, wrun_faddr, wrun_len, wop, aop, ev, look, put_some, writes, ores_some, ores_map, ores_bind, binV, thenK, blockK, intV, lenOf, value, cut, hget, mkAgg, List.length_cons, List.length_nil, List.take_succ_cons, List.take_nil, List.drop_succ_cons, List.drop_zero, List.append_nil, List.replicate_zero, List.getD_cons_zero, Option.pure_def, Option.bind_eq_bind, Option.getD_some, Option.map_some, if_true, if_false, Nat.reduceEqDiff, Nat.zero_add, reduceCtorEq, Bool.false_eq_true, eq_self, *] | simp (disch := omega) only [getD_ints, wrapI] | omega)
        all_goals first | exact f.down _ rfl rfl
      | false =>
        rw [a3] at h302
        cases a4 : (decide (1 ≤ ((l.getD 0 sk0).wr.length : Int)) && decide (((l.getD 0 sk0).wr.length : Int) ≤ 40)) with
        | false =>
          rw [a4] at h34 h302
          rw [if_pos (by simp)] at h302
          subst h302
          have f := PLift.up (hE.down (by simp))
          clear hE a4 h35
          repeat' (first | (with_reducible first | refine T_seq ?_ | refine T_reg ?_ | refine T_skip ?_ | refine T_exit ?_ | refine T_block ?_ | refine T_cond_t rfl ?_ | refine T_cond_f rfl ?_ | (show wcall _ false (.lit (.func (.func 34) _ _)) _ _ _ _; refine wcall_fn (h34) rfl (by simp [plainL, plain]) ?_) | refine T_ret ?_ | refine wif_intro ?_ (fun hc => ?_) | refine And.intro ?_ ?_ | intro hc) | simp (maxSteps := 4000000) only [wops_nil, wops_cons, wstep_none, wstep_some, wguard_ff, wrun_call, wrun_mv, wrun_pick, wrun_bin, wrun_not, wrun_load, wrun_faddr, wrun_len, wop, aop, ev, look, put_some, writes, ores_some, ores_map, ores_bind, binV, thenK, blockK, boolV, intV, lenOf, value, cut, hget, mkAgg, List.map_cons, List.map_nil, List.length_cons, List.length_nil, List.take_succ_cons, List.take_nil, List.drop_succ_cons, List.drop_zero, List.append_nil, List.replicate_zero, List.getD_cons_zero, Option.pure_def, Option.bind_eq_bind, Option.getD_some, Option.map_some, if_true, if_false, Nat.reduceEqDiff, Nat.zero_add, reduceCtorEq, Bool.not_false, Bool.false_eq_true, eq_self, freeze, lidsL, lids, List.flatMap_cons, List.flatMap_nil, ren, *] | simp (disch := omega) only [getD_ints, wrapI] | (with_reducible show wcall _ false (.lit (.func (.func 34) _ _)) _ _ _ _; refine wcall_fn (h34) ?_ ?_ ?_; (next => simp [rfyL, rfy, hget, ints, take_rfy, Int.toNat_natCast]); (next => simp [plainL, plain, plainR, Int.toNat_natCast])) | omega)
          all_goals first | exact f.down _ rfl rfl
        | true =>
          rw [a4] at h34 h302
          rw [if_neg (by simp)] at h302
          clear a4
          repeat' (first | (with_reducible first | refine T_seq ?_ | refine T_reg ?_ | refine T_skip ?_ | refine T_exit ?_ | refine T_block ?_ | refine T_cond_t rfl ?_ | refine T_cond_f rfl ?_ | (show wcall _ false (.lit (.func (.func 34) _ _)) _ _ _ _; refine wcall_fn (h34) rfl (by simp [plainL, plain]) ?_) | refine T_ret ?_ | refine wif_intro ?_ (fun hc => ?_) | refine And.intro ?_ ?_ | intro hc) | simp (maxSteps := 4000000) only [wops_nil, wops_cons, wstep_none, wstep_some, wguard_ff, wrun_call, wrun_mv, wrun_pick, wrun_bin, wrun_not, wrun_load, wrun_faddr, wrun_len, wop, aop, ev, look, put_some, writes, ores_some, ores_map, ores_bind, binV, thenK, boolV, intV, lenOf, value, cut, hget, mkAgg, List.map_cons, List.map_nil, List.length_cons, List.length_nil, List.take_succ_cons, List.take_nil, List.drop_succ_cons, List.drop_zero, List.append_nil, List.replicate_zero, List.getD_cons_zero, Option.pure_def, Option.bind_eq_bind, Option.getD_some, Option.map_some, if_true, if_false, Nat.reduceEqDiff, Nat.zero_add, reduceCtorEq, Bool.not_true, Bool.false_eq_true, eq_self, freeze, lidsL, lids, List.flatMap_cons, List.flatMap_nil, ren, *] | simp (disch := omega) only [getD_ints, wrapI] | (with_reducible show wcall _ false (.lit (.func (.func 34) _ _)) _ _ _ _; refine wcall_fn (h34) ?_ ?_ ?_; (next => simp [rfyL, rfy, hget, ints, take_rfy, Int.toNat_natCast]); (next => simp [plainL, plain, plainR, Int.toNat_natCast])) | omega)
          refine wcall_rawfn h35.down (by simp [plainL, plain]) ?_
          clear h35 h34
          cases a5 : (l.getD k sk0).wr.any outW with
          | true =>
            rw [a5, if_pos rfl] at h302
            subst h302
            have f := PLift.up (hE.down (by simp))
            clear hE a5
            repeat' (first | (with_reducible first | refine T_seq ?_ | refine T_reg ?_ | refine T_skip ?_ | refine T_exit ?_ | refine T_block ?_ | refine T_cond_t rfl ?_ | refine T_cond_f rfl ?_ | refine T_ret ?_ | refine wif_intro ?_ (fun hc => ?_) | refine And.intro ?_ ?_ | intro hc) | simp (maxSteps := 4000000) only [wops_nil, wops_cons, wstep_none, wrun_mv, wop, aop, ev, look, put_some, writes, ores_some, thenK, blockK, List.append_nil, List.replicate_zero, if_true, if_false, Nat.reduceEqDiff, eq_self, *] | simp (disch := omega) only [getD_ints, wrapI] | omega)
            all_goals first | exact f.down _ rfl rfl
          | false =>
            rw [a5, if_neg (by simp)] at h302
            subst h302
            clear hE a5
            repeat' (first | (with_reducible first | refine T_seq ?_ | refine T_reg ?_ | refine T_skip ?_ | refine T_exit ?_ | refine T_block ?_ | refine T_cond_t rfl ?_ | refine T_cond_f rfl ?_ | refine T_ret ?_ | refine wif_intro ?_ (fun hc => ?_) | refine And.intro ?_ ?_ | intro hc) | simp (maxSteps := 4000000) only [wops_nil, wops_cons, wstep_none, wrun_mv, wrun_bin, wop, aop, ev, look, put_some, writes, ores_some, binV, thenK, blockK, List.append_nil, List.replicate_zero, Option.map_some, if_true, if_false, Nat.reduceEqDiff, reduceCtorEq, Bool.false_eq_true, eq_self, true_and, *] | simp (disch := omega) only [wrapI] | omega)
            all_goals first | exact hJ2.down | (simp [St.only, get_mk, look]; done)
set_option maxHeartbeats 8000000 in
theorem k8 (nil : Bool) (l : List Sk) (hl : l.length < 1000000) (hsz : ∀ k, k < l.length → (l.getD k sk0).nm.size < 1000000 ∧ (l.getD k sk0).wr.length < 1000000) : Fn Tryz.prog 8 [sts nil l] (.tup [i64 (sN l), i64 (sE l)]) [] := by
  refine fn_of e8 ?_
  have hll := skR_len l
  have hN0 : sE l ≠ 0 → sN l = 0 := fun h => by unfold sN; rw [if_neg h]
  have hN1 : sE l = 0 → sN l = ((l.getD 0 sk0).wr.length : Int) := fun h => by unfold sN; rw [if_pos h]
  by_cases h0 : l.length = 0
  · have hE : sE l = 10 := if_pos h0
    rw [hN0 (by rw [hE]; simp), hE]
    have d1 : ((l.length : Int) == 0) = true := by simp [h0]
    clear hE h0 hsz hN0 hN1
    unfold c8
    repeat' (first | (with_reducible first | refine T_seq ?_ | refine T_reg ?_ | refine T_skip ?_ | refine T_exit ?_ | refine T_block ?_ | refine T_cond_t rfl ?_ | refine T_cond_f rfl ?_ | refine T_ret ?_ | refine leave_of (.inr rfl) _ rfl ?_ | refine leave_of (.inl rfl) _ rfl ?_ | refine wif_intro ?_ (fun hc => ?_) | refine And.intro ?_ ?_ | intro hc) | simp (maxSteps := 4000000) only [wops_nil, wops_cons, wstep_none, wrun_mv, wrun_bin, wrun_len, get_mk, wop, aop, ev, look, put_some, writes, ores_some, ores_map, ores_bind, binV, thenK, blockK, intV, lenOf, hget, tupOf, List.map_cons, List.map_nil, List.length_nil, List.append_nil, List.replicate_zero, List.zipIdx_cons, List.zipIdx_nil, Option.pure_def, Option.bind_eq_bind, Option.map_some, if_true, if_false, Nat.reduceEqDiff, Nat.zero_add, reduceCtorEq, eq_self, ren, renL, *] | simp (disch := omega) only [getD_ints, wrapI] | omega)
    all_goals first | rfl
  have d1 : ((l.length : Int) == 0) = false := by simp only [beq_eq_false_iff_ne]; omega
  by_cases h309 : l.length > 12
  · have hE : sE l = 8 := by unfold sE; rw [if_neg h0, if_pos h309]
    rw [hN0 (by rw [hE]; simp), hE]
    have d2 : decide ((l.length : Int) > 12) = true := decide_eq_true (by omega)
    clear hE h0 h309 hsz hN0 hN1
    unfold c8
    repeat' (first | (with_reducible first | refine T_seq ?_ | refine T_reg ?_ | refine T_skip ?_ | refine T_exit ?_ | refine T_block ?_ | refine T_cond_t rfl ?_ | refine T_cond_f rfl ?_ | refine T_ret ?_ | refine leave_of (.inr rfl) _ rfl ?_ | refine leave_of (.inl rfl) _ rfl ?_ | refine wif_intro ?_ (fun hc => ?_) | refine And.intro ?_ ?_ | intro hc) | simp (maxSteps := 4000000) only [wops_nil, wops_cons, wstep_none, wrun_mv, wrun_bin, wrun_len, get_mk, wop, aop, ev, look, put_some, writes, ores_some, ores_map, ores_bind, binV, thenK, blockK, intV, lenOf, hget, tupOf, List.map_cons, List.map_nil, List.length_nil, List.append_nil, List.replicate_zero, List.zipIdx_cons, List.zipIdx_nil, Option.pure_def, Option.bind_eq_bind, Option.map_some, if_true, if_false, Nat.reduceEqDiff, Nat.zero_add, reduceCtorEq, eq_self, ren, renL, *] | simp (disch := omega) only [getD_ints, wrapI] | omega)
    all_goals first | rfl
  have d2 : decide ((l.length : Int) > 12) = false := decide_eq_false (by omega)
  have hE : sE l = fe (sErr l) l.length := by unfold sE; rw [if_neg h0, if_neg h309]
  have hret : ∀ τ, τ.get 2 = i64 (sN l) → τ.get 3 = i64 (sE l) → leave 0 [.tmp 2, .tmp 3] (fun r' H' => r' = .tup [i64 (sN l), i64 (sE l)] ∧ H' = []) .ret τ := fun τ h h' => leave_of (.inr rfl) [i64 (sN l), i64 (sE l)] (by simp [resL, resAV, h, h']) ⟨rfl, rfl⟩
  have hrow := fun k hk H hJ K hE => k8l0 (nil := nil) (H := H) hl hsz (k := k) hk hJ K hE
  have hbad : ∀ k, k < l.length → fe (sErr l) k = 0 → sErr l k ≠ 0 → sE l = sErr l k ∧ sN l = 0 := fun k hk h1 h2 => by
    have : sE l = sErr l k := by rw [hE]; exact fe_stop h1 h2 _ hk
    exact ⟨this, hN0 (by rw [this]; exact h2)⟩
  have hend : fe (sErr l) l.length = 0 → sE l = 0 ∧ sN l = ((l.getD 0 sk0).wr.length : Int) := fun h => ⟨by rw [hE, h], hN1 (by rw [hE, h])⟩
  have hJ0 : J101 l 0 [.obj (.smap .str [])] := ⟨_, rfl, fun b => .inr ⟨rfl, fun ⟨j, hj, _⟩ => by omega⟩⟩
  have g0 := skR_get (l := l) (k := 0) (by omega)
  have hl0 : (0 : Int) < (l.length : Int) := by omega
  have hw0 : ((l.getD 0 sk0).wr.map fun x => [i64 x]).length = (l.getD 0 sk0).wr.length := by simp
  generalize sE l = E at *
  generalize sN l = N at *
  replace hret := PLift.up hret
  replace hrow := PLift.up hrow
  replace hbad := PLift.up hbad
  replace hend := PLift.up hend
  replace hJ0 := PLift.up hJ0
  clear hE hN0 hN1 hsz h309 h0
  unfold c8
  repeat' (first | (with_reducible first | refine T_seq ?_ | refine T_reg ?_ | refine T_skip ?_ | refine T_exit ?_ | refine T_block ?_ | refine T_cond_t rfl ?_ | refine T_cond_f rfl ?_ | refine T_ret ?_ | refine leave_of (.inr rfl) _ rfl ?_ | refine leave_of (.inl rfl) _ rfl ?_ | refine wif_intro ?_ (fun hc => ?_) | refine And.intro ?_ ?_ | intro hc) | simp (maxSteps := 4000000) only [wops_nil, wops_cons, wstep_none, wrun_mv, wrun_bin, wrun_load, wrun_faddr, wrun_iaddrS, wrun_len, wrun_mkmap, wop, aop, ev, look, put_some, writes, ores_some, ores_ite_none, ores_map, ores_bind, binV, thenK, blockK, intV, lenOf, value, cut, hget, mkAgg, List.map_cons, List.map_nil, List.length_cons, List.length_nil, List.getElem?_cons_zero, List.set_cons_zero, List.take_succ_cons, List.take_nil, List.drop_succ_cons, List.drop_zero, List.nil_append, List.append_nil, List.replicate_zero, List.replicate_succ, List.zipIdx_cons, List.zipIdx_nil, Option.pure_def, Option.bind_eq_bind, Option.map_some, if_true, if_false, Nat.reduceEqDiff, Nat.add_zero, Nat.zero_add, reduceCtorEq, Bool.false_eq_true, eq_self, true_and, and_true, and_self, Int.toNat_zero, *] | simp (disch := omega) only [getD_ints, wrapI] | omega)
  refine T_forP [4, 5, 22, 23, 24] (SL101 nil l) l.length (fun k H => J101 l k H ∧ fe (sErr l) k = 0) 0 ?_ ⟨hJ0.down, rfl⟩ (Nat.zero_le _) ?_
  · simp [St.only, get_mk, look]
  intro k H hk ⟨hJ, hI⟩
  by_cases hkn : k < l.length
  · refine T_thenR (hrow.down k hkn H hJ _ fun hne τ t2 t3 => ?_) fun s' hs => ⟨hkn, ⟨hs.2.1, fe_next hI hs.1⟩, hs.2.2⟩
    have h306 := hbad.down k hkn hI hne
    exact hret.down τ (by rw [h306.2]; exact t2) (by rw [h306.1]; exact t3)
  · have hke : k = l.length := by omega
    subst hke
    have h306 := hend.down hI
    rw [h306.1, h306.2]
    clear hI hrow hret hbad hend h306 hJ hJ0
    unfold c8l0
    repeat' (first | (with_reducible first | refine T_seq ?_ | refine T_reg ?_ | refine T_skip ?_ | refine T_exit ?_ | refine T_block ?_ | refine T_cond_t rfl ?_ | refine T_cond_f rfl ?_ | ((first | refine T_cond rfl (fun hc => ?_) (fun hc => ?_) | refine wguard_split (fun hc => ?_) (fun hc => ?_)) <;> have hd := hc <;> (try simp (disch := omega) only [wrapI] at hd) <;> have hs := hd <;> (try simp only [decide_eq_true_eq, decide_eq_false_iff_not, Int.not_lt] at hd) <;> (try simp at hs)) | refine T_ret ?_ | refine leave_of (.inr rfl) _ rfl ?_ | refine leave_of (.inl rfl) _ rfl ?_ | refine wif_intro ?_ (fun hc => ?_) | refine And.intro ?_ ?_ | intro hc) | simp (maxSteps := 4000000) only [wops_nil, wops_cons, wstep_none, wrun_mv, wrun_bin, get_mk, wop, aop, ev, look, put_some, writes, ores_some, binV, thenK, blockK, tupOf, List.append_nil, List.replicate_zero, Option.map_some, if_true, if_false, Nat.reduceEqDiff, reduceCtorEq, eq_self, false_and, ren, renL, Int.toNat_natCast, *] | simp (disch := omega) only [getD_ints, wrapI] | omega)
    all_goals first | rfl
end Go.Abs
