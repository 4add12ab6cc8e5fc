import Derived.Test.YtodheeifecoebaaK268x
set_option linter.all false
set_option linter.unusedVariables false
set_option linter.unusedSimpArgs false
set_option linter.unusedSectionVars false
namespace Go.Abs
open Go.Proofs
/-! CheckLoop -/
theorem any_getD {p : Int → Bool} {l : List Int} : l.any p = true ↔ ∃ k, k < l.length ∧ p (l.getD k 0) = true := by
  rw [List.any_eq_true]
  constructor
  · rintro ⟨x, hx, hp⟩
    obtain ⟨k, hk, rfl⟩ := List.mem_iff_getElem.1 hx
    exact ⟨k, hk, by rw [List.getD_eq_getElem?_getD, List.getElem?_eq_getElem hk]; exact hp⟩
  · rintro ⟨k, hk, hp⟩
    rw [List.getD_eq_getElem?_getD, List.getElem?_eq_getElem hk] at hp
    exact ⟨_, List.getElem_mem hk, hp⟩
set_option maxHeartbeats 8000000 in
theorem k47 (w : Int) (nil nl : Bool) (ph l : List Int) (hl : ph.length < 1000000) (hll : l.length < 1000000) (hc : checkFr w ph = 0) (hp : okPh ph) (hw : 1 ≤ w ∧ w ≤ 1000000) : Fn Try.prog 47 [fmap w nil ph, ints nl l] (.tup [i64 (chkLp w ph l).1, i64 (chkLp w ph l).2]) [] := by
  refine fn_of e47 ?_
  have hl2 : ph.length < 4611686018427387904 := by omega
  have h62 := k62 w nil ph hl2
  rw [hc] at h62
  have e1 : (l.map fun x => [i64 x]).length = l.length := by simp
  have h92 := k92 (l.length : Int) 2 144
  clear hc
  by_cases hn : 2 ≤ l.length ∧ l.length ≤ 144
  · rw [show (decide (2 ≤ (l.length : Int)) && decide ((l.length : Int) ≤ 144)) = true by simp; omega] at h92
    have h90 := k90d (H := [.cells true false 2 [[i64 w, ints nil ph]], .cells true false 2 [[i64 w, ints nil ph]]]) (first := []) (cap := [.loc 1 0 0]) nl l (by omega) (fun x => k111 x hl2 rfl)
    replace h90 := PLift.up h90
    unfold c47
    repeat' (first
      | ((with_reducible refine T_calm ?_ ?_); rfl)
      | with_reducible first
        | refine T_seq ?_
        | refine T_reg ?_
        | refine T_draw ?_
        | refine T_skip ?_
        | refine T_exit ?_
        | refine T_block ?_
        | refine T_cond_t rfl ?_
        | refine T_cond_f rfl ?_
        | refine wdW_cons rfl ?_
        | (show wcall _ false (.lit (.func (.func 62) _ _)) _ _ _ _; refine wcall_fn (h62) rfl (by simp [plainL, plain]) ?_)
        | (show wcallX _ false (.lit (.func (.func 62) _ _)) _ _ _ _; refine wcallX_fn (h62) rfl (by simp [plainL, plain, plainR, e1]) ?_)
        | (show wcall _ false (.lit (.func (.func 92) _ _)) _ _ _ _; refine wcall_fn (h92) rfl (by simp [plainL, plain]) ?_)
        | (show wcallX _ false (.lit (.func (.func 92) _ _)) _ _ _ _; refine wcallX_fn (h92) rfl (by simp [plainL, plain, plainR, e1]) ?_)
        | ((first | refine T_cond rfl (fun hc => ?_) (fun hc => ?_) | refine wguard_split (fun hc => ?_) (fun hc => ?_) | refine wguardX_split (fun hc => ?_) (fun hc => ?_)) <;> have hd := hc <;> (try simp (disch := omega) only [wrapI] at hd) <;> have hs := hd <;> (try simp only [Bool.not_eq_true', Bool.not_eq_false', Bool.and_eq_true, Bool.and_eq_false_iff, Bool.or_eq_true, Bool.or_eq_false_iff, decide_eq_true_eq, decide_eq_false_iff_not, beq_iff_eq, bne_iff_ne, beq_eq_false_iff_ne, bne_eq_false_iff_eq, Bool.not_true, Bool.not_false, gt_iff_lt, ge_iff_le, Int.not_lt, Int.not_le, ne_eq, Decidable.not_not] at hd) <;> (try simp at hs))
        | refine T_ret ?_
        | refine leave_of (.inr rfl) _ rfl ?_
        | refine leave_of (.inl rfl) _ rfl ?_
        | refine leaveA_of (.inr rfl) _ rfl ?_
        | refine leaveA_of (.inl rfl) _ rfl ?_
        | refine wif_intro ?_ (fun hc => ?_)
        | refine And.intro ?_ ?_
        | intro hc
      | simp (maxSteps := 4000000) only [wops_nil, wops_cons, wstep_none, wrun_call, wrun_mv, wrun_bin, wrun_not, wrun_load, wrun_store, wrun_len, wrun_mkf, wrun_alloc, wrun_box, wop, aop, ev, look, put_some, put_none, writes, ores_some, ores_map, ores_bind, binV, thenK, boolV, intV, lenOf, value, cut, hget, putCells, AV.parts, isOne, toLits, mkAgg, List.map_cons, List.map_nil, List.length_cons, List.length_nil, List.getElem?_cons_zero, List.getElem?_cons_succ, List.set_cons_zero, List.set_cons_succ, List.take_succ_cons, List.take_zero, List.take_nil, List.drop_succ_cons, List.drop_zero, List.drop_nil, List.cons_append, List.nil_append, List.append_nil, List.append_assoc, List.replicate_zero, List.replicate_succ, List.getD_cons_zero, List.zipIdx_cons, List.zipIdx_nil, List.all_cons, List.all_nil, Option.pure_def, Option.bind_eq_bind, Option.getD_some, Option.map_some, Option.map_none, if_true, if_false, Nat.reduceEqDiff, Nat.reduceAdd, Nat.reduceLT, Nat.add_zero, Nat.zero_add, Nat.le_refl, Nat.zero_ne_one, reduceCtorEq, Bool.not_true, Bool.and_true, eq_self, true_and, and_self, freeze, lidsL, lids, List.flatMap_cons, List.flatMap_nil, List.all_cons, ren, *]
      | simp (disch := omega) only [getD_ints, wrapI]
      | (with_reducible show wcall _ false (.lit (.func (.func 62) _ _)) _ _ _ _; refine wcall_fn (h62) ?_ ?_ ?_; (next => simp [rfyL, rfy, hget, ints, take_rfy, e1]); (next => simp [plainL, plain, plainR, e1]))
      | (with_reducible show wcallX _ false (.lit (.func (.func 62) _ _)) _ _ _ _; refine wcallX_fn (h62) ?_ ?_ ?_; (next => simp [rfyL, rfy, hget, ints, take_rfy, e1]); (next => simp [plainL, plain, plainR, e1]))
      | (with_reducible show wcall _ false (.lit (.func (.func 92) _ _)) _ _ _ _; refine wcall_fn (h92) ?_ ?_ ?_; (next => simp [rfyL, rfy, hget, ints, take_rfy, e1]); (next => simp [plainL, plain, plainR, e1]))
      | (with_reducible show wcallX _ false (.lit (.func (.func 92) _ _)) _ _ _ _; refine wcallX_fn (h92) ?_ ?_ ?_; (next => simp [rfyL, rfy, hget, ints, take_rfy, e1]); (next => simp [plainL, plain, plainR, e1]))
      | omega)
    refine wcall_raw (h90.down.mono ?_)
    rintro r H' ⟨rfl, rfl⟩
    clear h90
    cases ha : l.any fun x => !thereB ph x with
    | true =>
      have hls : chkLp w ph l = (0, 6) := by
        obtain ⟨k, hk, hb⟩ := any_getD.1 ha
        have : loopSum w ph l = (0, 6) := by
          unfold loopSum
          rw [if_neg (fun h => h hn), if_pos (fun h => by rw [h k hk] at hb; simp at hb)]
        unfold chkLp; rw [this]; rfl
      rw [hls]
      repeat' (first
        | ((with_reducible refine T_calm ?_ ?_); rfl)
        | with_reducible first
          | refine T_seq ?_
          | refine T_reg ?_
          | refine T_draw ?_
          | refine T_skip ?_
          | refine T_exit ?_
          | refine T_block ?_
          | refine T_cond_t rfl ?_
          | refine T_cond_f rfl ?_
          | refine wdW_cons rfl ?_
          | ((first | refine T_cond rfl (fun hc => ?_) (fun hc => ?_) | refine wguard_split (fun hc => ?_) (fun hc => ?_) | refine wguardX_split (fun hc => ?_) (fun hc => ?_)) <;> have hd := hc <;> (try simp (disch := omega) only [wrapI] at hd) <;> have hs := hd <;> (try simp only [Bool.not_eq_true', Bool.not_eq_false', Bool.and_eq_true, Bool.and_eq_false_iff, Bool.or_eq_true, Bool.or_eq_false_iff, decide_eq_true_eq, decide_eq_false_iff_not, beq_iff_eq, bne_iff_ne, beq_eq_false_iff_ne, bne_eq_false_iff_eq, Bool.not_true, Bool.not_false, gt_iff_lt, ge_iff_le, Int.not_lt, Int.not_le, ne_eq, Decidable.not_not] at hd) <;> (try simp at hs))
          | refine T_ret ?_
          | refine leave_of (.inr rfl) _ rfl ?_
          | refine leave_of (.inl rfl) _ rfl ?_
          | refine leaveA_of (.inr rfl) _ rfl ?_
          | refine leaveA_of (.inl rfl) _ rfl ?_
          | refine wif_intro ?_ (fun hc => ?_)
          | refine And.intro ?_ ?_
          | intro hc
        | simp (maxSteps := 4000000) only [wops_nil, wops_cons, wstep_none, wrun_mv, get_mk, wop, aop, ev, look, put_some, writes, ores_some, thenK, tupOf, List.length_cons, List.length_nil, List.append_nil, List.replicate_zero, if_true, if_false, Nat.reduceEqDiff, Nat.reduceAdd, Nat.zero_add, reduceCtorEq, eq_self, ren, renL, *]
        | simp (disch := omega) only [getD_ints, wrapI]
        | omega)
      all_goals first | rfl
    | false =>
      have hall : ∀ j, j < l.length → thereB ph (l.getD j 0) = true := fun j hj => by
        cases ht : thereB ph (l.getD j 0) with
        | true => rfl
        | false =>
          have : (l.any fun x => !thereB ph x) = true := any_getD.2 ⟨j, hj, by simp only [ht]; rfl⟩
          rw [ha] at this; simp at this
      have hrng : ∀ j, j < l.length → 0 ≤ l.getD j 0 ∧ l.getD j 0 < ph.length := fun j hj => thereB_r (hall j hj)
      replace hall := PLift.up hall
      replace hrng := PLift.up hrng
      clear ha
      repeat' (first
        | ((with_reducible refine T_calm ?_ ?_); rfl)
        | with_reducible first
          | refine T_seq ?_
          | refine T_reg ?_
          | refine T_draw ?_
          | refine T_skip ?_
          | refine T_exit ?_
          | refine T_block ?_
          | refine T_cond_t rfl ?_
          | refine T_cond_f rfl ?_
          | refine wdW_cons rfl ?_
          | ((first | refine T_cond rfl (fun hc => ?_) (fun hc => ?_) | refine wguard_split (fun hc => ?_) (fun hc => ?_) | refine wguardX_split (fun hc => ?_) (fun hc => ?_)) <;> have hd := hc <;> (try simp (disch := omega) only [wrapI] at hd) <;> have hs := hd <;> (try simp only [Bool.not_eq_true', Bool.not_eq_false', Bool.and_eq_true, Bool.and_eq_false_iff, Bool.or_eq_true, Bool.or_eq_false_iff, decide_eq_true_eq, decide_eq_false_iff_not, beq_iff_eq, bne_iff_ne, beq_eq_false_iff_ne, bne_eq_false_iff_eq, Bool.not_true, Bool.not_false, gt_iff_lt, ge_iff_le, Int.not_lt, Int.not_le, ne_eq, Decidable.not_not] at hd) <;> (try simp at hs))
          | refine T_ret ?_
          | refine leave_of (.inr rfl) _ rfl ?_
          | refine leave_of (.inl rfl) _ rfl ?_
          | refine leaveA_of (.inr rfl) _ rfl ?_
          | refine leaveA_of (.inl rfl) _ rfl ?_
          | refine wif_intro ?_ (fun hc => ?_)
          | refine And.intro ?_ ?_
          | intro hc
        | simp (maxSteps := 4000000) only [wops_nil, wops_cons, wstep_none, wrun_mv, wrun_len, wop, aop, ev, look, put_some, writes, ores_some, ores_map, ores_bind, thenK, intV, lenOf, hget, List.length_cons, List.length_nil, List.append_nil, List.replicate_zero, Option.pure_def, Option.bind_eq_bind, if_true, if_false, Nat.reduceEqDiff, Nat.reduceAdd, Nat.zero_add, Nat.zero_ne_one, reduceCtorEq, eq_self, *]
        | simp (disch := omega) only [getD_ints, wrapI]
        | omega)
      refine T_for [1, 7, 24, 25, 26] (fun k => ⟨[(1, ints nl l), (7, .loc 1 0 0), (24, ints nl l), (25, i64 l.length), (26, i64 k)], [.cells true false 2 [[i64 w, ints nil ph]], .cells true false 2 [[i64 w, ints nil ph]]]⟩) l.length (fun k => ∀ j, j < k → besL w l j = true) 0 rfl (fun j hj => by omega) (Nat.zero_le _) ?_
      intro k hk hI
      replace hI := PLift.up hI
      unfold c47l0
      by_cases hkn : k < l.length
      · have h1 := hrng.down k hkn
        have h3 := Nat.mod_lt (k + 1) (show 0 < l.length by omega)
        have h2 := hrng.down ((k + 1) % l.length) h3
        have e2 : ((k : Int) + 1).tmod (l.length : Int) = (((k + 1) % l.length : Nat) : Int) := tmod_nat (k + 1) l.length
        have h112 := k112 w nil ph (l.getD k 0) (l.getD ((k + 1) % l.length) 0) hw (by omega) (by omega)
        have g1 : (l.map fun x => [i64 x]).getD k [] = [i64 (l.getD k 0)] := getD_ints hkn
        have g2 : (l.map fun x => [i64 x]).getD ((k + 1) % l.length) [] = [i64 (l.getD ((k + 1) % l.length) 0)] := getD_ints h3
        cases hb2 : besL w l k with
        | false =>
          rw [show besideB w (l.getD k 0) (l.getD ((k + 1) % l.length) 0) = false from hb2] at h112
          have hls2 : chkLp w ph l = (0, 14) := by
            have : loopSum w ph l = (0, 14) := by
              unfold loopSum
              rw [if_neg (fun h => h hn), if_neg (fun h => h hall.down), if_pos (fun h => by rw [h k hkn] at hb2; simp at hb2)]
            unfold chkLp; rw [this]; rfl
          rw [hls2]
          repeat' (first
            | ((with_reducible refine T_calm ?_ ?_); rfl)
            | with_reducible first
              | refine T_seq ?_
              | refine T_reg ?_
              | refine T_draw ?_
              | refine T_skip ?_
              | refine T_exit ?_
              | refine T_block ?_
              | refine T_cond_t rfl ?_
              | refine T_cond_f rfl ?_
              | refine wdW_cons rfl ?_
              | (show wcall _ false (.lit (.func (.func 112) _ _)) _ _ _ _; refine wcall_fn (h112) rfl (by simp [plainL, plain, plainR, e1, e2, Int.toNat_natCast]) ?_)
              | (show wcallX _ false (.lit (.func (.func 112) _ _)) _ _ _ _; refine wcallX_fn (h112) rfl (by simp [plainL, plain]) ?_)
              | ((first | refine T_cond rfl (fun hc => ?_) (fun hc => ?_) | refine wguard_split (fun hc => ?_) (fun hc => ?_) | refine wguardX_split (fun hc => ?_) (fun hc => ?_)) <;> have hd := hc <;> (try simp (disch := omega) only [wrapI] at hd) <;> have hs := hd <;> (try simp only [decide_eq_true_eq, decide_eq_false_iff_not, Int.not_lt] at hd) <;> (try simp at hs))
              | refine T_ret ?_
              | refine leave_of (.inr rfl) _ rfl ?_
              | refine leave_of (.inl rfl) _ rfl ?_
              | refine leaveA_of (.inr rfl) _ rfl ?_
              | refine leaveA_of (.inl rfl) _ rfl ?_
              | refine wif_intro ?_ (fun hc => ?_)
              | refine And.intro ?_ ?_
              | intro hc
            | simp (maxSteps := 4000000) only [wops_nil, wops_cons, wstep_none, wrun_call, wrun_mv, wrun_bin, wrun_not, wrun_load, wrun_iaddrS, wrun_len, wrunX_mv, wrunX_bin, wrunX_not, wrunX_load, wrunX_iaddrS, wrunX_len, wdW_nil, wstepX_none, wrunX_call, get_mk, wop, aop, ev, look, put_some, writes, ores_some, ores_ite_none, ores_none_ite, ores_map, binV, thenK, blockK, boolV, intV, lenOf, value, cut, hget, toLits, mkAgg, tupOf, List.map_cons, List.map_nil, List.length_cons, List.length_nil, List.getElem?_cons_zero, List.getElem?_cons_succ, List.take_succ_cons, List.take_nil, List.drop_zero, List.append_nil, List.replicate_zero, List.getD_cons_zero, Option.pure_def, Option.bind_eq_bind, Option.getD_some, Option.map_some, Option.map_none, Option.bind_some, if_true, if_false, Nat.reduceEqDiff, Nat.reduceAdd, Nat.zero_add, reduceCtorEq, Bool.not_false, Bool.false_eq_true, eq_self, true_and, and_true, and_self, decide_true, freeze, lidsL, lids, List.flatMap_cons, List.flatMap_nil, ren, renL, Int.toNat_natCast, *]
            | simp (disch := omega) only [getD_ints, wrapI]
            | (with_reducible show wcall _ false (.lit (.func (.func 112) _ _)) _ _ _ _; refine wcall_fn (h112) ?_ ?_ ?_; (next => simp [rfyL, rfy, hget, ints, take_rfy, e1, e2, Int.toNat_natCast]); (next => simp [plainL, plain, plainR, e1, e2, Int.toNat_natCast]))
            | (with_reducible show wcallX _ false (.lit (.func (.func 112) _ _)) _ _ _ _; refine wcallX_fn (h112) ?_ ?_ ?_; (next => simp [rfyL, rfy, hget, ints, take_rfy, e1, e2, Int.toNat_natCast]); (next => simp [plainL, plain, plainR, e1, e2, Int.toNat_natCast]))
            | omega)
          all_goals first | rfl
        | true =>
          rw [show besideB w (l.getD k 0) (l.getD ((k + 1) % l.length) 0) = true from hb2] at h112
          have hI2 : ∀ j, j < k + 1 → besL w l j = true := fun j hj => by
            rcases Nat.lt_succ_iff_lt_or_eq.1 hj with h | h
            · exact hI.down j h
            · rw [h]; exact hb2
          replace hI2 := PLift.up hI2
          repeat' (first
            | ((with_reducible refine T_calm ?_ ?_); rfl)
            | with_reducible first
              | refine T_seq ?_
              | refine T_reg ?_
              | refine T_draw ?_
              | refine T_skip ?_
              | refine T_exit ?_
              | refine T_block ?_
              | refine T_cond_t rfl ?_
              | refine T_cond_f rfl ?_
              | refine wdW_cons rfl ?_
              | (show wcall _ false (.lit (.func (.func 112) _ _)) _ _ _ _; refine wcall_fn (h112) rfl (by simp [plainL, plain, plainR, e1, e2, Int.toNat_natCast]) ?_)
              | (show wcallX _ false (.lit (.func (.func 112) _ _)) _ _ _ _; refine wcallX_fn (h112) rfl (by simp [plainL, plain]) ?_)
              | ((first | refine T_cond rfl (fun hc => ?_) (fun hc => ?_) | refine wguard_split (fun hc => ?_) (fun hc => ?_) | refine wguardX_split (fun hc => ?_) (fun hc => ?_)) <;> have hd := hc <;> (try simp (disch := omega) only [wrapI] at hd) <;> have hs := hd <;> (try simp only [decide_eq_true_eq, decide_eq_false_iff_not, Int.not_lt] at hd) <;> (try simp at hs))
              | refine T_ret ?_
              | refine leave_of (.inr rfl) _ rfl ?_
              | refine leave_of (.inl rfl) _ rfl ?_
              | refine leaveA_of (.inr rfl) _ rfl ?_
              | refine leaveA_of (.inl rfl) _ rfl ?_
              | refine wif_intro ?_ (fun hc => ?_)
              | refine And.intro ?_ ?_
              | intro hc
            | simp (maxSteps := 4000000) only [wops_nil, wops_cons, wstep_none, wrun_call, wrun_mv, wrun_bin, wrun_not, wrun_load, wrun_iaddrS, wrun_len, wrunX_mv, wrunX_bin, wrunX_not, wrunX_load, wrunX_iaddrS, wrunX_len, wdW_nil, wstepX_none, wrunX_call, wop, aop, ev, look, put_some, writes, ores_some, ores_ite_none, ores_none_ite, ores_map, binV, thenK, blockK, boolV, intV, lenOf, value, cut, hget, toLits, mkAgg, List.map_cons, List.map_nil, List.length_cons, List.length_nil, List.getElem?_cons_zero, List.getElem?_cons_succ, List.take_succ_cons, List.take_nil, List.drop_zero, List.append_nil, List.replicate_zero, List.getD_cons_zero, Option.pure_def, Option.bind_eq_bind, Option.getD_some, Option.map_some, Option.map_none, Option.bind_some, if_true, if_false, Nat.reduceEqDiff, Nat.reduceAdd, Nat.zero_add, reduceCtorEq, Bool.not_true, Bool.false_eq_true, eq_self, true_and, and_true, and_self, decide_true, freeze, lidsL, lids, List.flatMap_cons, List.flatMap_nil, ren, Int.toNat_natCast, *]
            | simp (disch := omega) only [getD_ints, wrapI]
            | (with_reducible show wcall _ false (.lit (.func (.func 112) _ _)) _ _ _ _; refine wcall_fn (h112) ?_ ?_ ?_; (next => simp [rfyL, rfy, hget, ints, take_rfy, e1, e2, Int.toNat_natCast]); (next => simp [plainL, plain, plainR, e1, e2, Int.toNat_natCast]))
            | (with_reducible show wcallX _ false (.lit (.func (.func 112) _ _)) _ _ _ _; refine wcallX_fn (h112) ?_ ?_ ?_; (next => simp [rfyL, rfy, hget, ints, take_rfy, e1, e2, Int.toNat_natCast]); (next => simp [plainL, plain, plainR, e1, e2, Int.toNat_natCast]))
            | omega)
          all_goals first | exact hI2.down _ (by assumption) | exact rfl
      · have hk2 : k = l.length := by omega
        subst hk2
        have h113 := k113 w nil nl ph l hl hll hp hrng.down
        have hls3 : loopSum w ph l = (sumL ph l l.length, 0) := by
          unfold loopSum
          rw [if_neg (fun h => h hn), if_neg (fun h => h hall.down), if_neg (fun h => h hI.down)]
        have hch : chkLp w ph l = if sumL ph l l.length = 0 then (0, 22) else (sumL ph l l.length, 0) := by
          unfold chkLp; rw [hls3]; simp
        rw [hch]
        clear hls3 hch hI hall hrng
        by_cases hz : sumL ph l l.length = 0
        · rw [if_pos hz]
          rw [hz] at h113
          repeat' (first
            | ((with_reducible refine T_calm ?_ ?_); rfl)
            | with_reducible first
              | refine T_seq ?_
              | refine T_reg ?_
              | refine T_draw ?_
              | refine T_skip ?_
              | refine T_exit ?_
              | refine T_block ?_
              | refine T_cond_t rfl ?_
              | refine T_cond_f rfl ?_
              | refine wdW_cons rfl ?_
              | (show wcall _ false (.lit (.func (.func 113) _ _)) _ _ _ _; refine wcall_fn (h113) rfl (by simp [plainL, plain]) ?_)
              | (show wcallX _ false (.lit (.func (.func 113) _ _)) _ _ _ _; refine wcallX_fn (h113) rfl (by simp [plainL, plain, plainR, e1]) ?_)
              | ((first | refine T_cond rfl (fun hc => ?_) (fun hc => ?_) | refine wguard_split (fun hc => ?_) (fun hc => ?_) | refine wguardX_split (fun hc => ?_) (fun hc => ?_)) <;> have hd := hc <;> (try simp (disch := omega) only [wrapI] at hd) <;> have hs := hd <;> (try simp only [decide_eq_true_eq, decide_eq_false_iff_not, Int.not_lt] at hd) <;> (try simp at hs))
              | refine T_ret ?_
              | refine leave_of (.inr rfl) _ rfl ?_
              | refine leave_of (.inl rfl) _ rfl ?_
              | refine leaveA_of (.inr rfl) _ rfl ?_
              | refine leaveA_of (.inl rfl) _ rfl ?_
              | refine wif_intro ?_ (fun hc => ?_)
              | refine And.intro ?_ ?_
              | intro hc
            | simp (maxSteps := 4000000) only [wops_nil, wops_cons, wstep_none, wrun_call, wrun_mv, wrun_bin, wrun_load, get_mk, wop, aop, ev, look, put_some, writes, ores_some, binV, thenK, blockK, value, cut, hget, toLits, mkAgg, tupOf, List.map_cons, List.map_nil, List.length_cons, List.length_nil, List.getElem?_cons_zero, List.getElem?_cons_succ, List.take_succ_cons, List.take_nil, List.drop_zero, List.append_nil, List.replicate_zero, List.getD_cons_zero, Option.getD_some, Option.map_some, Option.map_none, if_true, if_false, Nat.reduceEqDiff, Nat.reduceAdd, Nat.zero_add, reduceCtorEq, eq_self, false_and, beq_self_eq_true, freeze, lidsL, lids, List.flatMap_cons, List.flatMap_nil, ren, renL, *]
            | simp (disch := omega) only [getD_ints, wrapI]
            | (with_reducible show wcall _ false (.lit (.func (.func 113) _ _)) _ _ _ _; refine wcall_fn (h113) ?_ ?_ ?_; (next => simp [rfyL, rfy, hget, ints, take_rfy, e1]); (next => simp [plainL, plain, plainR, e1]))
            | (with_reducible show wcallX _ false (.lit (.func (.func 113) _ _)) _ _ _ _; refine wcallX_fn (h113) ?_ ?_ ?_; (next => simp [rfyL, rfy, hget, ints, take_rfy, e1]); (next => simp [plainL, plain, plainR, e1]))
            | omega)
          all_goals first | rfl
        · rw [if_neg hz]
          have hzb : (sumL ph l l.length == 0) = false := by simp only [beq_eq_false_iff_ne]; exact hz
          clear hz
          repeat' (first
            | ((with_reducible refine T_calm ?_ ?_); rfl)
            | with_reducible first
              | refine T_seq ?_
              | refine T_reg ?_
              | refine T_draw ?_
              | refine T_skip ?_
              | refine T_exit ?_
              | refine T_block ?_
              | refine T_cond_t rfl ?_
              | refine T_cond_f rfl ?_
              | refine wdW_cons rfl ?_
              | (show wcall _ false (.lit (.func (.func 113) _ _)) _ _ _ _; refine wcall_fn (h113) rfl (by simp [plainL, plain]) ?_)
              | (show wcallX _ false (.lit (.func (.func 113) _ _)) _ _ _ _; refine wcallX_fn (h113) rfl (by simp [plainL, plain, plainR, e1]) ?_)
              | ((first | refine T_cond rfl (fun hc => ?_) (fun hc => ?_) | refine wguard_split (fun hc => ?_) (fun hc => ?_) | refine wguardX_split (fun hc => ?_) (fun hc => ?_)) <;> have hd := hc <;> (try simp (disch := omega) only [wrapI] at hd) <;> have hs := hd <;> (try simp only [decide_eq_true_eq, decide_eq_false_iff_not, Int.not_lt] at hd) <;> (try simp at hs))
              | refine T_ret ?_
              | refine leave_of (.inr rfl) _ rfl ?_
              | refine leave_of (.inl rfl) _ rfl ?_
              | refine leaveA_of (.inr rfl) _ rfl ?_
              | refine leaveA_of (.inl rfl) _ rfl ?_
              | refine wif_intro ?_ (fun hc => ?_)
              | refine And.intro ?_ ?_
              | intro hc
            | simp (maxSteps := 4000000) only [wops_nil, wops_cons, wstep_none, wrun_call, wrun_mv, wrun_bin, wrun_load, get_mk, wop, aop, ev, look, put_some, writes, ores_some, binV, thenK, blockK, value, cut, hget, toLits, mkAgg, tupOf, List.map_cons, List.map_nil, List.length_cons, List.length_nil, List.getElem?_cons_zero, List.getElem?_cons_succ, List.take_succ_cons, List.take_nil, List.drop_zero, List.append_nil, List.replicate_zero, List.getD_cons_zero, Option.getD_some, Option.map_some, Option.map_none, if_true, if_false, Nat.reduceEqDiff, Nat.reduceAdd, Nat.zero_add, reduceCtorEq, eq_self, false_and, freeze, lidsL, lids, List.flatMap_cons, List.flatMap_nil, ren, renL, *]
            | simp (disch := omega) only [getD_ints, wrapI]
            | (with_reducible show wcall _ false (.lit (.func (.func 113) _ _)) _ _ _ _; refine wcall_fn (h113) ?_ ?_ ?_; (next => simp [rfyL, rfy, hget, ints, take_rfy, e1]); (next => simp [plainL, plain, plainR, e1]))
            | (with_reducible show wcallX _ false (.lit (.func (.func 113) _ _)) _ _ _ _; refine wcallX_fn (h113) ?_ ?_ ?_; (next => simp [rfyL, rfy, hget, ints, take_rfy, e1]); (next => simp [plainL, plain, plainR, e1]))
            | omega)
          all_goals first | rfl
  · rw [show (decide (2 ≤ (l.length : Int)) && decide ((l.length : Int) ≤ 144)) = false by rw [← Bool.decide_and]; exact decide_eq_false (by omega)] at h92
    have hls : chkLp w ph l = (0, 10) := by
      have : loopSum w ph l = (0, 10) := by unfold loopSum; rw [if_pos hn]
      unfold chkLp; rw [this]; rfl
    rw [hls]
    unfold c47
    repeat' (first
      | ((with_reducible refine T_calm ?_ ?_); rfl)
      | with_reducible first
        | refine T_seq ?_
        | refine T_reg ?_
        | refine T_draw ?_
        | refine T_skip ?_
        | refine T_exit ?_
        | refine T_block ?_
        | refine T_cond_t rfl ?_
        | refine T_cond_f rfl ?_
        | refine wdW_cons rfl ?_
        | (show wcall _ false (.lit (.func (.func 62) _ _)) _ _ _ _; refine wcall_fn (h62) rfl (by simp [plainL, plain]) ?_)
        | (show wcallX _ false (.lit (.func (.func 62) _ _)) _ _ _ _; refine wcallX_fn (h62) rfl (by simp [plainL, plain, plainR, e1]) ?_)
        | (show wcall _ false (.lit (.func (.func 92) _ _)) _ _ _ _; refine wcall_fn (h92) rfl (by simp [plainL, plain]) ?_)
        | (show wcallX _ false (.lit (.func (.func 92) _ _)) _ _ _ _; refine wcallX_fn (h92) rfl (by simp [plainL, plain, plainR, e1]) ?_)
        | ((first | refine T_cond rfl (fun hc => ?_) (fun hc => ?_) | refine wguard_split (fun hc => ?_) (fun hc => ?_) | refine wguardX_split (fun hc => ?_) (fun hc => ?_)) <;> have hd := hc <;> (try simp (disch := omega) only [wrapI] at hd) <;> have hs := hd <;> (try simp only [Bool.not_eq_true', Bool.not_eq_false', Bool.and_eq_true, Bool.and_eq_false_iff, Bool.or_eq_true, Bool.or_eq_false_iff, decide_eq_true_eq, decide_eq_false_iff_not, beq_iff_eq, bne_iff_ne, beq_eq_false_iff_ne, bne_eq_false_iff_eq, Bool.not_true, Bool.not_false, gt_iff_lt, ge_iff_le, Int.not_lt, Int.not_le, ne_eq, Decidable.not_not] at hd) <;> (try simp at hs))
        | refine T_ret ?_
        | refine leave_of (.inr rfl) _ rfl ?_
        | refine leave_of (.inl rfl) _ rfl ?_
        | refine leaveA_of (.inr rfl) _ rfl ?_
        | refine leaveA_of (.inl rfl) _ rfl ?_
        | refine wif_intro ?_ (fun hc => ?_)
        | refine And.intro ?_ ?_
        | intro hc
      | simp (maxSteps := 4000000) only [wops_nil, wops_cons, wstep_none, wrun_call, wrun_mv, wrun_bin, wrun_not, wrun_load, wrun_store, wrun_len, wrun_alloc, wrun_box, get_mk, wop, aop, ev, look, put_some, put_none, writes, ores_some, ores_map, ores_bind, binV, thenK, boolV, intV, lenOf, value, cut, hget, putCells, AV.parts, isOne, toLits, mkAgg, tupOf, List.map_cons, List.map_nil, List.length_cons, List.length_nil, List.getElem?_cons_zero, List.getElem?_cons_succ, List.set_cons_zero, List.set_cons_succ, List.take_succ_cons, List.take_zero, List.take_nil, List.drop_succ_cons, List.drop_zero, List.drop_nil, List.cons_append, List.nil_append, List.append_nil, List.append_assoc, List.replicate_zero, List.replicate_succ, List.getD_cons_zero, List.zipIdx_cons, List.zipIdx_nil, List.all_cons, List.all_nil, Option.pure_def, Option.bind_eq_bind, Option.getD_some, Option.map_some, Option.map_none, if_true, if_false, Nat.reduceEqDiff, Nat.reduceAdd, Nat.reduceLT, Nat.add_zero, Nat.zero_add, Nat.le_refl, Nat.zero_ne_one, reduceCtorEq, Bool.not_false, Bool.and_true, eq_self, true_and, and_self, freeze, lidsL, lids, List.flatMap_cons, List.flatMap_nil, List.all_cons, ren, renL, *]
      | simp (disch := omega) only [getD_ints, wrapI]
      | (with_reducible show wcall _ false (.lit (.func (.func 62) _ _)) _ _ _ _; refine wcall_fn (h62) ?_ ?_ ?_; (next => simp [rfyL, rfy, hget, ints, take_rfy, e1]); (next => simp [plainL, plain, plainR, e1]))
      | (with_reducible show wcallX _ false (.lit (.func (.func 62) _ _)) _ _ _ _; refine wcallX_fn (h62) ?_ ?_ ?_; (next => simp [rfyL, rfy, hget, ints, take_rfy, e1]); (next => simp [plainL, plain, plainR, e1]))
      | (with_reducible show wcall _ false (.lit (.func (.func 92) _ _)) _ _ _ _; refine wcall_fn (h92) ?_ ?_ ?_; (next => simp [rfyL, rfy, hget, ints, take_rfy, e1]); (next => simp [plainL, plain, plainR, e1]))
      | (with_reducible show wcallX _ false (.lit (.func (.func 92) _ _)) _ _ _ _; refine wcallX_fn (h92) ?_ ?_ ?_; (next => simp [rfyL, rfy, hget, ints, take_rfy, e1]); (next => simp [plainL, plain, plainR, e1]))
      | omega)
    all_goals first | rfl
end Go.Abs
