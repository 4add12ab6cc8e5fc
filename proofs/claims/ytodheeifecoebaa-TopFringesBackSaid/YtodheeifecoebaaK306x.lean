import Derived.Test.YtodheeifecoebaaK305x
set_option linter.all false
set_option linter.unusedVariables false
set_option linter.unusedSimpArgs false
set_option linter.unusedSectionVars false
namespace Go.Abs
open Go.Proofs
/-! law 12: a cell -/
abbrev SLi12 (n i id : Nat) : List (Nat × AV) := [(1, .loc 0 0 0), (3, i64 n), (4, .loc 1 0 0), (7, .lsl id 0 n), (12, i64 i)]
section
variable {w : Int} {n1 n2 : Bool} {zs msk : List Int} {h : Nat → Int} {q id : Nat} {H : List Blk}
theorem E12.self (x : E12 w n1 n2 zs msk h q id H) : E12 w n1 n2 zs msk h q id H := x
theorem there_ph {c : Nat} (hc : c < zs.length) (hp : 0 ≤ phs zs msk c) : thereB (phL zs msk zs.length) (c : Int) = true := by
  unfold thereB
  rw [Int.toNat_natCast, phL_get hc, phL_len]
  exact decide_eq_true ⟨by omega, by omega, by omega⟩
set_option maxHeartbeats 8000000 in
theorem k12l3 (hl : zs.length ≤ 1000) (hw : 1 ≤ w ∧ w ≤ 6) (hbd : ∀ j, -1000000 ≤ zs.getD j 0 ∧ zs.getD j 0 ≤ 1000000) (hh : ∀ j, -100000 ≤ h j ∧ h j ≤ 100000) (hE : E12 w n1 n2 zs msk h q id H) {i : Nat} (hi : i < zs.length)
    (hpot : ∀ a b, edN w (phL zs msk zs.length) a b = true → h b - h a = zs.getD b 0 - zs.getD a 0) (hmod : 0 ≤ phs zs msk i → (h i - zs.getD i 0) % 1000 = 0) (K : Exit → St → Prop) :
    T none Try.prog muts 264 0 c12l3 ⟨SLi12 zs.length i id, H⟩ (thenK (fun s' => s'.only [1, 3, 4, 7, 12] = ⟨SLi12 zs.length (i + 1) id, H⟩) K) := by
  obtain ⟨⟨o0, jb⟩, ⟨o1, jf⟩, ⟨o2, jq⟩, ⟨o3, jh⟩⟩ := hE.self
  have l0 := (List.getElem?_eq_some_iff.1 jb).1
  have l1 := (List.getElem?_eq_some_iff.1 jf).1
  have lq := (List.getElem?_eq_some_iff.1 jq).1
  have lh := (List.getElem?_eq_some_iff.1 jh).1
  have hpl := phL_len zs msk zs.length
  have hml := mk_len zs.length h
  have gp : ((phL zs msk zs.length).map fun x => [i64 x]).getD i [] = [i64 (phs zs msk i)] := by rw [getD_ints (by rw [hpl]; exact hi), phL_get hi]
  by_cases c2 : phs zs msk i < 0
  · have d2 : decide (phs zs msk i < 0) = true := decide_eq_true c2
    clear c2 hbd hh hpot hmod hE
    generalize phL zs msk zs.length = L at *
    unfold c12l3
    repeat' (first
      | ((with_reducible refine T_calm ?_ ?_); rfl)
      | with_reducible first
        | refine T_seq ?_
        | refine T_reg ?_
        | refine T_draw ?_
        | refine T_skip ?_
        | refine T_exit ?_
        | refine T_block ?_
        | refine T_cond_t rfl ?_
        | refine T_cond_f rfl ?_
        | refine wdW_cons rfl ?_
        | ((first | refine T_cond rfl (fun hc => ?_) (fun hc => ?_) | refine wguard_split (fun hc => ?_) (fun hc => ?_) | refine wguardX_split (fun hc => ?_) (fun hc => ?_)) <;> have hd := hc <;> (try simp (disch := omega) only [wrapI] at hd) <;> have hs := hd <;> (try simp only [decide_eq_true_eq, decide_eq_false_iff_not, Int.not_lt] at hd) <;> (try simp at hs))
        | refine T_ret ?_
        | refine leave_of (.inr rfl) _ rfl ?_
        | refine leave_of (.inl rfl) _ rfl ?_
        | refine leaveA_of (.inr rfl) _ rfl ?_
        | refine leaveA_of (.inl rfl) _ rfl ?_
        | refine wif_intro ?_ (fun hc => ?_)
        | refine And.intro ?_ ?_
        | intro hc
      | simp (maxSteps := 4000000) only [wops_nil, wops_cons, wstep_none, wrun_mv, wrun_bin, wrun_load, wrun_faddr, wrun_iaddrS, wop, aop, ev, look, put_some, writes, ores_some, ores_ite_none, binV, thenK, blockK, value, cut, hget, mkAgg, List.length_cons, List.length_nil, List.take_succ_cons, List.take_nil, List.drop_succ_cons, List.drop_zero, List.append_nil, List.replicate_zero, List.getD_cons_zero, Option.getD_some, Option.map_some, if_true, if_false, Nat.reduceEqDiff, Nat.zero_add, reduceCtorEq, Bool.false_eq_true, eq_self, and_true, and_self, decide_true, Int.reduceNeg, Int.toNat_natCast, *]
      | simp (disch := omega) only [wrapI]
      | omega)
    all_goals first | (simp [St.only, get_mk, look]; done)
  · have d2 : decide (phs zs msk i < 0) = false := decide_eq_false c2
    have hm0 := hmod (by omega)
    have b2 := hh i
    have b4 := hbd i
    have m2 : ((mk zs.length h).map fun x => [i64 x]).getD i [] = [i64 (h i)] := by rw [getD_ints (by rw [mk_len]; exact hi), mk_get hi]
    have z2 : (zs.map fun x => [i64 x]).getD i [] = [i64 (zs.getD i 0)] := getD_ints hi
    have h32 := k32 (h i) (-100000000) 100000000
    rw [show (decide ((-100000000 : Int) ≤ h i) && decide (h i ≤ 100000000)) = true by rw [decide_eq_true (by omega), decide_eq_true (by omega)]; rfl] at h32
    have h24 := k24 (h i - zs.getD i 0) 1000 (by omega) (by omega) (by omega) (by omega)
    rw [hm0] at h24
    have ew : IntKind.i64.wrap (h i - zs.getD i 0) = h i - zs.getD i 0 := wrapI (by omega) (by omega)
    have ew1 : IntKind.i64.wrap ((i : Int) + 1) = (i : Int) + 1 := wrapI (by omega) (by omega)
    have ew2 : IntKind.i64.wrap ((i : Int) + w) = (i : Int) + w := wrapI (by omega) (by omega)
    have hrow : ∀ (j : Nat) (x : Int), (x = (i : Int) + 1 ∨ x = (i : Int) + w) → ∀ K : Exit → St → Prop, (∀ e : Exit, (e = .normal ∨ e = .exit 7) → ∀ τ : St, τ.only [1, 3, 4, 7, 12, 206, 207] = ⟨SLk12 w zs.length i id j, H⟩ → K e τ) →
        T none Try.prog muts 264 0 c12r3 ⟨(14, i64 x) :: SLk12 w zs.length i id j, H⟩ K := fun j x hx K hK => by
      refine k12k hl hw hbd hh hE hi (by omega) (fun b hxb hb hpb hno => ?_) K hK
      refine hpot i b ?_
      unfold edN
      rw [there_ph hi (by omega), there_ph hb hpb]
      subst hxb
      rcases hx with hx | hx
      · rw [hx]
        exact bes_r (by
          rw [← hx]; exact fun h0 => hno ⟨hx, h0⟩)
      · rw [hx]; exact bes_d hw.1
    replace hrow := PLift.up hrow
    clear c2 hbd hh hpot hmod hE hm0
    generalize phL zs msk zs.length = L at *
    generalize mk zs.length h = HL at *
    unfold c12l3
    repeat' (first
      | ((with_reducible refine T_calm ?_ ?_); rfl)
      | with_reducible first
        | refine T_seq ?_
        | refine T_reg ?_
        | refine T_draw ?_
        | refine T_skip ?_
        | refine T_exit ?_
        | refine T_block ?_
        | refine T_cond_t rfl ?_
        | refine T_cond_f rfl ?_
        | refine wdW_cons rfl ?_
        | (show wcall _ false (.lit (.func (.func 32) _ _)) _ _ _ _; refine wcall_fn (h32) rfl (by simp [plainL, plain, plainR, Int.toNat_natCast, l0, l1, lq, lh]) ?_)
        | (show wcallX _ false (.lit (.func (.func 32) _ _)) _ _ _ _; refine wcallX_fn (h32) rfl (by simp [plainL, plain]) ?_)
        | (show wcall _ false (.lit (.func (.func 24) _ _)) _ _ _ _; refine wcall_fn (h24) rfl (by simp [plainL, plain, plainR, Int.toNat_natCast, l0, l1, lq, lh]) ?_)
        | (show wcallX _ false (.lit (.func (.func 24) _ _)) _ _ _ _; refine wcallX_fn (h24) rfl (by simp [plainL, plain]) ?_)
        | ((first | refine T_cond rfl (fun hc => ?_) (fun hc => ?_) | refine wguard_split (fun hc => ?_) (fun hc => ?_) | refine wguardX_split (fun hc => ?_) (fun hc => ?_)) <;> have hd := hc <;> (try simp (disch := omega) only [wrapI] at hd) <;> have hs := hd <;> (try simp only [decide_eq_true_eq, decide_eq_false_iff_not, Int.not_lt] at hd) <;> (try simp at hs))
        | refine T_ret ?_
        | refine leave_of (.inr rfl) _ rfl ?_
        | refine leave_of (.inl rfl) _ rfl ?_
        | refine leaveA_of (.inr rfl) _ rfl ?_
        | refine leaveA_of (.inl rfl) _ rfl ?_
        | refine wif_intro ?_ (fun hc => ?_)
        | refine And.intro ?_ ?_
        | intro hc
      | simp (maxSteps := 4000000) only [wops_nil, wops_cons, wstep_none, wrun_mv, wrun_pick, wrun_bin, wrun_not, wrun_build, wrun_load, wrun_faddr, wrun_iaddrS, wrunX_mv, wrunX_pick, wrunX_bin, wrunX_not, wrunX_load, wrunX_faddr, wrunX_iaddrS, wdW_nil, wstepX_none, wstepX_some, wguardX_ff, wrunX_call, wop, aop, ev, look, put_some, writes, ores_some, ores_ite_none, ores_map, wif_true, binV, thenK, boolV, value, cut, hget, fillA, putCells, AV.parts, isOne, toLits, mkAgg, List.map_cons, List.map_nil, List.length_cons, List.length_nil, List.take_succ_cons, List.take_zero, List.take_nil, List.drop_succ_cons, List.drop_zero, List.drop_nil, List.cons_append, List.nil_append, List.append_nil, List.append_assoc, List.replicate_zero, List.getD_cons_zero, List.all_cons, List.all_nil, List.length_append, List.length_map, Option.getD_some, Option.map_some, if_true, if_false, Nat.reduceEqDiff, Nat.reduceAdd, Nat.reduceLeDiff, Nat.add_zero, Nat.zero_add, Nat.le_refl, reduceCtorEq, Bool.not_true, Bool.and_true, Bool.false_eq_true, eq_self, true_and, and_true, and_self, decide_true, Int.reduceNeg, freeze, lidsL, lids, List.flatMap_cons, List.flatMap_nil, List.all_cons, ren, Int.toNat_natCast, *]
      | simp (disch := omega) only [getD_ints, wrapI]
      | (with_reducible show wcall _ false (.lit (.func (.func 32) _ _)) _ _ _ _; refine wcall_fn (h32) ?_ ?_ ?_; (next => simp [rfyL, rfy, hget, ints, take_rfy, Int.toNat_natCast, l0, l1, lq, lh]); (next => simp [plainL, plain, plainR, Int.toNat_natCast, l0, l1, lq, lh]))
      | (with_reducible show wcallX _ false (.lit (.func (.func 32) _ _)) _ _ _ _; refine wcallX_fn (h32) ?_ ?_ ?_; (next => simp [rfyL, rfy, hget, ints, take_rfy, Int.toNat_natCast, l0, l1, lq, lh]); (next => simp [plainL, plain, plainR, Int.toNat_natCast, l0, l1, lq, lh]))
      | (with_reducible show wcall _ false (.lit (.func (.func 24) _ _)) _ _ _ _; refine wcall_fn (h24) ?_ ?_ ?_; (next => simp [rfyL, rfy, hget, ints, take_rfy, Int.toNat_natCast, l0, l1, lq, lh]); (next => simp [plainL, plain, plainR, Int.toNat_natCast, l0, l1, lq, lh]))
      | (with_reducible show wcallX _ false (.lit (.func (.func 24) _ _)) _ _ _ _; refine wcallX_fn (h24) ?_ ?_ ?_; (next => simp [rfyL, rfy, hget, ints, take_rfy, Int.toNat_natCast, l0, l1, lq, lh]); (next => simp [plainL, plain, plainR, Int.toNat_natCast, l0, l1, lq, lh]))
      | (with_reducible refine wdW_cons ?_ ?_; (next => simp [chk, foot, compatB, argsOf, St.get, target, ev, look, lidsL, hget, kind, wids, wtops, tops, opds, topId, Int.toNat_natCast, l0, l1, lq, lh]; done))
      | omega)
    refine T_loop_only [1, 3, 4, 7, 12, 206, 207] (fun m s => ∃ j : Nat, j ≤ 2 ∧ m = 2 - j ∧ s = ⟨SLk12 w zs.length i id j, H⟩) 2 ⟨0, by omega, rfl, ?_⟩ ?_
    · simp [St.only, get_mk, look]
    rintro m s ⟨j, hj, rfl, rfl⟩
    have hj3 : j = 0 ∨ j = 1 ∨ j = 2 := by omega
    rw [c12l2_cut]
    rcases hj3 with rfl | rfl | rfl
    · have hr := PLift.up (hrow.down 0 _ (.inl rfl))
      clear hrow h32 h24
      repeat' (first
        | ((with_reducible refine T_calm ?_ ?_); rfl)
        | with_reducible first
          | refine T_seq ?_
          | refine T_reg ?_
          | refine T_draw ?_
          | refine T_skip ?_
          | refine T_exit ?_
          | refine T_block ?_
          | refine T_cond_t rfl ?_
          | refine T_cond_f rfl ?_
          | refine wdW_cons rfl ?_
          | ((first | refine T_cond rfl (fun hc => ?_) (fun hc => ?_) | refine wguard_split (fun hc => ?_) (fun hc => ?_) | refine wguardX_split (fun hc => ?_) (fun hc => ?_)) <;> have hd := hc <;> (try simp (disch := omega) only [wrapI] at hd) <;> have hs := hd <;> (try simp only [Bool.not_eq_true', Bool.not_eq_false', Bool.and_eq_true, Bool.and_eq_false_iff, Bool.or_eq_true, Bool.or_eq_false_iff, decide_eq_true_eq, decide_eq_false_iff_not, beq_iff_eq, bne_iff_ne, beq_eq_false_iff_ne, bne_eq_false_iff_eq, Bool.not_true, Bool.not_false, gt_iff_lt, ge_iff_le, Int.not_lt, Int.not_le, ne_eq, Decidable.not_not] at hd) <;> (try simp at hs))
          | refine T_ret ?_
          | refine wif_intro ?_ (fun hc => ?_)
          | refine And.intro ?_ ?_
          | intro hc
        | simp (maxSteps := 4000000) only [wops_nil, wops_cons, wstep_none, wrun_mv, wrun_bin, wrun_idxA, wop, aop, ev, look, put_some, writes, ores_some, binV, thenK, value, cut, toLits, mkAgg, ofValue_int, List.map_cons, List.map_nil, List.length_cons, List.length_nil, List.take_succ_cons, List.take_zero, List.drop_zero, List.append_nil, List.replicate_zero, Option.map_some, if_true, if_false, Nat.reduceEqDiff, Nat.zero_add, Nat.sub_zero, Nat.mul_one, reduceCtorEq, Bool.false_eq_true, eq_self, and_self, decide_true, Int.toNat_zero, Int.cast_ofNat_Int, Int.reduceLT, Int.reduceLE, *]
        | simp (disch := omega) only [getD_ints, wrapI]
        | omega)
      refine T_onlyW (S := ⟨(14, i64 ((i : Int) + 1)) :: SLk12 w zs.length i id 0, H⟩) [14, 1, 3, 4, 7, 12, 206, 207] (by simp [St.only, get_mk, look]) (hr.down _ fun e he τ hτ => ?_)
      clear hr
      have hgo : T none Try.prog muts 264 0 (.reg 0 [⟨some 263, .bin .add (.tmp 207) (.val (.lit (.int .i64 1))), none, 0⟩, ⟨some 207, .mv (.tmp 263), none, 0⟩]) τ (thenK (fun s' => ∃ n', n' < 2 - 0 ∧ ∃ j, j ≤ 2 ∧ n' = 2 - j ∧ s'.only [1, 3, 4, 7, 12, 206, 207] = ⟨SLk12 w zs.length i id j, H⟩) (fun _ _ => False)) := by
        refine T_onlyW [1, 3, 4, 7, 12, 206, 207] hτ ?_
        clear hτ
        repeat' (first
          | ((with_reducible refine T_calm ?_ ?_); rfl)
          | with_reducible first
            | refine T_seq ?_
            | refine T_reg ?_
            | refine T_draw ?_
            | refine T_skip ?_
            | refine T_exit ?_
            | refine T_block ?_
            | refine T_cond_t rfl ?_
            | refine T_cond_f rfl ?_
            | refine wdW_cons rfl ?_
            | ((first | refine T_cond rfl (fun hc => ?_) (fun hc => ?_) | refine wguard_split (fun hc => ?_) (fun hc => ?_) | refine wguardX_split (fun hc => ?_) (fun hc => ?_)) <;> have hd := hc <;> (try simp (disch := omega) only [wrapI] at hd) <;> have hs := hd <;> (try simp only [Bool.not_eq_true', Bool.not_eq_false', Bool.and_eq_true, Bool.and_eq_false_iff, Bool.or_eq_true, Bool.or_eq_false_iff, decide_eq_true_eq, decide_eq_false_iff_not, beq_iff_eq, bne_iff_ne, beq_eq_false_iff_ne, bne_eq_false_iff_eq, Bool.not_true, Bool.not_false, gt_iff_lt, ge_iff_le, Int.not_lt, Int.not_le, ne_eq, Decidable.not_not] at hd) <;> (try simp at hs))
            | refine T_ret ?_
            | refine wif_intro ?_ (fun hc => ?_)
            | refine And.intro ?_ ?_
            | intro hc
          | simp (maxSteps := 4000000) only [wops_nil, wops_cons, wstep_none, wrun_mv, wrun_bin, wop, aop, ev, look, put_some, writes, ores_some, binV, thenK, List.append_nil, List.replicate_zero, Option.map_some, if_true, if_false, Nat.reduceEqDiff, Nat.sub_zero, reduceCtorEq, eq_self, Int.toNat_one, Int.cast_ofNat_Int, Int.reduceLT, *]
          | simp (disch := omega) only [wrapI]
          | omega)
        exact ⟨2 - (0 + 1), by omega, 0 + 1, by omega, rfl, by simp [St.only, get_mk, look]⟩
      rcases he with rfl | rfl <;> exact T_mono hgo (fun e s hk => by cases e <;> first | exact hk | exact hk.elim)
    · have hr := PLift.up (hrow.down 1 _ (.inr rfl))
      clear hrow h32 h24
      repeat' (first
        | ((with_reducible refine T_calm ?_ ?_); rfl)
        | with_reducible first
          | refine T_seq ?_
          | refine T_reg ?_
          | refine T_draw ?_
          | refine T_skip ?_
          | refine T_exit ?_
          | refine T_block ?_
          | refine T_cond_t rfl ?_
          | refine T_cond_f rfl ?_
          | refine wdW_cons rfl ?_
          | ((first | refine T_cond rfl (fun hc => ?_) (fun hc => ?_) | refine wguard_split (fun hc => ?_) (fun hc => ?_) | refine wguardX_split (fun hc => ?_) (fun hc => ?_)) <;> have hd := hc <;> (try simp (disch := omega) only [wrapI] at hd) <;> have hs := hd <;> (try simp only [Bool.not_eq_true', Bool.not_eq_false', Bool.and_eq_true, Bool.and_eq_false_iff, Bool.or_eq_true, Bool.or_eq_false_iff, decide_eq_true_eq, decide_eq_false_iff_not, beq_iff_eq, bne_iff_ne, beq_eq_false_iff_ne, bne_eq_false_iff_eq, Bool.not_true, Bool.not_false, gt_iff_lt, ge_iff_le, Int.not_lt, Int.not_le, ne_eq, Decidable.not_not] at hd) <;> (try simp at hs))
          | refine T_ret ?_
          | refine wif_intro ?_ (fun hc => ?_)
          | refine And.intro ?_ ?_
          | intro hc
        | simp (maxSteps := 4000000) only [wops_nil, wops_cons, wstep_none, wrun_mv, wrun_bin, wrun_idxA, wop, aop, ev, look, put_some, writes, ores_some, binV, thenK, value, cut, toLits, mkAgg, ofValue_int, List.map_cons, List.map_nil, List.length_cons, List.length_nil, List.take_succ_cons, List.take_nil, List.drop_succ_cons, List.drop_zero, List.append_nil, List.replicate_zero, Option.map_some, if_true, if_false, Nat.reduceEqDiff, Nat.reduceSub, Nat.zero_add, Nat.mul_one, reduceCtorEq, Bool.false_eq_true, eq_self, and_self, decide_true, Int.toNat_one, Int.cast_ofNat_Int, Int.reduceLT, Int.reduceLE, *]
        | simp (disch := omega) only [getD_ints, wrapI]
        | omega)
      refine T_onlyW (S := ⟨(14, i64 ((i : Int) + w)) :: SLk12 w zs.length i id 1, H⟩) [14, 1, 3, 4, 7, 12, 206, 207] (by simp [St.only, get_mk, look]) (hr.down _ fun e he τ hτ => ?_)
      clear hr
      have hgo : T none Try.prog muts 264 0 (.reg 0 [⟨some 263, .bin .add (.tmp 207) (.val (.lit (.int .i64 1))), none, 0⟩, ⟨some 207, .mv (.tmp 263), none, 0⟩]) τ (thenK (fun s' => ∃ n', n' < 2 - 1 ∧ ∃ j, j ≤ 2 ∧ n' = 2 - j ∧ s'.only [1, 3, 4, 7, 12, 206, 207] = ⟨SLk12 w zs.length i id j, H⟩) (fun _ _ => False)) := by
        refine T_onlyW [1, 3, 4, 7, 12, 206, 207] hτ ?_
        clear hτ
        repeat' (first
          | ((with_reducible refine T_calm ?_ ?_); rfl)
          | with_reducible first
            | refine T_seq ?_
            | refine T_reg ?_
            | refine T_draw ?_
            | refine T_skip ?_
            | refine T_exit ?_
            | refine T_block ?_
            | refine T_cond_t rfl ?_
            | refine T_cond_f rfl ?_
            | refine wdW_cons rfl ?_
            | ((first | refine T_cond rfl (fun hc => ?_) (fun hc => ?_) | refine wguard_split (fun hc => ?_) (fun hc => ?_) | refine wguardX_split (fun hc => ?_) (fun hc => ?_)) <;> have hd := hc <;> (try simp (disch := omega) only [wrapI] at hd) <;> have hs := hd <;> (try simp only [Bool.not_eq_true', Bool.not_eq_false', Bool.and_eq_true, Bool.and_eq_false_iff, Bool.or_eq_true, Bool.or_eq_false_iff, decide_eq_true_eq, decide_eq_false_iff_not, beq_iff_eq, bne_iff_ne, beq_eq_false_iff_ne, bne_eq_false_iff_eq, Bool.not_true, Bool.not_false, gt_iff_lt, ge_iff_le, Int.not_lt, Int.not_le, ne_eq, Decidable.not_not] at hd) <;> (try simp at hs))
            | refine T_ret ?_
            | refine wif_intro ?_ (fun hc => ?_)
            | refine And.intro ?_ ?_
            | intro hc
          | simp (maxSteps := 4000000) only [wops_nil, wops_cons, wstep_none, wrun_mv, wrun_bin, wop, aop, ev, look, put_some, writes, ores_some, binV, thenK, List.append_nil, List.replicate_zero, Option.map_some, if_true, if_false, Nat.reduceEqDiff, Nat.reduceSub, reduceCtorEq, eq_self, Int.toNat_one, Int.cast_ofNat_Int, Int.reduceLT, *]
          | simp (disch := omega) only [wrapI]
          | omega)
        exact ⟨2 - (1 + 1), by omega, 1 + 1, by omega, rfl, by simp [St.only, get_mk, look]⟩
      rcases he with rfl | rfl <;> exact T_mono hgo (fun e s hk => by cases e <;> first | exact hk | exact hk.elim)
    · clear hrow h32 h24
      repeat' (first
        | ((with_reducible refine T_calm ?_ ?_); rfl)
        | with_reducible first
          | refine T_seq ?_
          | refine T_reg ?_
          | refine T_draw ?_
          | refine T_skip ?_
          | refine T_exit ?_
          | refine T_block ?_
          | refine T_cond_t rfl ?_
          | refine T_cond_f rfl ?_
          | refine wdW_cons rfl ?_
          | ((first | refine T_cond rfl (fun hc => ?_) (fun hc => ?_) | refine wguard_split (fun hc => ?_) (fun hc => ?_) | refine wguardX_split (fun hc => ?_) (fun hc => ?_)) <;> have hd := hc <;> (try simp (disch := omega) only [wrapI] at hd) <;> have hs := hd <;> (try simp only [Bool.not_eq_true', Bool.not_eq_false', Bool.and_eq_true, Bool.and_eq_false_iff, Bool.or_eq_true, Bool.or_eq_false_iff, decide_eq_true_eq, decide_eq_false_iff_not, beq_iff_eq, bne_iff_ne, beq_eq_false_iff_ne, bne_eq_false_iff_eq, Bool.not_true, Bool.not_false, gt_iff_lt, ge_iff_le, Int.not_lt, Int.not_le, ne_eq, Decidable.not_not] at hd) <;> (try simp at hs))
          | refine T_ret ?_
          | refine wif_intro ?_ (fun hc => ?_)
          | refine And.intro ?_ ?_
          | intro hc
        | simp (maxSteps := 4000000) only [wops_nil, wops_cons, wstep_none, wrun_mv, wrun_bin, wop, aop, ev, look, put_some, writes, ores_some, binV, thenK, blockK, List.append_nil, List.replicate_zero, Option.map_some, if_true, if_false, Nat.reduceEqDiff, Nat.sub_self, reduceCtorEq, eq_self, false_and, decide_false, Nat.not_lt_zero, Int.cast_ofNat_Int, Int.reduceLT, *]
        | simp (disch := omega) only [getD_ints, wrapI]
        | omega)
      all_goals first | (simp [St.only, get_mk, look]; done)
end
end Go.Abs
