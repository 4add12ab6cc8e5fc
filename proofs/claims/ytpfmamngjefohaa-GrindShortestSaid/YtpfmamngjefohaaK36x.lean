import Derived.Test.YtpfmamngjefohaaK32x
import Derived.Test.YtpfmamngjefohaaK34x
import Derived.Test.YtpfmamngjefohaaK35x
set_option linter.all false
set_option linter.unusedVariables false
set_option linter.unusedSimpArgs false
set_option linter.unusedSectionVars false
namespace Go.Abs
open Go.Proofs
/-! best -/
theorem polR_ne {q : List Int} {m : Int} (hq : q ≠ []) : polR (some (q, m)) = .agg [.lsl 0 0 q.length, i64 m, bl true] := by
  show AV.agg [if q = [] then AV.sl true 0 [] else AV.lsl 0 0 q.length, i64 m, bl true] = _
  rw [if_neg hq]
theorem polH_ne {q : List Int} {m : Int} (hq : q ≠ []) : polH (some (q, m)) = [.cells false false 1 (q.map fun x => [i64 x])] := by
  show (if q = [] then ([] : List Blk) else [.cells false false 1 (q.map fun x => [i64 x])]) = _
  rw [if_neg hq]
set_option maxHeartbeats 8000000 in
theorem k66 {nil : Bool} {l : List Gr} {want : Int} (hl : l.length < 1000000) (hR : GOk l) (hw : 0 ≤ want) : ∀ (n : Nat) (d : Int), n ≤ 1000000 → 0 ≤ d ∧ d ≤ 1000000 → d.toNat ≤ n → Fn Try.prog 66 [gts nil l, i64 d, i64 want] (polR (bst l want n d)) (polH (bst l want n d))
  | n, d, hn, hd, hdn => by
    refine fn_of e66 ?_
    have hll := gR_len l
    by_cases hle : d ≤ want
    · have eb : bst l want n d = some ([], 0) := by cases n <;> (unfold bst; rw [if_pos hle])
      rw [eb]
      have eR : polR (some ([], 0)) = .agg [.sl true 0 [], i64 0, bl true] := rfl
      have eH : polH (some ([], 0)) = [] := rfl
      rw [eR, eH]
      have d1 : decide (d ≤ want) = true := decide_eq_true hle
      clear eb hle hR eR eH
      unfold c66
      repeat' (first
        | ((with_reducible refine T_calm ?_ ?_); rfl)
        | with_reducible first
          | refine T_seq ?_
          | refine T_reg ?_
          | refine T_draw ?_
          | refine T_skip ?_
          | refine T_exit ?_
          | refine T_block ?_
          | refine T_cond_t rfl ?_
          | refine T_cond_f rfl ?_
          | refine wdW_cons rfl ?_
          | ((first | refine T_cond rfl (fun hc => ?_) (fun hc => ?_) | refine wguard_split (fun hc => ?_) (fun hc => ?_) | refine wguardX_split (fun hc => ?_) (fun hc => ?_)) <;> have hd := hc <;> (try simp (disch := omega) only [wrapI] at hd) <;> have hs := hd <;> (try simp only [Bool.not_eq_true', Bool.not_eq_false', Bool.and_eq_true, Bool.and_eq_false_iff, Bool.or_eq_true, Bool.or_eq_false_iff, decide_eq_true_eq, decide_eq_false_iff_not, beq_iff_eq, bne_iff_ne, beq_eq_false_iff_ne, bne_eq_false_iff_eq, Bool.not_true, Bool.not_false, gt_iff_lt, ge_iff_le, Int.not_lt, Int.not_le, ne_eq, Decidable.not_not] at hd) <;> (try simp at hs))
          | refine T_ret ?_
          | refine leave_of (.inr rfl) _ rfl ?_
          | refine leave_of (.inl rfl) _ rfl ?_
          | refine leaveA_of (.inr rfl) _ rfl ?_
          | refine leaveA_of (.inl rfl) _ rfl ?_
          | refine wif_intro ?_ (fun hc => ?_)
          | refine And.intro ?_ ?_
          | intro hc
        | simp (maxSteps := 4000000) only [wops_nil, wops_cons, wstep_none, wrun_mv, wrun_bin, wrun_build, wrun_store, wrun_alloc, wop, aop, ev, look, put_some, put_none, writes, ores_some, binV, thenK, cut, hget, fillA, putCells, AV.parts, isOne, toLits, mkAgg, tupOf, List.map_cons, List.map_nil, List.length_cons, List.length_nil, List.getElem?_cons_zero, List.set_cons_zero, List.take_succ_cons, List.take_zero, List.take_nil, List.drop_succ_cons, List.drop_zero, List.drop_nil, List.cons_append, List.nil_append, List.append_nil, List.replicate_zero, List.replicate_succ, List.getD_cons_zero, List.zipIdx_cons, List.zipIdx_nil, List.all_cons, List.all_nil, Option.getD_some, Option.map_some, if_true, if_false, Nat.reduceEqDiff, Nat.reduceAdd, Nat.reduceLT, Nat.add_zero, Nat.zero_add, Nat.le_refl, Nat.zero_ne_one, reduceCtorEq, Bool.and_true, eq_self, true_and, and_self, List.all_cons, ren, renL, renR, *]
        | simp (disch := omega) only [getD_ints, wrapI]
        | omega)
      all_goals first | rfl
    · cases n with
      | zero => omega
      | succ n =>
        have eb : bst l want (n + 1) d = bsf l (bst l want n) d l.length := by
          show (if d ≤ want then _ else _) = _
          rw [if_neg hle]
        have hrec := fun k (hk : k < l.length) (hlt : ¬(l.getD k gr0).dm ≥ d) => k66 (nil := nil) hl hR hw n (l.getD k gr0).dm (by omega) (hR k hk).1 (by have := (hR k hk).1; omega)
        have hbd := fun e he => bst_bd (want := want) hR n e he
        rw [eb]
        have hnem := bsf_ne (f := bst l want n) (d := d) (l := l) l.length
        have hend : ∀ x, bsf l (bst l want n) d l.length = some x → x.1 ≠ [] := hnem
        replace hrec := PLift.up hrec
        replace hbd := PLift.up hbd
        replace hR := PLift.up hR
        replace hend := PLift.up hend
        have d1 : decide (d ≤ want) = false := decide_eq_false hle
        clear eb hle hdn hnem
        unfold c66
        repeat' (first
          | ((with_reducible refine T_calm ?_ ?_); rfl)
          | with_reducible first
            | refine T_seq ?_
            | refine T_reg ?_
            | refine T_draw ?_
            | refine T_skip ?_
            | refine T_exit ?_
            | refine T_block ?_
            | refine T_cond_t rfl ?_
            | refine T_cond_f rfl ?_
            | refine wdW_cons rfl ?_
            | ((first | refine T_cond rfl (fun hc => ?_) (fun hc => ?_) | refine wguard_split (fun hc => ?_) (fun hc => ?_) | refine wguardX_split (fun hc => ?_) (fun hc => ?_)) <;> have hd := hc <;> (try simp (disch := omega) only [wrapI] at hd) <;> have hs := hd <;> (try simp only [Bool.not_eq_true', Bool.not_eq_false', Bool.and_eq_true, Bool.and_eq_false_iff, Bool.or_eq_true, Bool.or_eq_false_iff, decide_eq_true_eq, decide_eq_false_iff_not, beq_iff_eq, bne_iff_ne, beq_eq_false_iff_ne, bne_eq_false_iff_eq, Bool.not_true, Bool.not_false, gt_iff_lt, ge_iff_le, Int.not_lt, Int.not_le, ne_eq, Decidable.not_not] at hd) <;> (try simp at hs))
            | refine T_ret ?_
            | refine leave_of (.inr rfl) _ rfl ?_
            | refine leave_of (.inl rfl) _ rfl ?_
            | refine leaveA_of (.inr rfl) _ rfl ?_
            | refine leaveA_of (.inl rfl) _ rfl ?_
            | refine wif_intro ?_ (fun hc => ?_)
            | refine And.intro ?_ ?_
            | intro hc
          | simp (maxSteps := 4000000) only [wops_nil, wops_cons, wstep_none, wrun_mv, wrun_bin, wrun_len, wrun_alloc, wop, aop, ev, look, put_some, writes, ores_some, ores_map, ores_bind, binV, thenK, intV, lenOf, hget, List.map_cons, List.map_nil, List.length_cons, List.length_nil, List.getElem?_cons_zero, List.getElem?_cons_succ, List.set_cons_zero, List.set_cons_succ, List.cons_append, List.nil_append, List.append_nil, List.replicate_zero, List.replicate_succ, List.zipIdx_cons, List.zipIdx_nil, Option.pure_def, Option.bind_eq_bind, Option.map_some, if_true, if_false, Nat.reduceEqDiff, Nat.reduceAdd, Nat.add_zero, Nat.zero_add, Nat.zero_ne_one, reduceCtorEq, eq_self, true_and, *]
          | simp (disch := omega) only [getD_ints, wrapI]
          | omega)
        refine T_for_keep [0, 1, 2, 6, 7, 15, 16, 17] (S66 nil l d want (bst l want n)) l.length (fun _ => True) 0 ⟨[0, 1], by simp, by simp, by simp, ?_⟩ trivial (Nat.zero_le _) ?_
        · simp [St.keep, get_mk, look, ren, renL, renR, renB, renO, keepρ, pos, hget, renR_gR, S66, S66s, S66h, bsf]
        clear d1
        intro k hk _
        by_cases hkn : k < l.length
        · by_cases hge : (l.getD k gr0).dm ≥ d
          · exact k66a hl hkn hge _
          · have h1 := hrec.down k hkn hge
            cases ho : bst l want n (l.getD k gr0).dm with
            | none =>
              rw [ho] at h1
              exact k66b hl hkn hR.down hd (by omega) hbd.down hge h1 ho _
            | some x =>
              obtain ⟨q, m2⟩ := x
              rw [ho] at h1
              by_cases hq : q = []
              · subst hq
                exact k66c hl hkn hR.down hd (by omega) hbd.down hge h1 ho _
              · have e1 : polR (some (q, m2)) = .agg [.lsl 0 0 q.length, i64 m2, bl true] := polR_ne hq
                have e2 : polH (some (q, m2)) = [.cells false false 1 (q.map fun x => [i64 x])] := polH_ne hq
                rw [e1, e2] at h1
                exact k66d hl hkn hR.down hd (by omega) hbd.down hge hq h1 ho _
        · have hke : k = l.length := by omega
          subst hke
          have hne := hend.down
          clear hrec hbd hR hend
          unfold S66
          generalize bsf l (bst l want n) d l.length = o at *
          cases o with
          | none =>
            have eR : polR none = .agg [.sl true 0 [], i64 0, bl false] := rfl
            have eH : polH none = [] := rfl
            rw [eR, eH]
            clear eR eH hne
            unfold S66h S66s
            unfold c66l0
            repeat' (first
              | ((with_reducible refine T_calm ?_ ?_); rfl)
              | with_reducible first
                | refine T_seq ?_
                | refine T_reg ?_
                | refine T_draw ?_
                | refine T_skip ?_
                | refine T_exit ?_
                | refine T_block ?_
                | refine T_cond_t rfl ?_
                | refine T_cond_f rfl ?_
                | refine wdW_cons rfl ?_
                | ((first | refine T_cond rfl (fun hc => ?_) (fun hc => ?_) | refine wguard_split (fun hc => ?_) (fun hc => ?_) | refine wguardX_split (fun hc => ?_) (fun hc => ?_)) <;> have hd := hc <;> (try simp (disch := omega) only [wrapI] at hd) <;> have hs := hd <;> (try simp only [decide_eq_true_eq, decide_eq_false_iff_not, Int.not_lt] at hd) <;> (try simp at hs))
                | refine T_ret ?_
                | refine leave_of (.inr rfl) _ rfl ?_
                | refine leave_of (.inl rfl) _ rfl ?_
                | refine leaveA_of (.inr rfl) _ rfl ?_
                | refine leaveA_of (.inl rfl) _ rfl ?_
                | refine wif_intro ?_ (fun hc => ?_)
                | refine And.intro ?_ ?_
                | intro hc
              | simp (maxSteps := 4000000) only [wops_nil, wops_cons, wstep_none, wrun_bin, wrun_load, wrun_store, wop, aop, ev, look, put_some, put_none, writes, ores_some, binV, thenK, blockK, value, cut, hget, putCells, AV.parts, isOne, toLits, mkAgg, tupOf, List.length_cons, List.length_nil, List.getElem?_cons_zero, List.getElem?_cons_succ, List.set_cons_zero, List.take_succ_cons, List.take_zero, List.take_nil, List.drop_succ_cons, List.drop_zero, List.drop_nil, List.nil_append, List.append_nil, List.replicate_zero, List.getD_cons_zero, List.all_cons, List.all_nil, Option.getD_some, Option.map_some, if_true, if_false, Nat.reduceEqDiff, Nat.reduceAdd, Nat.reduceLT, Nat.zero_add, Nat.le_refl, reduceCtorEq, Bool.and_true, eq_self, and_true, and_self, false_and, List.all_cons, ren, renL, renR, Int.toNat_natCast, *]
              | simp (disch := omega) only [getD_ints, wrapI]
              | omega)
            all_goals first | rfl
          | some x =>
            obtain ⟨p, m⟩ := x
            have hp := hne _ rfl
            have eR : polR (some (p, m)) = .agg [.lsl 0 0 p.length, i64 m, bl true] := polR_ne hp
            have eH : polH (some (p, m)) = [.cells false false 1 (p.map fun x => [i64 x])] := polH_ne hp
            rw [eR, eH]
            have hpl : (p.map fun x => [i64 x]).length = p.length := by simp
            clear eR eH hne hp
            unfold S66h S66s
            unfold c66l0
            repeat' (first
              | ((with_reducible refine T_calm ?_ ?_); rfl)
              | with_reducible first
                | refine T_seq ?_
                | refine T_reg ?_
                | refine T_draw ?_
                | refine T_skip ?_
                | refine T_exit ?_
                | refine T_block ?_
                | refine T_cond_t rfl ?_
                | refine T_cond_f rfl ?_
                | refine wdW_cons rfl ?_
                | ((first | refine T_cond rfl (fun hc => ?_) (fun hc => ?_) | refine wguard_split (fun hc => ?_) (fun hc => ?_) | refine wguardX_split (fun hc => ?_) (fun hc => ?_)) <;> have hd := hc <;> (try simp (disch := omega) only [wrapI] at hd) <;> have hs := hd <;> (try simp only [decide_eq_true_eq, decide_eq_false_iff_not, Int.not_lt] at hd) <;> (try simp at hs))
                | refine T_ret ?_
                | refine leave_ids (.inr rfl) _ [2] rfl (by simp) (by simp) ?_
                | refine leave_ids (.inl rfl) _ [2] rfl (by simp) (by simp) ?_
                | refine leaveA_of (.inr rfl) _ rfl ?_
                | refine leaveA_of (.inl rfl) _ rfl ?_
                | refine wif_intro ?_ (fun hc => ?_)
                | refine And.intro ?_ ?_
                | intro hc
              | simp (maxSteps := 4000000) only [wops_nil, wops_cons, wstep_none, wrun_bin, wrun_load, wrun_store, wop, aop, ev, look, put_some, put_none, writes, ores_some, binV, thenK, blockK, value, cut, hget, putCells, AV.parts, isOne, toLits, mkAgg, tupOf, List.map_cons, List.map_nil, List.length_cons, List.length_nil, List.getElem?_cons_zero, List.getElem?_cons_succ, List.set_cons_zero, List.take_succ_cons, List.take_zero, List.take_nil, List.drop_succ_cons, List.drop_zero, List.drop_nil, List.nil_append, List.append_nil, List.replicate_zero, List.getD_cons_zero, List.all_cons, List.all_nil, Option.getD_some, Option.map_some, Option.map_none, if_true, if_false, Nat.reduceEqDiff, Nat.reduceAdd, Nat.reduceLT, Nat.zero_add, Nat.le_refl, reduceCtorEq, Bool.and_true, eq_self, and_true, and_self, false_and, List.all_cons, ren, renL, renB, renO, keepρ, pos, Nat.not_lt_zero, renR_ints, Int.toNat_natCast, *]
              | simp (disch := omega) only [getD_ints, wrapI]
              | omega)
            all_goals first | rfl
end Go.Abs
