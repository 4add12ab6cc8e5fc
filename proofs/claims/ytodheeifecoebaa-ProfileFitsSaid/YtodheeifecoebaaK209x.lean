import Derived.Test.YtodheeifecoebaaK208x
import Derived.Test.YtodheeifecoebaaK210
set_option linter.all false
set_option linter.unusedVariables false
set_option linter.unusedSimpArgs false
set_option linter.unusedSectionVars false
namespace Go.Abs
open Go.Proofs
theorem rfy0 (h : Nat → Blk) (d : Nat) (x : Value) : rfy h d (.lit x) = .lit x := by cases d <;> rfl
theorem rfy_sl (h : Nat → Blk) (d : Nat) (b : Bool) (n : Nat) (els : List (List AV)) : rfy h d (.sl b n els) = .sl b n els := by cases d <;> rfl
theorem rfy_iB {H : List Blk} {id n d : Nat} {own : Bool} {xs : List Int} (h : H[id]? = some (.cells own false 1 (xs.map fun x => [i64 x]))) (hl : xs.length = n) : rfy (hget H) (d + 1) (.lsl id 0 n) = ints false xs := by
  unfold rfy
  rw [hget_some' h]
  dsimp only
  rw [if_pos (by simp; omega), List.drop_zero, List.take_of_length_le (by simp; omega), List.map_map]
  refine congrArg (AV.sl false 1) (List.map_congr_left fun x _ => ?_)
  simp only [Function.comp, List.map_cons, List.map_nil, rfy0]
def cpW (rows : List (Bool × List Int)) : AV := if rows = [] then .sl true 0 [] else .sl false 1 ((rows.map fun r => (false, r.2)).map fun r => [ints r.1 r.2])
theorem plain_cpW (rows : List (Bool × List Int)) : plain (cpW rows) = true := by
  unfold cpW; split
  · rfl
  · simp only [plain]; exact plain_rws _
theorem I78.rds {rows : List (Bool × List Int)} {H : List Blk} (h : I78 rows rows.length H) (h0 : rows.length ≠ 0) : rfy (hget H) 2 (.lsl (3 * rows.length - 2) 0 rows.length) = cpW rows := by
  have hne : rows ≠ [] := fun e => h0 (by rw [e]; rfl)
  unfold cpW
  rw [if_neg hne]
  unfold rfy
  rw [hget_some' (h.t h0)]
  have ho := otB_len rows rows.length
  dsimp only
  rw [if_pos (by omega), List.drop_zero, List.take_of_length_le (by omega)]
  refine congrArg (AV.sl false 1) ?_
  unfold otB
  rw [List.map_map, List.map_map]
  refine List.ext_getElem (by simp) fun i h1 h2 => ?_
  simp only [List.length_map, List.length_range] at h1
  obtain ⟨o, hr⟩ := h.r i h1
  have e := rfy_iB (d := 0) hr rfl
  have e2 : rowN rows i = rows[i] := by simp [rowN, List.getD, h1]
  simp only [List.getElem_map, List.getElem_range, Function.comp, List.map_cons, List.map_nil, Nat.zero_add] at e ⊢
  rw [e, e2]
set_option maxHeartbeats 8000000 in
theorem k78 {nil : Bool} {rows : List (Bool × List Int)} (hl : rows.length ≤ 1000) (hr : ∀ t, t < rows.length → (rowN rows t).2.length ≤ 1000000) :
    Gv 2 Try.prog 78 [.sl nil 1 (rows.map fun r => [ints r.1 r.2])] [cpW rows] := by
  refine gv_of e78 ?_
  have hl0 := fun K k hk H hH => k78l (nil := nil) hl hr K k hk H hH
  replace hl0 := And.intro hl0 trivial
  have hl2 : (rows.map fun r => [ints r.1 r.2]).length = rows.length := by simp
  clear hr
  unfold c78
  repeat' (first
    | with_reducible first
      | refine T_seq ?_
      | refine T_reg ?_
      | refine T_skip ?_
      | refine T_exit ?_
      | refine T_block ?_
      | refine T_cond_t rfl ?_
      | refine T_cond_f rfl ?_
      | ((first | refine T_cond rfl (fun hc => ?_) (fun hc => ?_) | refine wguard_split (fun hc => ?_) (fun hc => ?_)) <;> have hd := hc <;> (try simp (disch := omega) only [wrapI] at hd) <;> have hs := hd <;> (try simp only [Bool.not_eq_true', Bool.not_eq_false', Bool.and_eq_true, Bool.and_eq_false_iff, Bool.or_eq_true, Bool.or_eq_false_iff, decide_eq_true_eq, decide_eq_false_iff_not, beq_iff_eq, bne_iff_ne, beq_eq_false_iff_ne, bne_eq_false_iff_eq, Bool.not_true, Bool.not_false, gt_iff_lt, ge_iff_le, Int.not_lt, Int.not_le, ne_eq, Decidable.not_not] at hd) <;> (try simp at hs))
      | refine T_ret ?_
      | refine wif_intro ?_ (fun hc => ?_)
      | refine And.intro ?_ ?_
      | intro hc
    | simp (maxSteps := 4000000) only [wops_nil, wops_cons, wstep_none, wrun_mv, wop, aop, ev, put_some, writes, ores_some, thenK, List.map_cons, List.map_nil, List.length_nil, List.append_nil, List.replicate_zero, List.zipIdx_cons, List.zipIdx_nil, Nat.zero_add, *]
    | simp (disch := omega) only [getD_ints, wrapI]
    | omega)
  refine T_forP [0, 3, 4] (SL78 nil rows) rows.length (I78 rows) 0 ?_ ?_ (Nat.zero_le _) ?_
  · simp [St.only, get_mk, look]
  · exact ⟨rfl, fun i hi => by omega, fun h => (h rfl).elim⟩
  intro k H hk hH
  by_cases hkz : k < rows.length
  · exact hl0.1 _ k hkz H hH
  · have hke : k = rows.length := by omega
    subst hke
    clear hl0
    by_cases h0 : rows.length = 0
    · have hne : rows = [] := List.eq_nil_of_length_eq_zero h0
      subst hne
      unfold c78l0
      simp only [SL78, List.length_nil, if_true]
      clear hH
      repeat' (first
        | with_reducible first
          | refine T_seq ?_
          | refine T_reg ?_
          | refine T_skip ?_
          | refine T_exit ?_
          | refine T_block ?_
          | refine T_cond_t rfl ?_
          | refine T_cond_f rfl ?_
          | ((first | refine T_cond rfl (fun hc => ?_) (fun hc => ?_) | refine wguard_split (fun hc => ?_) (fun hc => ?_)) <;> have hd := hc <;> (try simp (disch := omega) only [wrapI] at hd) <;> have hs := hd <;> (try simp only [Bool.not_eq_true', Bool.not_eq_false', Bool.and_eq_true, Bool.and_eq_false_iff, Bool.or_eq_true, Bool.or_eq_false_iff, decide_eq_true_eq, decide_eq_false_iff_not, beq_iff_eq, bne_iff_ne, beq_eq_false_iff_ne, bne_eq_false_iff_eq, Bool.not_true, Bool.not_false, gt_iff_lt, ge_iff_le, Int.not_lt, Int.not_le, ne_eq, Decidable.not_not] at hd) <;> (try simp at hs))
          | refine T_ret ?_
          | refine wif_intro ?_ (fun hc => ?_)
          | refine And.intro ?_ ?_
          | intro hc
        | simp (maxSteps := 4000000) only [wops_nil, wops_cons, wstep_none, wrun_mv, wrun_bin, wrun_len, wop, aop, ev, look, put_some, writes, ores_some, ores_map, ores_bind, binV, thenK, blockK, intV, lenOf, hget, List.map_nil, List.length_nil, List.append_nil, List.replicate_zero, Option.pure_def, Option.bind_eq_bind, Option.map_some, if_true, if_false, Nat.reduceEqDiff, Nat.reduceSub, Nat.zero_add, Nat.mul_one, reduceCtorEq, eq_self, false_and, Nat.not_lt_zero, *]
        | simp (disch := omega) only [getD_ints, wrapI]
        | omega)
      refine leave_g (.inr rfl) [.sl true 0 []] rfl ?_ rfl
      rfl
    · have e := hH.rds h0
      clear hH
      unfold c78l0
      simp only [SL78, h0, if_false]
      replace e := And.intro e trivial
      repeat' (first
        | with_reducible first
          | refine T_seq ?_
          | refine T_reg ?_
          | refine T_skip ?_
          | refine T_exit ?_
          | refine T_block ?_
          | refine T_cond_t rfl ?_
          | refine T_cond_f rfl ?_
          | ((first | refine T_cond rfl (fun hc => ?_) (fun hc => ?_) | refine wguard_split (fun hc => ?_) (fun hc => ?_)) <;> have hd := hc <;> (try simp (disch := omega) only [wrapI] at hd) <;> have hs := hd <;> (try simp only [decide_eq_true_eq, decide_eq_false_iff_not, Int.not_lt] at hd) <;> (try simp at hs))
          | refine T_ret ?_
          | refine wif_intro ?_ (fun hc => ?_)
          | refine And.intro ?_ ?_
          | intro hc
        | simp (maxSteps := 4000000) only [wops_nil, wops_cons, wstep_none, wrun_mv, wrun_bin, wrun_len, wop, aop, ev, look, put_some, writes, ores_some, ores_map, ores_bind, binV, thenK, blockK, intV, lenOf, hget, List.append_nil, List.replicate_zero, Option.pure_def, Option.bind_eq_bind, Option.map_some, if_true, if_false, Nat.reduceEqDiff, reduceCtorEq, eq_self, false_and, *]
        | simp (disch := omega) only [getD_ints, wrapI]
        | omega)
      refine leave_g (.inr rfl) [.lsl (3 * rows.length - 2) 0 rows.length] rfl ?_ (by simp [plainL, plain_cpW])
      rw [List.map_cons, List.map_nil, e.1]
end Go.Abs
