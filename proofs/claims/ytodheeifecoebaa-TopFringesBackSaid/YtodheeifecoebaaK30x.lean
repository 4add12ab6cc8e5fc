import Derived.Test.YtodheeifecoebaaK29x
set_option linter.all false
set_option linter.unusedVariables false
set_option linter.unusedSimpArgs false
set_option linter.unusedSectionVars false
namespace Go.Abs
open Go.Proofs
def sq (w c : Int) : List Int := [c, c + 1, c + 1 + w, c + w]
def rsdAt (w : Int) (ph : List Int) (c : Nat) : List (Int × Int) :=
  if ((c : Int) + 1).tmod w = 0 then [] else if (sq w c).any (fun x => !thereB ph x) then [] else
  if sumL ph (sq w c) 4 = 0 then [] else [((c : Int), (sumL ph (sq w c) 4).tdiv 1000)]
def rsdL (w : Int) (ph : List Int) : Nat → List (Int × Int)
  | 0 => []
  | k + 1 => rsdL w ph k ++ rsdAt w ph k
def rows2 (xs : List (Int × Int)) : List (List AV) := xs.map fun p => [i64 p.1, i64 p.2]
def outV (id : Nat) (xs : List (Int × Int)) : AV := if xs = [] then .sl true 0 [] else .lsl id 0 xs.length
def outB (xs : List (Int × Int)) : List Blk := if xs = [] then [] else [.cells true false 2 (rows2 xs)]
theorem rsdL_len (w : Int) (ph : List Int) : ∀ k, (rsdL w ph k).length ≤ k
  | 0 => Nat.le_refl 0
  | k + 1 => by
    have := rsdL_len w ph k
    have h : (rsdAt w ph k).length ≤ 1 := by unfold rsdAt; (repeat' split) <;> first | exact Nat.zero_le _ | exact Nat.le_refl _
    unfold rsdL; simp only [List.length_append]; omega
theorem sq_any {w c : Int} {ph : List Int} (h : (sq w c).any (fun x => !thereB ph x) = false) : ∀ k, k < (sq w c).length → 0 ≤ (sq w c).getD k 0 ∧ (sq w c).getD k 0 < ph.length := by
  intro k hk
  rw [List.any_eq_false] at h
  have := h ((sq w c).getD k 0) (by simp [List.getD, hk])
  exact thereB_r (by simpa using this)
theorem renR_rows2 (ρ : Nat → Option Nat) (xs : List (Int × Int)) : renR ρ (rows2 xs) = rows2 xs := renR_plain ρ _ (plainR_map _ (fun _ => rfl) xs)
theorem rows2_app (a b : List (Int × Int)) : rows2 (a ++ b) = rows2 a ++ rows2 b := by simp [rows2]
theorem rows2_one (p : Int × Int) : rows2 [p] = [[i64 p.1, i64 p.2]] := rfl
theorem rows2_len (a : List (Int × Int)) : (rows2 a).length = a.length := by simp [rows2]
theorem rows2_take (a : List (Int × Int)) : (rows2 a).take a.length = rows2 a := by rw [List.take_of_length_le (by rw [rows2_len]; exact Nat.le_refl _)]
theorem renR_app (ρ : Nat → Option Nat) : ∀ a b : List (List AV), renR ρ (a ++ b) = renR ρ a ++ renR ρ b
  | [], b => rfl
  | x :: a, b => by simp only [List.cons_append, renR, renR_app ρ a b]
def S60 (w : Int) (nil : Bool) (ph : List Int) (k : Nat) : St := ⟨[(5, .loc 1 0 0), (6, outV 2 (rsdL w ph k)), (18, i64 ph.length), (19, i64 k)], [Blk.cells true false 2 [[i64 w, ints nil ph]], Blk.cells true false 2 [[i64 w, ints nil ph]]] ++ outB (rsdL w ph k)⟩
set_option maxHeartbeats 8000000 in
theorem k60l (w : Int) (nil : Bool) (ph : List Int) (hl : ph.length < 1000000) (hp : okPh ph) (hw : 1 ≤ w ∧ w ≤ 1000000) (K : Exit → St → Prop) (k : Nat) (hk : k < ph.length) :
   T none Try.prog muts 60 0 c60l0 (S60 w nil ph k) (thenK (fun s' => (k < ph.length ∧ True) ∧ ∃ ids : List Nat, 0 ≤ s'.heap.length ∧ (∀ id ∈ ids, 0 ≤ id ∧ id < s'.heap.length) ∧ ids.Nodup ∧ s'.keep 0 [5, 6, 18, 19] ids = S60 w nil ph (k + 1)) K) := by
  have hlen := rsdL_len w ph k
  have hrl := rows2_len (rsdL w ph k)
  have hl2 : ph.length < 4611686018427387904 := by omega
  unfold c60l0 S60
  by_cases hr : ((k : Int) + 1).tmod w = 0
  · have e : rsdL w ph (k + 1) = rsdL w ph k := by rw [rsdL, rsdAt, if_pos hr, List.append_nil]
    rw [e]
    by_cases hx : rsdL w ph k = []
    · simp only [outV, outB, hx, if_true]
      repeat' (first
        | with_reducible first
          | refine T_seq ?_
          | refine T_reg ?_
          | refine T_skip ?_
          | refine T_exit ?_
          | refine T_block ?_
          | refine T_cond_t rfl ?_
          | refine T_cond_f rfl ?_
          | ((first | refine T_cond rfl (fun hc => ?_) (fun hc => ?_) | refine wguard_split (fun hc => ?_) (fun hc => ?_)) <;> have hd := hc <;> (try simp (disch := omega) only [wrapI] at hd) <;> have hs := hd <;> (try simp only [decide_eq_true_eq, decide_eq_false_iff_not, beq_iff_eq, beq_eq_false_iff_ne, Bool.not_false, Int.not_lt, ne_eq] at hd) <;> (try simp at hs))
          | refine T_ret ?_
          | refine leave_of (.inr rfl) _ rfl ?_
          | refine leave_of (.inl rfl) _ rfl ?_
          | refine leaveA_of (.inr rfl) _ rfl ?_
          | refine leaveA_of (.inl rfl) _ rfl ?_
          | refine wif_intro ?_ (fun hc => ?_)
          | refine And.intro ?_ ?_
          | intro hc
        | simp (maxSteps := 4000000) only [wops_nil, wops_cons, wstep_none, wstep_some, wguard_ff, wguard_tf, wrun_call, wrun_mv, wrun_pick, wrun_bin, wrun_load, wrun_faddr, wrun_mkf, wrun_bslice, wop, aop, ev, look, put_some, writes, ores_some, ores_none_ite, ores_map, binV, thenK, blockK, value, cut, hget, fillA, putCells, AV.parts, isOne, mkAgg, List.flatten_cons, List.flatten_nil, rowsOf, List.map_cons, List.map_nil, List.length_cons, List.length_nil, List.getElem?_cons_zero, List.getElem?_cons_succ, List.set_cons_zero, List.set_cons_succ, List.take_succ_cons, List.take_zero, List.take_nil, List.drop_succ_cons, List.drop_zero, List.drop_nil, List.cons_append, List.nil_append, List.append_nil, List.append_assoc, List.replicate_zero, List.replicate_succ, List.getD_cons_zero, List.all_cons, List.all_nil, List.length_append, Option.getD_some, Option.map_some, if_true, if_false, Nat.reduceEqDiff, Nat.reduceAdd, Nat.reduceLeDiff, Nat.add_zero, Nat.zero_add, Nat.mul_one, Nat.le_refl, reduceCtorEq, Bool.not_false, Bool.and_true, Bool.false_eq_true, eq_self, true_and, and_true, and_self, decide_true, List.all_cons, *]
        | simp (disch := omega) only [wrapI]
        | omega)
      refine ⟨[0, 1], by simp, by simp, ?_⟩
      simp [St.keep, get_mk, look, ren, renL, renR, renB, renO, keepρ, pos, hget, renR_ints]
    · simp only [outV, outB, hx, if_false]
      repeat' (first
        | with_reducible first
          | refine T_seq ?_
          | refine T_reg ?_
          | refine T_skip ?_
          | refine T_exit ?_
          | refine T_block ?_
          | refine T_cond_t rfl ?_
          | refine T_cond_f rfl ?_
          | ((first | refine T_cond rfl (fun hc => ?_) (fun hc => ?_) | refine wguard_split (fun hc => ?_) (fun hc => ?_)) <;> have hd := hc <;> (try simp (disch := omega) only [wrapI] at hd) <;> have hs := hd <;> (try simp only [decide_eq_true_eq, decide_eq_false_iff_not, beq_iff_eq, beq_eq_false_iff_ne, Bool.not_false, Int.not_lt, ne_eq] at hd) <;> (try simp at hs))
          | refine T_ret ?_
          | refine leave_of (.inr rfl) _ rfl ?_
          | refine leave_of (.inl rfl) _ rfl ?_
          | refine leaveA_of (.inr rfl) _ rfl ?_
          | refine leaveA_of (.inl rfl) _ rfl ?_
          | refine wif_intro ?_ (fun hc => ?_)
          | refine And.intro ?_ ?_
          | intro hc
        | simp (maxSteps := 4000000) only [wops_nil, wops_cons, wstep_none, wstep_some, wguard_ff, wguard_tf, wrun_call, wrun_mv, wrun_pick, wrun_bin, wrun_load, wrun_faddr, wrun_mkf, wrun_bslice, wop, aop, ev, look, put_some, writes, ores_some, ores_none_ite, ores_map, binV, thenK, blockK, value, cut, hget, fillA, putCells, AV.parts, isOne, mkAgg, List.flatten_cons, List.flatten_nil, rowsOf, List.map_cons, List.map_nil, List.length_cons, List.length_nil, List.getElem?_cons_zero, List.getElem?_cons_succ, List.set_cons_zero, List.set_cons_succ, List.take_succ_cons, List.take_zero, List.take_nil, List.drop_succ_cons, List.drop_zero, List.drop_nil, List.cons_append, List.nil_append, List.append_nil, List.append_assoc, List.replicate_zero, List.replicate_succ, List.getD_cons_zero, List.all_cons, List.all_nil, List.length_append, Option.getD_some, Option.map_some, if_true, if_false, Nat.reduceEqDiff, Nat.reduceAdd, Nat.reduceLeDiff, Nat.add_zero, Nat.zero_add, Nat.mul_one, Nat.le_refl, reduceCtorEq, Bool.not_false, Bool.and_true, Bool.false_eq_true, eq_self, true_and, and_true, and_self, decide_true, List.all_cons, *]
        | simp (disch := omega) only [wrapI]
        | omega)
      refine ⟨[0, 1, 2], by simp, by simp, ?_⟩
      simp [St.keep, get_mk, look, ren, renL, renR, renB, renO, keepρ, pos, hget, renR_ints, renR_rows2]
  · cases ht : (sq w k).any (fun x => !thereB ph x) with
    | true =>
      have e : rsdL w ph (k + 1) = rsdL w ph k := by rw [rsdL, rsdAt, if_neg hr, if_pos ht, List.append_nil]
      rw [e]
      by_cases hx : rsdL w ph k = []
      · simp only [outV, outB, hx, if_true]
        repeat' (first
          | with_reducible first
            | refine T_seq ?_
            | refine T_reg ?_
            | refine T_skip ?_
            | refine T_exit ?_
            | refine T_block ?_
            | refine T_cond_t rfl ?_
            | refine T_cond_f rfl ?_
            | ((first | refine T_cond rfl (fun hc => ?_) (fun hc => ?_) | refine wguard_split (fun hc => ?_) (fun hc => ?_)) <;> have hd := hc <;> (try simp (disch := omega) only [wrapI] at hd) <;> have hs := hd <;> (try simp only [decide_eq_true_eq, decide_eq_false_iff_not, beq_iff_eq, beq_eq_false_iff_ne, Bool.not_false, Int.not_lt, ne_eq] at hd) <;> (try simp at hs))
            | refine T_ret ?_
            | refine leave_of (.inr rfl) _ rfl ?_
            | refine leave_of (.inl rfl) _ rfl ?_
            | refine leaveA_of (.inr rfl) _ rfl ?_
            | refine leaveA_of (.inl rfl) _ rfl ?_
            | refine wif_intro ?_ (fun hc => ?_)
            | refine And.intro ?_ ?_
            | intro hc
          | simp (maxSteps := 4000000) only [wops_nil, wops_cons, wstep_none, wstep_some, wguard_ff, wguard_tf, wrun_call, wrun_mv, wrun_pick, wrun_bin, wrun_load, wrun_faddr, wrun_mkf, wrun_bslice, wop, aop, ev, look, put_some, writes, ores_some, ores_none_ite, ores_map, binV, thenK, blockK, value, cut, hget, fillA, putCells, AV.parts, isOne, mkAgg, List.flatten_cons, List.flatten_nil, rowsOf, List.map_cons, List.map_nil, List.length_cons, List.length_nil, List.getElem?_cons_zero, List.getElem?_cons_succ, List.set_cons_zero, List.set_cons_succ, List.take_succ_cons, List.take_zero, List.take_nil, List.drop_succ_cons, List.drop_zero, List.drop_nil, List.cons_append, List.nil_append, List.append_nil, List.append_assoc, List.replicate_zero, List.replicate_succ, List.getD_cons_zero, List.all_cons, List.all_nil, List.length_append, Option.getD_some, Option.map_some, if_true, if_false, Nat.reduceEqDiff, Nat.reduceAdd, Nat.reduceLeDiff, Nat.add_zero, Nat.zero_add, Nat.mul_one, Nat.le_refl, reduceCtorEq, Bool.not_false, Bool.and_true, Bool.false_eq_true, eq_self, true_and, and_true, and_self, decide_true, List.all_cons, *]
          | simp (disch := omega) only [wrapI]
          | omega)
        refine wcall_raw ((k90c (sq w k) (by simp [sq]) rfl (fun x => k122 x hl2 rfl)).mono ?_)
        rintro r H' ⟨rfl, rfl⟩
        rw [ht]
        repeat' (first
          | with_reducible first
            | refine T_seq ?_
            | refine T_reg ?_
            | refine T_skip ?_
            | refine T_exit ?_
            | refine T_block ?_
            | refine T_cond_t rfl ?_
            | refine T_cond_f rfl ?_
            | ((first | refine T_cond rfl (fun hc => ?_) (fun hc => ?_) | refine wguard_split (fun hc => ?_) (fun hc => ?_)) <;> have hd := hc <;> (try simp (disch := omega) only [wrapI] at hd) <;> have hs := hd <;> (try simp only [Bool.not_eq_true', Bool.not_eq_false', Bool.and_eq_true, Bool.and_eq_false_iff, Bool.or_eq_true, Bool.or_eq_false_iff, decide_eq_true_eq, decide_eq_false_iff_not, beq_iff_eq, bne_iff_ne, beq_eq_false_iff_ne, bne_eq_false_iff_eq, Bool.not_true, Bool.not_false, gt_iff_lt, ge_iff_le, Int.not_lt, Int.not_le, ne_eq, Decidable.not_not] at hd) <;> (try simp at hs))
            | refine T_ret ?_
            | refine leave_of (.inr rfl) _ rfl ?_
            | refine leave_of (.inl rfl) _ rfl ?_
            | refine leaveA_of (.inr rfl) _ rfl ?_
            | refine leaveA_of (.inl rfl) _ rfl ?_
            | refine wif_intro ?_ (fun hc => ?_)
            | refine And.intro ?_ ?_
            | intro hc
          | simp (maxSteps := 4000000) only [wops_nil, wops_cons, wstep_none, wrun_mv, wrun_pick, wrun_bin, wop, aop, ev, look, put_some, writes, ores_some, binV, thenK, blockK, List.length_cons, List.length_nil, List.append_nil, List.replicate_zero, Option.map_some, if_true, if_false, Nat.reduceEqDiff, Nat.reduceAdd, Nat.reduceLeDiff, Nat.zero_add, reduceCtorEq, Bool.false_eq_true, eq_self, true_and, *]
          | simp (disch := omega) only [wrapI]
          | omega)
        refine ⟨[0, 1], by simp, by simp, ?_⟩
        simp [St.keep, get_mk, look, ren, renL, renR, renB, renO, keepρ, pos, hget, renR_ints]
      · simp only [outV, outB, hx, if_false]
        repeat' (first
          | with_reducible first
            | refine T_seq ?_
            | refine T_reg ?_
            | refine T_skip ?_
            | refine T_exit ?_
            | refine T_block ?_
            | refine T_cond_t rfl ?_
            | refine T_cond_f rfl ?_
            | ((first | refine T_cond rfl (fun hc => ?_) (fun hc => ?_) | refine wguard_split (fun hc => ?_) (fun hc => ?_)) <;> have hd := hc <;> (try simp (disch := omega) only [wrapI] at hd) <;> have hs := hd <;> (try simp only [decide_eq_true_eq, decide_eq_false_iff_not, beq_iff_eq, beq_eq_false_iff_ne, Bool.not_false, Int.not_lt, ne_eq] at hd) <;> (try simp at hs))
            | refine T_ret ?_
            | refine leave_of (.inr rfl) _ rfl ?_
            | refine leave_of (.inl rfl) _ rfl ?_
            | refine leaveA_of (.inr rfl) _ rfl ?_
            | refine leaveA_of (.inl rfl) _ rfl ?_
            | refine wif_intro ?_ (fun hc => ?_)
            | refine And.intro ?_ ?_
            | intro hc
          | simp (maxSteps := 4000000) only [wops_nil, wops_cons, wstep_none, wstep_some, wguard_ff, wguard_tf, wrun_call, wrun_mv, wrun_pick, wrun_bin, wrun_load, wrun_faddr, wrun_mkf, wrun_bslice, wop, aop, ev, look, put_some, writes, ores_some, ores_none_ite, ores_map, binV, thenK, blockK, value, cut, hget, fillA, putCells, AV.parts, isOne, mkAgg, List.flatten_cons, List.flatten_nil, rowsOf, List.map_cons, List.map_nil, List.length_cons, List.length_nil, List.getElem?_cons_zero, List.getElem?_cons_succ, List.set_cons_zero, List.set_cons_succ, List.take_succ_cons, List.take_zero, List.take_nil, List.drop_succ_cons, List.drop_zero, List.drop_nil, List.cons_append, List.nil_append, List.append_nil, List.append_assoc, List.replicate_zero, List.replicate_succ, List.getD_cons_zero, List.all_cons, List.all_nil, List.length_append, Option.getD_some, Option.map_some, if_true, if_false, Nat.reduceEqDiff, Nat.reduceAdd, Nat.reduceLeDiff, Nat.add_zero, Nat.zero_add, Nat.mul_one, Nat.le_refl, reduceCtorEq, Bool.not_false, Bool.and_true, Bool.false_eq_true, eq_self, true_and, and_true, and_self, decide_true, List.all_cons, *]
          | simp (disch := omega) only [wrapI]
          | omega)
        refine wcall_raw ((k90c (sq w k) (by simp [sq]) rfl (fun x => k122 x hl2 rfl)).mono ?_)
        rintro r H' ⟨rfl, rfl⟩
        rw [ht]
        repeat' (first
          | with_reducible first
            | refine T_seq ?_
            | refine T_reg ?_
            | refine T_skip ?_
            | refine T_exit ?_
            | refine T_block ?_
            | refine T_cond_t rfl ?_
            | refine T_cond_f rfl ?_
            | ((first | refine T_cond rfl (fun hc => ?_) (fun hc => ?_) | refine wguard_split (fun hc => ?_) (fun hc => ?_)) <;> have hd := hc <;> (try simp (disch := omega) only [wrapI] at hd) <;> have hs := hd <;> (try simp only [Bool.not_eq_true', Bool.not_eq_false', Bool.and_eq_true, Bool.and_eq_false_iff, Bool.or_eq_true, Bool.or_eq_false_iff, decide_eq_true_eq, decide_eq_false_iff_not, beq_iff_eq, bne_iff_ne, beq_eq_false_iff_ne, bne_eq_false_iff_eq, Bool.not_true, Bool.not_false, gt_iff_lt, ge_iff_le, Int.not_lt, Int.not_le, ne_eq, Decidable.not_not] at hd) <;> (try simp at hs))
            | refine T_ret ?_
            | refine leave_of (.inr rfl) _ rfl ?_
            | refine leave_of (.inl rfl) _ rfl ?_
            | refine leaveA_of (.inr rfl) _ rfl ?_
            | refine leaveA_of (.inl rfl) _ rfl ?_
            | refine wif_intro ?_ (fun hc => ?_)
            | refine And.intro ?_ ?_
            | intro hc
          | simp (maxSteps := 4000000) only [wops_nil, wops_cons, wstep_none, wrun_mv, wrun_pick, wrun_bin, wop, aop, ev, look, put_some, writes, ores_some, binV, thenK, blockK, List.length_cons, List.length_nil, List.append_nil, List.replicate_zero, Option.map_some, if_true, if_false, Nat.reduceEqDiff, Nat.reduceAdd, Nat.reduceLeDiff, Nat.zero_add, reduceCtorEq, Bool.false_eq_true, eq_self, true_and, *]
          | simp (disch := omega) only [wrapI]
          | omega)
        refine ⟨[0, 1, 2], by simp, by simp, ?_⟩
        simp [St.keep, get_mk, look, ren, renL, renR, renB, renO, keepρ, pos, hget, renR_ints, renR_rows2]
    | false =>
      have hb := sumL_r ph (sq w k) 4
      have hq := quo_range (n := sumL ph (sq w k) 4) (d := 1000) (by omega) (by omega) (by omega)
      have h113 : Fn Try.prog 113 [fmap w nil ph, ints false [(k : Int), (k : Int) + 1, (k : Int) + 1 + w, (k : Int) + w]] (i64 (sumL ph (sq w k) 4)) [] := k113 w nil false ph (sq w k) hl (by simp [sq]) hp (sq_any ht)
      by_cases hn : sumL ph (sq w k) 4 = 0
      · have e : rsdL w ph (k + 1) = rsdL w ph k := by rw [rsdL, rsdAt, if_neg hr, if_neg (by rw [ht]; simp), if_pos hn, List.append_nil]
        rw [e]
        by_cases hx : rsdL w ph k = []
        · simp only [outV, outB, hx, if_true]
          repeat' (first
            | with_reducible first
              | refine T_seq ?_
              | refine T_reg ?_
              | refine T_skip ?_
              | refine T_exit ?_
              | refine T_block ?_
              | refine T_cond_t rfl ?_
              | refine T_cond_f rfl ?_
              | ((first | refine T_cond rfl (fun hc => ?_) (fun hc => ?_) | refine wguard_split (fun hc => ?_) (fun hc => ?_)) <;> have hd := hc <;> (try simp (disch := omega) only [wrapI] at hd) <;> have hs := hd <;> (try simp only [decide_eq_true_eq, decide_eq_false_iff_not, beq_iff_eq, beq_eq_false_iff_ne, Bool.not_false, Int.not_lt, ne_eq] at hd) <;> (try simp at hs))
              | refine T_ret ?_
              | refine leave_of (.inr rfl) _ rfl ?_
              | refine leave_of (.inl rfl) _ rfl ?_
              | refine leaveA_of (.inr rfl) _ rfl ?_
              | refine leaveA_of (.inl rfl) _ rfl ?_
              | refine wif_intro ?_ (fun hc => ?_)
              | refine And.intro ?_ ?_
              | intro hc
            | simp (maxSteps := 4000000) only [wops_nil, wops_cons, wstep_none, wstep_some, wguard_ff, wguard_tf, wrun_call, wrun_mv, wrun_pick, wrun_bin, wrun_load, wrun_faddr, wrun_mkf, wrun_bslice, wop, aop, ev, look, put_some, writes, ores_some, ores_none_ite, ores_map, binV, thenK, blockK, value, cut, hget, fillA, putCells, AV.parts, isOne, mkAgg, List.flatten_cons, List.flatten_nil, rowsOf, List.map_cons, List.map_nil, List.length_cons, List.length_nil, List.getElem?_cons_zero, List.getElem?_cons_succ, List.set_cons_zero, List.set_cons_succ, List.take_succ_cons, List.take_zero, List.take_nil, List.drop_succ_cons, List.drop_zero, List.drop_nil, List.cons_append, List.nil_append, List.append_nil, List.append_assoc, List.replicate_zero, List.replicate_succ, List.getD_cons_zero, List.all_cons, List.all_nil, List.length_append, Option.getD_some, Option.map_some, if_true, if_false, Nat.reduceEqDiff, Nat.reduceAdd, Nat.reduceLeDiff, Nat.add_zero, Nat.zero_add, Nat.mul_one, Nat.le_refl, reduceCtorEq, Bool.not_false, Bool.and_true, Bool.false_eq_true, eq_self, true_and, and_true, and_self, decide_true, List.all_cons, *]
            | simp (disch := omega) only [wrapI]
            | omega)
          refine wcall_raw ((k90c (sq w k) (by simp [sq]) rfl (fun x => k122 x hl2 rfl)).mono ?_)
          rintro r H' ⟨rfl, rfl⟩
          rw [ht]
          repeat' (first
            | with_reducible first
              | refine T_seq ?_
              | refine T_reg ?_
              | refine T_skip ?_
              | refine T_exit ?_
              | refine T_block ?_
              | refine T_cond_t rfl ?_
              | refine T_cond_f rfl ?_
              | (show wcall _ false (.lit (.func (.func 113) _ _)) _ _ _ _; refine wcall_fn (h113) rfl (by simp [plainL, plain, plainR]) ?_)
              | ((first | refine T_cond rfl (fun hc => ?_) (fun hc => ?_) | refine wguard_split (fun hc => ?_) (fun hc => ?_)) <;> have hd := hc <;> (try simp (disch := omega) only [wrapI] at hd) <;> have hs := hd <;> (try simp only [Bool.not_eq_true', Bool.not_eq_false', Bool.and_eq_true, Bool.and_eq_false_iff, Bool.or_eq_true, Bool.or_eq_false_iff, decide_eq_true_eq, decide_eq_false_iff_not, beq_iff_eq, bne_iff_ne, beq_eq_false_iff_ne, bne_eq_false_iff_eq, Bool.not_true, Bool.not_false, gt_iff_lt, ge_iff_le, Int.not_lt, Int.not_le, ne_eq, Decidable.not_not] at hd) <;> (try simp at hs))
              | refine T_ret ?_
              | refine leave_of (.inr rfl) _ rfl ?_
              | refine leave_of (.inl rfl) _ rfl ?_
              | refine leaveA_of (.inr rfl) _ rfl ?_
              | refine leaveA_of (.inl rfl) _ rfl ?_
              | refine wif_intro ?_ (fun hc => ?_)
              | refine And.intro ?_ ?_
              | intro hc
            | simp (maxSteps := 4000000) only [wops_nil, wops_cons, wstep_none, wrun_call, wrun_mv, wrun_pick, wrun_bin, wrun_load, wop, aop, ev, look, put_some, writes, ores_some, binV, thenK, blockK, value, cut, hget, toLits, mkAgg, List.map_cons, List.map_nil, List.length_cons, List.length_nil, List.getElem?_cons_zero, List.getElem?_cons_succ, List.set_cons_zero, List.set_cons_succ, List.take_succ_cons, List.take_nil, List.drop_zero, List.nil_append, List.append_nil, List.replicate_zero, List.getD_cons_zero, Option.getD_some, Option.map_some, Option.map_none, if_true, if_false, Nat.reduceEqDiff, Nat.reduceAdd, Nat.reduceLeDiff, Nat.zero_add, reduceCtorEq, Bool.false_eq_true, eq_self, true_and, freeze, lidsL, lids, List.flatMap_cons, List.flatMap_nil, ren, freeze1, *]
            | simp (disch := omega) only [wrapI]
            | (with_reducible show wcall _ false (.lit (.func (.func 113) _ _)) _ _ _ _; refine wcall_fn (h113) ?_ ?_ ?_; (next => simp [rfyL, rfy, hget, ints, take_rfy, hr, freeze1]); (next => simp [plainL, plain, plainR, hr, freeze1]))
            | omega)
          refine ⟨[0, 1], by simp, by simp, ?_⟩
          simp [St.keep, get_mk, look, ren, renL, renR, renB, renO, keepρ, pos, hget, renR_ints]
        · simp only [outV, outB, hx, if_false]
          repeat' (first
            | with_reducible first
              | refine T_seq ?_
              | refine T_reg ?_
              | refine T_skip ?_
              | refine T_exit ?_
              | refine T_block ?_
              | refine T_cond_t rfl ?_
              | refine T_cond_f rfl ?_
              | ((first | refine T_cond rfl (fun hc => ?_) (fun hc => ?_) | refine wguard_split (fun hc => ?_) (fun hc => ?_)) <;> have hd := hc <;> (try simp (disch := omega) only [wrapI] at hd) <;> have hs := hd <;> (try simp only [decide_eq_true_eq, decide_eq_false_iff_not, beq_iff_eq, beq_eq_false_iff_ne, Bool.not_false, Int.not_lt, ne_eq] at hd) <;> (try simp at hs))
              | refine T_ret ?_
              | refine leave_of (.inr rfl) _ rfl ?_
              | refine leave_of (.inl rfl) _ rfl ?_
              | refine leaveA_of (.inr rfl) _ rfl ?_
              | refine leaveA_of (.inl rfl) _ rfl ?_
              | refine wif_intro ?_ (fun hc => ?_)
              | refine And.intro ?_ ?_
              | intro hc
            | simp (maxSteps := 4000000) only [wops_nil, wops_cons, wstep_none, wstep_some, wguard_ff, wguard_tf, wrun_call, wrun_mv, wrun_pick, wrun_bin, wrun_load, wrun_faddr, wrun_mkf, wrun_bslice, wop, aop, ev, look, put_some, writes, ores_some, ores_none_ite, ores_map, binV, thenK, blockK, value, cut, hget, fillA, putCells, AV.parts, isOne, mkAgg, List.flatten_cons, List.flatten_nil, rowsOf, List.map_cons, List.map_nil, List.length_cons, List.length_nil, List.getElem?_cons_zero, List.getElem?_cons_succ, List.set_cons_zero, List.set_cons_succ, List.take_succ_cons, List.take_zero, List.take_nil, List.drop_succ_cons, List.drop_zero, List.drop_nil, List.cons_append, List.nil_append, List.append_nil, List.append_assoc, List.replicate_zero, List.replicate_succ, List.getD_cons_zero, List.all_cons, List.all_nil, List.length_append, Option.getD_some, Option.map_some, if_true, if_false, Nat.reduceEqDiff, Nat.reduceAdd, Nat.reduceLeDiff, Nat.add_zero, Nat.zero_add, Nat.mul_one, Nat.le_refl, reduceCtorEq, Bool.not_false, Bool.and_true, Bool.false_eq_true, eq_self, true_and, and_true, and_self, decide_true, List.all_cons, *]
            | simp (disch := omega) only [wrapI]
            | omega)
          refine wcall_raw ((k90c (sq w k) (by simp [sq]) rfl (fun x => k122 x hl2 rfl)).mono ?_)
          rintro r H' ⟨rfl, rfl⟩
          rw [ht]
          repeat' (first
            | with_reducible first
              | refine T_seq ?_
              | refine T_reg ?_
              | refine T_skip ?_
              | refine T_exit ?_
              | refine T_block ?_
              | refine T_cond_t rfl ?_
              | refine T_cond_f rfl ?_
              | (show wcall _ false (.lit (.func (.func 113) _ _)) _ _ _ _; refine wcall_fn (h113) rfl (by simp [plainL, plain, plainR]) ?_)
              | ((first | refine T_cond rfl (fun hc => ?_) (fun hc => ?_) | refine wguard_split (fun hc => ?_) (fun hc => ?_)) <;> have hd := hc <;> (try simp (disch := omega) only [wrapI] at hd) <;> have hs := hd <;> (try simp only [Bool.not_eq_true', Bool.not_eq_false', Bool.and_eq_true, Bool.and_eq_false_iff, Bool.or_eq_true, Bool.or_eq_false_iff, decide_eq_true_eq, decide_eq_false_iff_not, beq_iff_eq, bne_iff_ne, beq_eq_false_iff_ne, bne_eq_false_iff_eq, Bool.not_true, Bool.not_false, gt_iff_lt, ge_iff_le, Int.not_lt, Int.not_le, ne_eq, Decidable.not_not] at hd) <;> (try simp at hs))
              | refine T_ret ?_
              | refine leave_of (.inr rfl) _ rfl ?_
              | refine leave_of (.inl rfl) _ rfl ?_
              | refine leaveA_of (.inr rfl) _ rfl ?_
              | refine leaveA_of (.inl rfl) _ rfl ?_
              | refine wif_intro ?_ (fun hc => ?_)
              | refine And.intro ?_ ?_
              | intro hc
            | simp (maxSteps := 4000000) only [wops_nil, wops_cons, wstep_none, wrun_call, wrun_mv, wrun_pick, wrun_bin, wrun_load, wop, aop, ev, look, put_some, writes, ores_some, binV, thenK, blockK, value, cut, hget, toLits, mkAgg, List.map_cons, List.map_nil, List.length_cons, List.length_nil, List.getElem?_cons_zero, List.getElem?_cons_succ, List.set_cons_zero, List.set_cons_succ, List.take_succ_cons, List.take_nil, List.drop_zero, List.nil_append, List.append_nil, List.replicate_zero, List.getD_cons_zero, Option.getD_some, Option.map_some, Option.map_none, if_true, if_false, Nat.reduceEqDiff, Nat.reduceAdd, Nat.reduceLeDiff, Nat.zero_add, reduceCtorEq, Bool.false_eq_true, eq_self, true_and, freeze, lidsL, lids, List.flatMap_cons, List.flatMap_nil, ren, freeze1, *]
            | simp (disch := omega) only [wrapI]
            | (with_reducible show wcall _ false (.lit (.func (.func 113) _ _)) _ _ _ _; refine wcall_fn (h113) ?_ ?_ ?_; (next => simp [rfyL, rfy, hget, ints, take_rfy, hr, freeze1]); (next => simp [plainL, plain, plainR, hr, freeze1]))
            | omega)
          refine ⟨[0, 1, 2], by simp, by simp, ?_⟩
          simp [St.keep, get_mk, look, ren, renL, renR, renB, renO, keepρ, pos, hget, renR_ints, renR_rows2]
      · have e : rsdL w ph (k + 1) = rsdL w ph k ++ [((k : Int), (sumL ph (sq w k) 4).tdiv 1000)] := by rw [rsdL, rsdAt, if_neg hr, if_neg (by rw [ht]; simp), if_neg hn]
        rw [e]
        by_cases hx : rsdL w ph k = []
        · simp only [outV, outB, hx, if_true]
          repeat' (first
            | with_reducible first
              | refine T_seq ?_
              | refine T_reg ?_
              | refine T_skip ?_
              | refine T_exit ?_
              | refine T_block ?_
              | refine T_cond_t rfl ?_
              | refine T_cond_f rfl ?_
              | ((first | refine T_cond rfl (fun hc => ?_) (fun hc => ?_) | refine wguard_split (fun hc => ?_) (fun hc => ?_)) <;> have hd := hc <;> (try simp (disch := omega) only [wrapI] at hd) <;> have hs := hd <;> (try simp only [decide_eq_true_eq, decide_eq_false_iff_not, beq_iff_eq, beq_eq_false_iff_ne, Bool.not_false, Int.not_lt, ne_eq] at hd) <;> (try simp at hs))
              | refine T_ret ?_
              | refine leave_of (.inr rfl) _ rfl ?_
              | refine leave_of (.inl rfl) _ rfl ?_
              | refine leaveA_of (.inr rfl) _ rfl ?_
              | refine leaveA_of (.inl rfl) _ rfl ?_
              | refine wif_intro ?_ (fun hc => ?_)
              | refine And.intro ?_ ?_
              | intro hc
            | simp (maxSteps := 4000000) only [wops_nil, wops_cons, wstep_none, wstep_some, wguard_ff, wguard_tf, wrun_call, wrun_mv, wrun_pick, wrun_bin, wrun_load, wrun_faddr, wrun_mkf, wrun_bslice, wop, aop, ev, look, put_some, writes, ores_some, ores_none_ite, ores_map, binV, thenK, blockK, value, cut, hget, fillA, putCells, AV.parts, isOne, mkAgg, List.flatten_cons, List.flatten_nil, rowsOf, List.map_cons, List.map_nil, List.length_cons, List.length_nil, List.getElem?_cons_zero, List.getElem?_cons_succ, List.set_cons_zero, List.set_cons_succ, List.take_succ_cons, List.take_zero, List.take_nil, List.drop_succ_cons, List.drop_zero, List.drop_nil, List.cons_append, List.nil_append, List.append_nil, List.append_assoc, List.replicate_zero, List.replicate_succ, List.getD_cons_zero, List.all_cons, List.all_nil, List.length_append, Option.getD_some, Option.map_some, if_true, if_false, Nat.reduceEqDiff, Nat.reduceAdd, Nat.reduceLeDiff, Nat.add_zero, Nat.zero_add, Nat.mul_one, Nat.le_refl, reduceCtorEq, Bool.not_false, Bool.and_true, Bool.false_eq_true, eq_self, true_and, and_true, and_self, decide_true, List.all_cons, *]
            | simp (disch := omega) only [wrapI]
            | omega)
          refine wcall_raw ((k90c (sq w k) (by simp [sq]) rfl (fun x => k122 x hl2 rfl)).mono ?_)
          rintro r H' ⟨rfl, rfl⟩
          rw [ht]
          repeat' (first
            | with_reducible first
              | refine T_seq ?_
              | refine T_reg ?_
              | refine T_skip ?_
              | refine T_exit ?_
              | refine T_block ?_
              | refine T_cond_t rfl ?_
              | refine T_cond_f rfl ?_
              | (show wcall _ false (.lit (.func (.func 113) _ _)) _ _ _ _; refine wcall_fn (h113) rfl (by simp [plainL, plain, plainR]) ?_)
              | ((first | refine T_cond rfl (fun hc => ?_) (fun hc => ?_) | refine wguard_split (fun hc => ?_) (fun hc => ?_)) <;> have hd := hc <;> (try simp (disch := omega) only [wrapI] at hd) <;> have hs := hd <;> (try simp only [bne_iff_ne, bne_eq_false_iff_eq, ne_eq] at hd) <;> (try simp at hs))
              | refine T_ret ?_
              | refine leave_of (.inr rfl) _ rfl ?_
              | refine leave_of (.inl rfl) _ rfl ?_
              | refine leaveA_of (.inr rfl) _ rfl ?_
              | refine leaveA_of (.inl rfl) _ rfl ?_
              | refine wif_intro ?_ (fun hc => ?_)
              | refine And.intro ?_ ?_
              | intro hc
            | simp (maxSteps := 4000000) only [wops_nil, wops_cons, wstep_none, wrun_call, wrun_mv, wrun_pick, wrun_bin, wrun_build, wrun_load, wrun_bslice, wrun_app, wop, aop, ev, look, put_some, writes, ores_some, ores_ite_none, ores_none_ite, ores_map, wif_true, binV, thenK, blockK, elsOf, szOk, value, cut, hget, fillA, putCells, AV.parts, isOne, toLits, mkAgg, ofValue_int, List.flatten_cons, List.flatten_nil, rowsOf, List.map_cons, List.map_nil, List.length_cons, List.length_nil, List.getElem?_cons_zero, List.getElem?_cons_succ, List.set_cons_zero, List.set_cons_succ, List.take_succ_cons, List.take_zero, List.take_nil, List.drop_succ_cons, List.drop_zero, List.drop_nil, List.cons_append, List.nil_append, List.append_nil, List.append_assoc, List.replicate_zero, List.replicate_succ, List.getD_cons_zero, List.all_cons, List.all_nil, List.isEmpty_cons, List.length_append, Option.getD_some, Option.map_some, Option.map_none, if_true, if_false, Nat.reduceEqDiff, Nat.reduceAdd, Nat.reduceMul, Nat.reduceLeDiff, Nat.add_zero, Nat.zero_add, Nat.sub_zero, Nat.zero_mul, Nat.le_refl, reduceCtorEq, Bool.and_true, Bool.or_true, Bool.false_eq_true, eq_self, true_and, and_true, and_self, beq_self_eq_true, freeze, lidsL, lids, List.flatMap_cons, List.flatMap_nil, List.all_cons, ren, freeze1, *]
            | simp (disch := omega) only [wrapI]
            | (with_reducible show wcall _ false (.lit (.func (.func 113) _ _)) _ _ _ _; refine wcall_fn (h113) ?_ ?_ ?_; (next => simp [rfyL, rfy, hget, ints, take_rfy, hr, freeze1]); (next => simp [plainL, plain, plainR, hr, freeze1]))
            | omega)
          refine ⟨[0, 1, 4], by simp, by simp, ?_⟩
          simp [St.keep, get_mk, look, ren, renL, renR, renB, renO, keepρ, pos, hget, renR_ints, rows2]
        · simp only [outV, outB, hx, if_false]
          repeat' (first
            | with_reducible first
              | refine T_seq ?_
              | refine T_reg ?_
              | refine T_skip ?_
              | refine T_exit ?_
              | refine T_block ?_
              | refine T_cond_t rfl ?_
              | refine T_cond_f rfl ?_
              | ((first | refine T_cond rfl (fun hc => ?_) (fun hc => ?_) | refine wguard_split (fun hc => ?_) (fun hc => ?_)) <;> have hd := hc <;> (try simp (disch := omega) only [wrapI] at hd) <;> have hs := hd <;> (try simp only [decide_eq_true_eq, decide_eq_false_iff_not, beq_iff_eq, beq_eq_false_iff_ne, Bool.not_false, Int.not_lt, ne_eq] at hd) <;> (try simp at hs))
              | refine T_ret ?_
              | refine leave_of (.inr rfl) _ rfl ?_
              | refine leave_of (.inl rfl) _ rfl ?_
              | refine leaveA_of (.inr rfl) _ rfl ?_
              | refine leaveA_of (.inl rfl) _ rfl ?_
              | refine wif_intro ?_ (fun hc => ?_)
              | refine And.intro ?_ ?_
              | intro hc
            | simp (maxSteps := 4000000) only [wops_nil, wops_cons, wstep_none, wstep_some, wguard_ff, wguard_tf, wrun_call, wrun_mv, wrun_pick, wrun_bin, wrun_load, wrun_faddr, wrun_mkf, wrun_bslice, wop, aop, ev, look, put_some, writes, ores_some, ores_none_ite, ores_map, binV, thenK, blockK, value, cut, hget, fillA, putCells, AV.parts, isOne, mkAgg, List.flatten_cons, List.flatten_nil, rowsOf, List.map_cons, List.map_nil, List.length_cons, List.length_nil, List.getElem?_cons_zero, List.getElem?_cons_succ, List.set_cons_zero, List.set_cons_succ, List.take_succ_cons, List.take_zero, List.take_nil, List.drop_succ_cons, List.drop_zero, List.drop_nil, List.cons_append, List.nil_append, List.append_nil, List.append_assoc, List.replicate_zero, List.replicate_succ, List.getD_cons_zero, List.all_cons, List.all_nil, List.length_append, Option.getD_some, Option.map_some, if_true, if_false, Nat.reduceEqDiff, Nat.reduceAdd, Nat.reduceLeDiff, Nat.add_zero, Nat.zero_add, Nat.mul_one, Nat.le_refl, reduceCtorEq, Bool.not_false, Bool.and_true, Bool.false_eq_true, eq_self, true_and, and_true, and_self, decide_true, List.all_cons, *]
            | simp (disch := omega) only [wrapI]
            | omega)
          refine wcall_raw ((k90c (sq w k) (by simp [sq]) rfl (fun x => k122 x hl2 rfl)).mono ?_)
          rintro r H' ⟨rfl, rfl⟩
          rw [ht]
          repeat' (first
            | with_reducible first
              | refine T_seq ?_
              | refine T_reg ?_
              | refine T_skip ?_
              | refine T_exit ?_
              | refine T_block ?_
              | refine T_cond_t rfl ?_
              | refine T_cond_f rfl ?_
              | (show wcall _ false (.lit (.func (.func 113) _ _)) _ _ _ _; refine wcall_fn (h113) rfl (by simp [plainL, plain, plainR]) ?_)
              | ((first | refine T_cond rfl (fun hc => ?_) (fun hc => ?_) | refine wguard_split (fun hc => ?_) (fun hc => ?_)) <;> have hd := hc <;> (try simp (disch := omega) only [wrapI] at hd) <;> have hs := hd <;> (try simp only [bne_iff_ne, bne_eq_false_iff_eq, ne_eq] at hd) <;> (try simp at hs))
              | refine T_ret ?_
              | refine leave_of (.inr rfl) _ rfl ?_
              | refine leave_of (.inl rfl) _ rfl ?_
              | refine leaveA_of (.inr rfl) _ rfl ?_
              | refine leaveA_of (.inl rfl) _ rfl ?_
              | refine wif_intro ?_ (fun hc => ?_)
              | refine And.intro ?_ ?_
              | intro hc
            | simp (maxSteps := 4000000) only [wops_nil, wops_cons, wstep_none, wrun_call, wrun_mv, wrun_pick, wrun_bin, wrun_build, wrun_load, wrun_bslice, wrun_app, wop, aop, ev, look, put_some, writes, ores_some, ores_ite_none, ores_none_ite, ores_map, wif_true, binV, thenK, blockK, elsOf, szOk, value, cut, hget, fillA, putCells, AV.parts, isOne, toLits, mkAgg, ofValue_int, List.flatten_cons, List.flatten_nil, rowsOf, List.map_cons, List.map_nil, List.length_cons, List.length_nil, List.getElem?_cons_zero, List.getElem?_cons_succ, List.set_cons_zero, List.set_cons_succ, List.take_succ_cons, List.take_zero, List.take_nil, List.drop_succ_cons, List.drop_zero, List.drop_nil, List.cons_append, List.nil_append, List.append_nil, List.append_assoc, List.replicate_zero, List.replicate_succ, List.getD_cons_zero, List.all_cons, List.all_nil, List.isEmpty_cons, List.length_append, Option.getD_some, Option.map_some, Option.map_none, if_true, if_false, Nat.reduceEqDiff, Nat.reduceAdd, Nat.reduceLeDiff, Nat.add_zero, Nat.zero_add, Nat.sub_zero, Nat.zero_mul, Nat.le_refl, reduceCtorEq, Bool.and_true, Bool.and_false, Bool.or_true, Bool.false_eq_true, eq_self, true_and, and_true, and_self, beq_self_eq_true, freeze, lidsL, lids, List.flatMap_cons, List.flatMap_nil, List.all_cons, ren, freeze1, *]
            | simp (disch := omega) only [wrapI]
            | (with_reducible show wcall _ false (.lit (.func (.func 113) _ _)) _ _ _ _; refine wcall_fn (h113) ?_ ?_ ?_; (next => simp [rfyL, rfy, hget, ints, take_rfy, hr, freeze1]); (next => simp [plainL, plain, plainR, hr, freeze1]))
            | omega)
          refine ⟨[0, 1, 5], by simp, by simp, ?_⟩
          simp [St.keep, get_mk, look, ren, renL, renR, renB, renO, keepρ, pos, hget, renR_ints, renR_app, renR_rows2, rows2_app, rows2_take, rows2_one]
end Go.Abs
