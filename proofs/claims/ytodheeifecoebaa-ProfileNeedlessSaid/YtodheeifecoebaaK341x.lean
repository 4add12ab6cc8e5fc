import Derived.Test.YtodheeifecoebaaK340x
set_option linter.all false
set_option linter.unusedVariables false
set_option linter.unusedSimpArgs false
set_option linter.unusedSectionVars false
namespace Go.Abs
open Go.Proofs
/-! ProfileNeedless: the two lists of numbers; what is left -/
def lBf (out : List Nat) : List Blk := if out = [] then [] else [.cells false false 1 (iRw (cI out))]
abbrev S15C (z : Nat) (nil : Bool) (l : List Rd) (out : List Nat) : St := ⟨[(0, i64 z), (1, rdgs nil l), (5, lV 0 out)], lBf out⟩
theorem mpI (h : Nat → Blk) (L : List Int) : List.map (fun r => List.map (rfy h 5) r) (iRw L) = iRw L := by
  simp only [iRw, List.map_map]; exact List.map_congr_left fun x _ => rfl
theorem flatI (h : Nat → Blk) (n : Nat) (L : List Int) : (List.take n (iRw L)).flatMap (fun r => r.flatMap (lids h 5)) = [] := by
  rw [List.flatMap_eq_nil_iff]
  intro r hr
  obtain ⟨x, _, rfl⟩ := List.mem_map.1 (List.mem_of_mem_take hr)
  rfl
theorem plainR_iRw (L : List Int) : plainR (iRw L) = true := plainR_map _ (fun _ => rfl) L
theorem cI_len (out : List Nat) : (cI out).length = out.length := by simp [cI]
set_option maxHeartbeats 8000000 in
theorem k15B {z : Nat} {nil : Bool} {l : List Rd} {t : ACode} (h : NC z l) (hol : (ndO z l).length < 1000) (K : Exit → St → Prop) (hN : T none Try.prog muts 103 0 t (S15C z nil l (ndO z l)) K) : T none Try.prog muts 103 0 (c15r1 t) (S15B z nil l (ndO z l)) K := by
  have h71 := k71 (nl := nil) h
  have h48 := k48o (ndO z l) hol
  have hrl := rows4_len l
  clear h
  generalize ndO z l = out at *
  replace hN := PLift.up hN
  have hcl := cI_len out
  have hil := iRw_len (cI out)
  unfold c15r1
  by_cases ho : out = []
  · subst ho
    simp only [lV, lB, pV, if_true] at h71 h48
    simp only [S15B, lV, lB, if_true]
    repeat' (first | (with_reducible first | refine T_seq ?_ | refine T_reg ?_ | refine T_skip ?_ | refine T_exit ?_ | refine T_block ?_ | refine T_cond_t rfl ?_ | refine T_cond_f rfl ?_ | (show wcall _ false (.lit (.func (.func 71) _ _)) _ _ _ _; refine wcall_fn (h71) rfl (by simp [plainL, plain, plainR_rows4]) ?_) | (show wcall _ false (.lit (.func (.func 48) _ _)) _ _ _ _; refine wcall_fn (h48) rfl (by simp [plainL, plain, plainR]) ?_) | ((first | refine T_cond rfl (fun hc => ?_) (fun hc => ?_) | refine wguard_split (fun hc => ?_) (fun hc => ?_)) <;> have hd := hc <;> (try simp (disch := omega) only [wrapI] at hd) <;> have hs := hd <;> (try simp only [bne_iff_ne, bne_eq_false_iff_eq, Bool.not_false, ne_eq] at hd) <;> (try simp at hs)) | refine T_ret ?_ | refine leave_of (.inr rfl) _ rfl ?_ | refine leave_of (.inl rfl) _ rfl ?_ | refine leaveA_of (.inr rfl) _ rfl ?_ | refine leaveA_of (.inl rfl) _ rfl ?_ | refine wif_intro ?_ (fun hc => ?_) | refine And.intro ?_ ?_ | intro hc) | simp (maxSteps := 4000000) only [wops_nil, wops_cons, wstep_none, wstep_some, wguard_ff, wrun_call, wrun_mv, wrun_pick, wrun_bin, wrun_not, wop, aop, ev, look, put_some, writes, ores_some, binV, thenK, boolV, List.map_cons, List.map_nil, List.length_nil, List.append_nil, List.replicate_zero, Option.map_some, if_true, if_false, Nat.reduceEqDiff, Nat.zero_ne_one, reduceCtorEq, Bool.not_true, Bool.false_eq_true, eq_self, freeze, lidsL, lids, List.flatMap_cons, List.flatMap_nil, ren, renR, *] | simp (disch := omega) only [getD_ints, wrapI] | (with_reducible show wcall _ false (.lit (.func (.func 71) _ _)) _ _ _ _; refine wcall_fn (h71) ?_ ?_ ?_; (next => simp [rfyL, rfy, hget, ints, take_rfy, renR_rows4, plainR_rows4, rows4_len]); (next => simp [plainL, plain, plainR, renR_rows4, plainR_rows4, rows4_len])) | (with_reducible show wcall _ false (.lit (.func (.func 48) _ _)) _ _ _ _; refine wcall_fn (h48) ?_ ?_ ?_; (next => simp [rfyL, rfy, hget, ints, take_rfy, renR_rows4, plainR_rows4, rows4_len]); (next => simp [plainL, plain, plainR, renR_rows4, plainR_rows4, rows4_len])) | omega)
    refine T_keepN [0, 1, 5] [] (by simp) (by simp) ?_ hN.down
    simp [St.keep, get_mk, look, ren, renR, renB, hget, renR_rows4, lV, lBf]
  · simp only [lV, lB, pV, if_neg ho] at h71 h48
    have e0 : (out.map fun i : Nat => (i : Int)) = cI out := rfl
    rw [e0] at h71
    simp only [S15B, lV, lB, if_neg ho, e0]
    repeat' (first | (with_reducible first | refine T_seq ?_ | refine T_reg ?_ | refine T_skip ?_ | refine T_exit ?_ | refine T_block ?_ | refine T_cond_t rfl ?_ | refine T_cond_f rfl ?_ | (show wcall _ false (.lit (.func (.func 71) _ _)) _ _ _ _; refine wcall_fn (h71) rfl (by simp [plainL, plain, plainR_rows4]) ?_) | ((first | refine T_cond rfl (fun hc => ?_) (fun hc => ?_) | refine wguard_split (fun hc => ?_) (fun hc => ?_)) <;> have hd := hc <;> (try simp (disch := omega) only [wrapI] at hd) <;> have hs := hd <;> (try simp only [bne_iff_ne, bne_eq_false_iff_eq, Bool.not_false, ne_eq] at hd) <;> (try simp at hs)) | refine T_ret ?_ | refine leave_of (.inr rfl) _ rfl ?_ | refine leave_of (.inl rfl) _ rfl ?_ | refine leaveA_of (.inr rfl) _ rfl ?_ | refine leaveA_of (.inl rfl) _ rfl ?_ | refine wif_intro ?_ (fun hc => ?_) | refine And.intro ?_ ?_ | intro hc) | simp (maxSteps := 4000000) only [wops_nil, wops_cons, wstep_none, wstep_some, wguard_ff, wrun_call, wrun_mv, wrun_bin, wop, aop, ev, look, put_some, writes, ores_some, binV, thenK, List.map_cons, List.map_nil, List.length_cons, List.length_nil, List.cons_append, List.nil_append, List.append_nil, List.replicate_zero, Option.map_some, if_true, if_false, Nat.reduceEqDiff, Nat.zero_add, Nat.zero_ne_one, reduceCtorEq, eq_self, freeze, lidsL, lids, List.flatMap_cons, List.flatMap_nil, ren, renB, shiftρ, renR_iRw, *] | simp (disch := omega) only [getD_ints, wrapI] | (with_reducible show wcall _ false (.lit (.func (.func 71) _ _)) _ _ _ _; refine wcall_fn (h71) ?_ ?_ ?_; (next => simp [rfyL, rfy, hget, ints, take_rfy, renR_rows4, plainR_rows4, rows4_len, renR_iRw]); (next => simp [plainL, plain, plainR, renR_rows4, plainR_rows4, rows4_len, renR_iRw])) | omega)
    refine wcall_fn h48 ?_ ?_ ?_
    · simp [rfyL, rfy, hget, mpI, iRw_len, hcl]
      exact List.take_of_length_le (by omega)
    · simp [plainL, plain, plainR_iRw]
    have hfz : freeze [Blk.cells true false 1 (iRw (cI out)), Blk.cells true false 1 (iRw (cI out))] (lidsL (hget [Blk.cells true false 1 (iRw (cI out)), Blk.cells true false 1 (iRw (cI out))]) [AV.lsl 0 0 out.length, AV.lsl 1 0 out.length]) = [Blk.cells false false 1 (iRw (cI out)), Blk.cells false false 1 (iRw (cI out))] := by
      have e : lidsL (hget [Blk.cells true false 1 (iRw (cI out)), Blk.cells true false 1 (iRw (cI out))]) [AV.lsl 0 0 out.length, AV.lsl 1 0 out.length] = [0, 1] := by
        simp only [lidsL, List.flatMap_cons, List.flatMap_nil, List.append_nil]
        simp [lids, hget]
        simp only [flatI, List.nil_append]
      rw [e]
      rfl
    rw [hfz]
    repeat' (first | (with_reducible first | refine T_seq ?_ | refine T_reg ?_ | refine T_skip ?_ | refine T_exit ?_ | refine T_block ?_ | refine T_cond_t rfl ?_ | refine T_cond_f rfl ?_ | refine T_ret ?_ | refine leave_of (.inr rfl) _ rfl ?_ | refine leave_of (.inl rfl) _ rfl ?_ | refine leaveA_of (.inr rfl) _ rfl ?_ | refine leaveA_of (.inl rfl) _ rfl ?_ | refine wif_intro ?_ (fun hc => ?_) | refine And.intro ?_ ?_ | intro hc) | simp (maxSteps := 4000000) only [wops_nil, wops_cons, wstep_none, wstep_some, wguard_ff, wrun_pick, wrun_not, wop, aop, ev, look, put_some, writes, ores_some, thenK, boolV, List.map_nil, List.length_cons, List.length_nil, List.append_nil, if_true, if_false, Nat.reduceEqDiff, Nat.reduceAdd, Nat.zero_add, reduceCtorEq, Bool.not_true, Bool.false_eq_true, eq_self, ren, *] | simp (disch := omega) only [getD_ints, wrapI] | omega)
    refine T_keepN [0, 1, 5] [0] (by simp) (by simp) ?_ hN.down
    simp [St.keep, get_mk, look, ren, renB, renO, keepρ, pos, hget, renR_rows4, renR_iRw, lV, lBf, ho]
def leV (q : Nat) (L : List Rd) : AV := if L = [] then .sl true 0 [] else .lsl q 0 L.length
def leB (L : List Rd) : List Blk := if L = [] then [] else [.cells true false 4 (rows4 L)]
def qO (out : List Nat) : Nat := if out = [] then 0 else 1
abbrev S15k (z : Nat) (nil : Bool) (l : List Rd) (out : List Nat) (L : List Rd) (k : Nat) : St := ⟨[(0, i64 z), (1, rdgs nil l), (5, lV 0 out), (10, leV (qO out) L), (11, i64 k)], lBf out ++ leB L⟩
set_option maxHeartbeats 8000000 in
theorem k15h {z k : Nat} {nil : Bool} {l L : List Rd} {out : List Nat} (hk : k < l.length) (hl : l.length ≤ 100) (hol : out.length < 1000) (hm : k ∈ out) (K : Exit → St → Prop)
    (hT : ∀ τ : St, (∃ ids : List Nat, (∀ id ∈ ids, 0 ≤ id ∧ id < τ.heap.length) ∧ ids.Nodup ∧ τ.keep 0 [0, 1, 5, 10, 11] ids = S15k z nil l out L (k + 1)) → K .normal τ) : T none Try.prog muts 103 0 c15l0 (S15k z nil l out L k) K := by
  have ho : out ≠ [] := fun h => by rw [h] at hm; simp at hm
  have h58 := k58o out k hol
  have hrl := rows4_len l
  rw [decide_eq_true hm] at h58
  have hkn : (k : Int) < (l.length : Int) := by omega
  have hcl := cI_len out
  have hil := iRw_len (cI out)
  simp only [pV, if_neg ho] at h58
  simp only [S15k, lV, lBf, qO, if_neg ho] at hT ⊢
  replace hT := PLift.up hT
  clear hm
  by_cases hL : L = []
  · subst hL
    simp only [leV, leB, if_true, List.append_nil] at hT ⊢
    unfold c15l0
    repeat' (first | (with_reducible first | refine T_seq ?_ | refine T_reg ?_ | refine T_skip ?_ | refine T_exit ?_ | refine T_block ?_ | refine T_cond_t rfl ?_ | refine T_cond_f rfl ?_ | refine T_ret ?_ | refine leave_of (.inr rfl) _ rfl ?_ | refine leave_of (.inl rfl) _ rfl ?_ | refine leaveA_of (.inr rfl) _ rfl ?_ | refine leaveA_of (.inl rfl) _ rfl ?_ | refine wif_intro ?_ (fun hc => ?_) | refine And.intro ?_ ?_ | intro hc) | simp (maxSteps := 4000000) only [wops_nil, wops_cons, wstep_none, wrun_call, wrun_mv, wrun_bin, wrun_len, wop, aop, ev, look, put_some, writes, ores_some, ores_map, ores_bind, binV, thenK, intV, lenOf, hget, List.map_cons, List.map_nil, List.length_cons, List.length_nil, List.append_nil, List.replicate_zero, Option.pure_def, Option.bind_eq_bind, Option.map_some, if_true, if_false, Nat.reduceEqDiff, Nat.zero_add, Nat.zero_ne_one, reduceCtorEq, eq_self, decide_true, *] | simp (disch := omega) only [getD_ints, wrapI] | omega)
    refine wcall_fn h58 ?_ ?_ ?_
    · simp [rfyL, rfy, hget, mpI, iRw_len, hcl]
      exact List.take_of_length_le (by omega)
    · simp [plainL, plain, plainR_iRw]
    have hfz : freeze [Blk.cells false false 1 (iRw (cI out))] (lidsL (hget [Blk.cells false false 1 (iRw (cI out))]) [AV.lsl 0 0 out.length, i64 (k : Int)]) = [Blk.cells false false 1 (iRw (cI out))] := by
      have e : lidsL (hget [Blk.cells false false 1 (iRw (cI out))]) [AV.lsl 0 0 out.length, i64 (k : Int)] = [0] := by
        have := flatI (hget [Blk.cells false false 1 (iRw (cI out))]) out.length (cI out)
        simp only [lidsL, List.flatMap_cons, List.flatMap_nil, List.append_nil]
        simp [lids, hget]
        simpa [hget] using this
      rw [e]
      rfl
    rw [hfz]
    repeat' (first | (with_reducible first | refine T_seq ?_ | refine T_reg ?_ | refine T_skip ?_ | refine T_exit ?_ | refine T_block ?_ | refine T_cond_t rfl ?_ | refine T_cond_f rfl ?_ | refine T_ret ?_ | refine wif_intro ?_ (fun hc => ?_) | refine And.intro ?_ ?_ | intro hc) | simp (maxSteps := 4000000) only [wops_nil, wops_cons, wstep_none, wrun_mv, wrun_bin, wrun_not, wop, aop, ev, look, put_some, writes, ores_some, binV, thenK, blockK, boolV, List.map_nil, List.length_cons, List.length_nil, List.append_nil, List.replicate_zero, Option.map_some, if_true, if_false, Nat.reduceEqDiff, Nat.zero_add, reduceCtorEq, Bool.not_true, eq_self, ren, *] | simp (disch := omega) only [wrapI] | omega)
    refine hT.down _ ⟨[0], by simp, by simp, ?_⟩
    simp [St.keep, get_mk, look, ren, renR, renB, renO, keepρ, pos, hget, renR_rows4, renR_iRw]
  · simp only [leV, leB, if_neg hL] at hT ⊢
    unfold c15l0
    repeat' (first | (with_reducible first | refine T_seq ?_ | refine T_reg ?_ | refine T_skip ?_ | refine T_exit ?_ | refine T_block ?_ | refine T_cond_t rfl ?_ | refine T_cond_f rfl ?_ | refine T_ret ?_ | refine leave_of (.inr rfl) _ rfl ?_ | refine leave_of (.inl rfl) _ rfl ?_ | refine leaveA_of (.inr rfl) _ rfl ?_ | refine leaveA_of (.inl rfl) _ rfl ?_ | refine wif_intro ?_ (fun hc => ?_) | refine And.intro ?_ ?_ | intro hc) | simp (maxSteps := 4000000) only [wops_nil, wops_cons, wstep_none, wrun_call, wrun_mv, wrun_bin, wrun_len, wop, aop, ev, look, put_some, writes, ores_some, ores_map, ores_bind, binV, thenK, intV, lenOf, hget, List.map_cons, List.map_nil, List.length_cons, List.length_nil, List.cons_append, List.nil_append, List.append_nil, List.replicate_zero, Option.pure_def, Option.bind_eq_bind, Option.map_some, if_true, if_false, Nat.reduceEqDiff, Nat.reduceAdd, Nat.zero_add, Nat.zero_ne_one, reduceCtorEq, eq_self, decide_true, *] | simp (disch := omega) only [getD_ints, wrapI] | omega)
    refine wcall_fn h58 ?_ ?_ ?_
    · simp [rfyL, rfy, hget, mpI, iRw_len, hcl]
      exact List.take_of_length_le (by omega)
    · simp [plainL, plain, plainR_iRw]
    have hfz : freeze [Blk.cells false false 1 (iRw (cI out)), Blk.cells true false 4 (rows4 L)] (lidsL (hget [Blk.cells false false 1 (iRw (cI out)), Blk.cells true false 4 (rows4 L)]) [AV.lsl 0 0 out.length, i64 (k : Int)]) = [Blk.cells false false 1 (iRw (cI out)), Blk.cells true false 4 (rows4 L)] := by
      have e : lidsL (hget [Blk.cells false false 1 (iRw (cI out)), Blk.cells true false 4 (rows4 L)]) [AV.lsl 0 0 out.length, i64 (k : Int)] = [0] := by
        have := flatI (hget [Blk.cells false false 1 (iRw (cI out)), Blk.cells true false 4 (rows4 L)]) out.length (cI out)
        simp only [lidsL, List.flatMap_cons, List.flatMap_nil, List.append_nil]
        simp [lids, hget]
        simpa [hget] using this
      rw [e]
      rfl
    rw [hfz]
    repeat' (first | (with_reducible first | refine T_seq ?_ | refine T_reg ?_ | refine T_skip ?_ | refine T_exit ?_ | refine T_block ?_ | refine T_cond_t rfl ?_ | refine T_cond_f rfl ?_ | refine T_ret ?_ | refine wif_intro ?_ (fun hc => ?_) | refine And.intro ?_ ?_ | intro hc) | simp (maxSteps := 4000000) only [wops_nil, wops_cons, wstep_none, wrun_mv, wrun_bin, wrun_not, wop, aop, ev, look, put_some, writes, ores_some, binV, thenK, blockK, boolV, List.map_nil, List.length_cons, List.length_nil, List.append_nil, List.replicate_zero, Option.map_some, if_true, if_false, Nat.reduceEqDiff, Nat.reduceAdd, Nat.zero_add, reduceCtorEq, Bool.not_true, eq_self, ren, *] | simp (disch := omega) only [wrapI] | omega)
    refine hT.down _ ⟨[0, 1], by simp, by simp, ?_⟩
    simp [St.keep, get_mk, look, ren, renB, renO, keepρ, pos, hget, renR_rows4, renR_iRw]
end Go.Abs
