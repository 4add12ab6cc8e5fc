import Derived.Test.YtodheeifecoebaaK113x
set_option linter.all false
set_option linter.unusedVariables false
set_option linter.unusedSimpArgs false
set_option linter.unusedSectionVars false
namespace Go.Abs
open Go.Proofs
/-! Reaching -/
theorem to_frzR {o z : Nat} {M : List (List Int)} {H : List Blk} (h : IsTo o z M H) {a : Nat} (ha : a < z) (j : Nat) (hj : j < o ∨ o + z < j) : (freeze H (lidsL (hget H) [.lsl (o + 1 + a) 0 z]))[j]? = H[j]? := by
  obtain ⟨w, h4⟩ := h.r a ha
  refine freeze_ne _ _ fun hm => ?_
  simp only [lidsL, List.flatMap_cons, List.flatMap_nil, List.append_nil] at hm
  rw [lids_row (d := 4) h4] at hm
  simp at hm
  omega
theorem to_reR {o z : Nat} {M : List (List Int)} {H : List Blk} (h : IsTo o z M H) (hM : Sq z M) {a : Nat} (ha : a < z) : rfyL (hget H) [.lsl (o + 1 + a) 0 z] = [ints false (M.getD a [])] := by
  obtain ⟨w, h4⟩ := h.r a ha
  simp only [rfyL, List.map_cons, List.map_nil, rfy_row (d := 4) h4 (hM.hr a ha)]
theorem IsTo.lt {o z : Nat} {M : List (List Int)} {H : List Blk} (h : IsTo o z M H) (hz : 1 ≤ z) : o + z < H.length := by
  obtain ⟨w, h4⟩ := h.r (z - 1) (by omega)
  have := (List.getElem?_eq_some_iff.1 h4).1
  omega
structure I83 (z N : Nat) (M : List (List Int)) (a b : Int) (xs : List Int) (H : List Blk) : Prop where
  t : IsTo 1 z M H
  p : H[0]? = some (.cells true false 2 [[i64 a, i64 b]])
  o : H[N]? = some (.cells true false 1 (xs.map fun x => [i64 x]))
abbrev SL83 (z N k : Nat) : List (Nat × AV) := [(5, .loc 0 0 0), (9, .lsl 1 0 z), (11, .lsl N 0 z), (36, i64 z), (37, i64 k)]
set_option maxHeartbeats 8000000 in
theorem k83l {z N a : Nat} {b : Int} {M : List (List Int)} (hz : 1 ≤ z ∧ z ≤ 40) (hN : 1 + z < N) (hM : Sq z M) (ha : a < z) (hb : ∀ i j, i < z → j < z → -41000000 ≤ mget M i j ∧ mget M i j ≤ 41000000) (K : Exit → St → Prop) (k : Nat) (hk : k < z) (H : List Blk) (hH : I83 z N M a b (subR (M.getD a []) (mget M a 0) k) H) :
    T none Try.prog muts 55 0 c83l0 ⟨SL83 z N k, H⟩ (thenK (fun s' => k < z ∧ I83 z N M a b (subR (M.getD a []) (mget M a 0) (k + 1)) s'.heap ∧ (s'.only [5, 9, 11, 36, 37]).slots = SL83 z N (k + 1)) K) := by
  obtain ⟨htb, hp, ho⟩ := hH
  have hNl := (List.getElem?_eq_some_iff.1 ho).1
  have hra := hM.hr a ha
  have hfin : I83 z N M a b (subR (M.getD a []) (mget M a 0) (k + 1)) (H.set N (.cells true false 1 (((subR (M.getD a []) (mget M a 0) k).set k ((M.getD a []).getD k 0 - mget M a 0)).map fun x => [i64 x]))) := by
    rw [subR_succ (by omega)]
    exact ⟨htb.set (.inr (by omega)) _, by rw [List.getElem?_set_ne (by omega)]; exact hp, List.getElem?_set_self hNl⟩
  obtain ⟨⟨w, ht⟩, hr⟩ := htb
  obtain ⟨wa, hraa⟩ := hr a ha
  have hta : ((List.range z).map fun i => [AV.lsl (1 + 1 + i) 0 z]).getD a [] = [AV.lsl (1 + 1 + a) 0 z] := by simp [List.getD, ha]
  have hsl := subR_len (M.getD a []) (mget M a 0) k
  have g0 : ((subR (M.getD a []) (mget M a 0) k).map fun x => [i64 x]).getD k [] = [i64 ((M.getD a []).getD k 0)] := by
    rw [getD_ints (by omega), subR_get (by omega), if_neg (by omega)]
  have g1 : ((M.getD a []).map fun x => [i64 x]).getD 0 [] = [i64 (mget M a 0)] := getD_ints (by omega)
  have b1 := hb a k ha hk
  have b2 := hb a 0 ha (by omega)
  have e00 : Int.toNat 0 = 0 := rfl
  have em : (M.getD a []).getD k 0 = mget M a k := rfl
  rw [em] at hfin g0
  generalize mget M a k = x at *
  generalize mget M a 0 = y at *
  generalize hS : subR (M.getD a []) y k = S at *
  have ew : IntKind.i64.wrap (x - y) = x - y := wrapI (by omega) (by omega)
  have hset := fun v => set_ints S k v
  clear hr hb em hS
  replace hfin := And.intro hfin trivial
  unfold c83l0
  repeat' (first
    | ((with_reducible refine T_calm ?_ ?_); rfl)
    | with_reducible first
      | refine T_seq ?_
      | refine T_reg ?_
      | refine T_draw ?_
      | refine T_skip ?_
      | refine T_exit ?_
      | refine T_block ?_
      | refine T_cond_t rfl ?_
      | refine T_cond_f rfl ?_
      | refine wdW_cons rfl ?_
      | ((first | refine T_cond rfl (fun hc => ?_) (fun hc => ?_) | refine wguard_split (fun hc => ?_) (fun hc => ?_) | refine wguardX_split (fun hc => ?_) (fun hc => ?_)) <;> have hd := hc <;> (try simp (disch := omega) only [wrapI] at hd) <;> have hs := hd <;> (try simp only [decide_eq_true_eq, decide_eq_false_iff_not, Int.not_lt] at hd) <;> (try simp at hs))
      | refine T_ret ?_
      | refine leave_of (.inr rfl) _ rfl ?_
      | refine leave_of (.inl rfl) _ rfl ?_
      | refine leaveA_of (.inr rfl) _ rfl ?_
      | refine leaveA_of (.inl rfl) _ rfl ?_
      | refine wif_intro ?_ (fun hc => ?_)
      | refine And.intro ?_ ?_
      | intro hc
    | simp (maxSteps := 4000000) only [wops_nil, wops_cons, wstep_none, wrun_mv, wrun_bin, wrun_load, wrun_store, wrun_iaddrS, wrun_iaddrA, wrunX_mv, wrunX_bin, wrunX_load, wrunX_store, wrunX_iaddrS, wrunX_iaddrA, wdW_nil, wstepX_none, wop, aop, ev, look, put_some, put_none, writes, ores_some, ores_ite_none, binV, thenK, blockK, value, cut, hget, putCells, AV.parts, isOne, toLits, mkAgg, List.length_cons, List.length_nil, List.take_succ_cons, List.take_zero, List.take_nil, List.drop_succ_cons, List.drop_zero, List.drop_nil, List.nil_append, List.append_nil, List.replicate_zero, List.getD_cons_zero, List.all_cons, List.all_nil, List.length_map, Option.getD_some, Option.map_some, if_true, if_false, Nat.reduceEqDiff, Nat.reduceAdd, Nat.add_zero, Nat.zero_add, Nat.mul_one, Nat.le_refl, reduceCtorEq, Bool.and_true, Bool.false_eq_true, eq_self, true_and, and_true, and_self, decide_true, List.all_cons, Int.toNat_natCast, *]
    | simp (disch := omega) only [wrapI]
    | omega)
  all_goals first | exact hfin.1 | (simp [St.only, get_mk, look]; done) | skip
set_option maxHeartbeats 8000000 in
theorem k83e {zi : Int} {nil : Bool} {l : List Rd} (a b : Int) (hl : l.length < 1000000) (h : (if checkR zi l ≠ 0 then checkR zi l else zErr zi a b) ≠ 0) : Fn Try.prog 83 [i64 zi, rdgs nil l, rgA a b] (.tup [.sl true 0 [], i64 (if checkR zi l ≠ 0 then checkR zi l else zErr zi a b)]) [] := by
  refine fn_of e83 ?_
  have h118 := k118 zi nil l a b hl
  generalize (if checkR zi l ≠ 0 then checkR zi l else zErr zi a b) = d at *
  have hd0 : (d != 0) = true := by simp only [bne_iff_ne]; exact h
  unfold c83
  repeat' (first
    | ((with_reducible refine T_calm ?_ ?_); rfl)
    | with_reducible first
      | refine T_seq ?_
      | refine T_reg ?_
      | refine T_draw ?_
      | refine T_skip ?_
      | refine T_exit ?_
      | refine T_block ?_
      | refine T_cond_t rfl ?_
      | refine T_cond_f rfl ?_
      | refine wdW_cons rfl ?_
      | (show wcall _ false (.lit (.func (.func 118) _ _)) _ _ _ _; refine wcall_fn (h118) rfl (by simp [plainL, plain]) ?_)
      | (show wcallX _ false (.lit (.func (.func 118) _ _)) _ _ _ _; refine wcallX_fn (h118) rfl (by simp [plainL, plain, plainR]) ?_)
      | ((first | refine T_cond rfl (fun hc => ?_) (fun hc => ?_) | refine wguard_split (fun hc => ?_) (fun hc => ?_) | refine wguardX_split (fun hc => ?_) (fun hc => ?_)) <;> have hd := hc <;> (try simp (disch := omega) only [wrapI] at hd) <;> have hs := hd <;> (try simp only [Bool.not_eq_true', Bool.not_eq_false', Bool.and_eq_true, Bool.and_eq_false_iff, Bool.or_eq_true, Bool.or_eq_false_iff, decide_eq_true_eq, decide_eq_false_iff_not, beq_iff_eq, bne_iff_ne, beq_eq_false_iff_ne, bne_eq_false_iff_eq, Bool.not_true, Bool.not_false, gt_iff_lt, ge_iff_le, Int.not_lt, Int.not_le, ne_eq, Decidable.not_not] at hd) <;> (try simp at hs))
      | refine T_ret ?_
      | refine leave_of (.inr rfl) _ rfl ?_
      | refine leave_of (.inl rfl) _ rfl ?_
      | refine leaveA_of (.inr rfl) _ rfl ?_
      | refine leaveA_of (.inl rfl) _ rfl ?_
      | refine wif_intro ?_ (fun hc => ?_)
      | refine And.intro ?_ ?_
      | intro hc
    | simp (maxSteps := 4000000) only [wops_nil, wops_cons, wstep_none, wrun_call, wrun_mv, wrun_bin, wrun_load, wrun_box, get_mk, wop, aop, ev, look, put_some, writes, ores_some, binV, thenK, value, cut, hget, AV.parts, isOne, toLits, mkAgg, tupOf, ofValue_int, List.map_cons, List.map_nil, List.length_cons, List.length_nil, List.getElem?_cons_zero, List.set_cons_zero, List.take_succ_cons, List.take_nil, List.drop_zero, List.nil_append, List.append_nil, List.replicate_zero, List.replicate_succ, List.getD_cons_zero, List.zipIdx_cons, List.zipIdx_nil, List.all_cons, List.all_nil, Option.getD_some, Option.map_some, if_true, if_false, Nat.reduceEqDiff, Nat.reduceAdd, Nat.add_zero, Nat.zero_add, Nat.zero_ne_one, reduceCtorEq, Bool.and_true, eq_self, true_and, and_self, freeze, lidsL, lids, List.flatMap_cons, List.flatMap_nil, List.all_cons, ren, renL, renR, *]
    | simp (disch := omega) only [getD_ints, wrapI]
    | (with_reducible show wcall _ false (.lit (.func (.func 118) _ _)) _ _ _ _; refine wcall_fn (h118) ?_ ?_ ?_; (next => simp [rfyL, rfy, hget, ints, take_rfy]); (next => simp [plainL, plain, plainR]))
    | (with_reducible show wcallX _ false (.lit (.func (.func 118) _ _)) _ _ _ _; refine wcallX_fn (h118) ?_ ?_ ?_; (next => simp [rfyL, rfy, hget, ints, take_rfy]); (next => simp [plainL, plain, plainR]))
    | omega)
set_option maxHeartbeats 8000000 in
theorem k83c {z : Nat} {nil : Bool} {l : List Rd} (a b : Int) (h : checkR z l = 0) (hz : zErr z a b = 0) (hcyc : ∀ r, r ≤ z → 0 ≤ (rnds (arcsL l l.length) z (r + 1)).at_) : Fn Try.prog 83 [i64 z, rdgs nil l, rgA a b] (.tup [.sl true 0 [], i64 13]) [] := by
  refine fn_of e83 ?_
  obtain ⟨hz2, hl, hrd⟩ := checkR_ok h
  have h118 := k118 z nil l a b (by omega)
  rw [if_neg (fun h2 => h2 h), hz] at h118
  have h132 := k132c (nil := nil) h hcyc
  clear hcyc hrd
  unfold c83
  repeat' (first
    | ((with_reducible refine T_calm ?_ ?_); rfl)
    | with_reducible first
      | refine T_seq ?_
      | refine T_reg ?_
      | refine T_draw ?_
      | refine T_skip ?_
      | refine T_exit ?_
      | refine T_block ?_
      | refine T_cond_t rfl ?_
      | refine T_cond_f rfl ?_
      | refine wdW_cons rfl ?_
      | (show wcall _ false (.lit (.func (.func 118) _ _)) _ _ _ _; refine wcall_fn (h118) rfl (by simp [plainL, plain]) ?_)
      | (show wcallX _ false (.lit (.func (.func 118) _ _)) _ _ _ _; refine wcallX_fn (h118) rfl (by simp [plainL, plain, plainR]) ?_)
      | (show wcall _ false (.lit (.func (.func 132) _ _)) _ _ _ _; refine wcall_fn (h132) rfl (by simp [plainL, plain]) ?_)
      | (show wcallX _ false (.lit (.func (.func 132) _ _)) _ _ _ _; refine wcallX_fn (h132) rfl (by simp [plainL, plain, plainR]) ?_)
      | ((first | refine T_cond rfl (fun hc => ?_) (fun hc => ?_) | refine wguard_split (fun hc => ?_) (fun hc => ?_) | refine wguardX_split (fun hc => ?_) (fun hc => ?_)) <;> have hd := hc <;> (try simp (disch := omega) only [wrapI] at hd) <;> have hs := hd <;> (try simp only [Bool.not_eq_true', Bool.not_eq_false', Bool.and_eq_true, Bool.and_eq_false_iff, Bool.or_eq_true, Bool.or_eq_false_iff, decide_eq_true_eq, decide_eq_false_iff_not, beq_iff_eq, bne_iff_ne, beq_eq_false_iff_ne, bne_eq_false_iff_eq, Bool.not_true, Bool.not_false, gt_iff_lt, ge_iff_le, Int.not_lt, Int.not_le, ne_eq, Decidable.not_not] at hd) <;> (try simp at hs))
      | refine T_ret ?_
      | refine leave_of (.inr rfl) _ rfl ?_
      | refine leave_of (.inl rfl) _ rfl ?_
      | refine leaveA_of (.inr rfl) _ rfl ?_
      | refine leaveA_of (.inl rfl) _ rfl ?_
      | refine wif_intro ?_ (fun hc => ?_)
      | refine And.intro ?_ ?_
      | intro hc
    | simp (maxSteps := 4000000) only [wops_nil, wops_cons, wstep_none, wrun_call, wrun_mv, wrun_bin, wrun_ext, wrun_load, wrun_box, get_mk, wop, aop, ev, look, put_some, writes, ores_some, binV, thenK, value, cut, hget, AV.parts, isOne, toLits, mkAgg, tupOf, ofValue_int, List.map_cons, List.map_nil, List.length_cons, List.length_nil, List.getElem?_cons_zero, List.getElem?_cons_succ, List.set_cons_zero, List.take_succ_cons, List.take_nil, List.drop_zero, List.nil_append, List.append_nil, List.replicate_zero, List.replicate_succ, List.getD_cons_zero, List.zipIdx_cons, List.zipIdx_nil, List.all_cons, List.all_nil, Option.getD_some, Option.map_some, if_true, if_false, Nat.reduceEqDiff, Nat.reduceAdd, Nat.add_zero, Nat.zero_add, Nat.zero_ne_one, reduceCtorEq, Bool.and_true, eq_self, true_and, and_self, freeze, lidsL, lids, List.flatMap_cons, List.flatMap_nil, List.all_cons, ren, renL, renR, *]
    | simp (disch := omega) only [getD_ints, wrapI]
    | (with_reducible show wcall _ false (.lit (.func (.func 118) _ _)) _ _ _ _; refine wcall_fn (h118) ?_ ?_ ?_; (next => simp [rfyL, rfy, hget, ints, take_rfy]); (next => simp [plainL, plain, plainR]))
    | (with_reducible show wcallX _ false (.lit (.func (.func 118) _ _)) _ _ _ _; refine wcallX_fn (h118) ?_ ?_ ?_; (next => simp [rfyL, rfy, hget, ints, take_rfy]); (next => simp [plainL, plain, plainR]))
    | (with_reducible show wcall _ false (.lit (.func (.func 132) _ _)) _ _ _ _; refine wcall_fn (h132) ?_ ?_ ?_; (next => simp [rfyL, rfy, hget, ints, take_rfy]); (next => simp [plainL, plain, plainR]))
    | (with_reducible show wcallX _ false (.lit (.func (.func 132) _ _)) _ _ _ _; refine wcallX_fn (h132) ?_ ?_ ?_; (next => simp [rfyL, rfy, hget, ints, take_rfy]); (next => simp [plainL, plain, plainR]))
    | omega)
set_option maxHeartbeats 8000000 in
theorem k83f {z : Nat} {nil : Bool} {l : List Rd} (a b : Int) (h : checkR z l = 0) (hz : zErr z a b = 0) (hnil : ∃ r, r ≤ z ∧ (rnds (arcsL l l.length) z (r + 1)).at_ < 0) (hw : ((tabM (arcsL l l.length) z).getD 0 []).any isFar = true) : Fn Try.prog 83 [i64 z, rdgs nil l, rgA a b] (.tup [.sl true 0 [], i64 25]) [] := by
  refine fn_of e83 ?_
  obtain ⟨hz2, hl, hrd⟩ := checkR_ok h
  have h118 := k118 z nil l a b (by omega)
  rw [if_neg (fun h2 => h2 h), hz] at h118
  have h132 := (k132n (nil := nil) h hnil).1 hw
  clear hnil hrd hw
  unfold c83
  repeat' (first
    | ((with_reducible refine T_calm ?_ ?_); rfl)
    | with_reducible first
      | refine T_seq ?_
      | refine T_reg ?_
      | refine T_draw ?_
      | refine T_skip ?_
      | refine T_exit ?_
      | refine T_block ?_
      | refine T_cond_t rfl ?_
      | refine T_cond_f rfl ?_
      | refine wdW_cons rfl ?_
      | (show wcall _ false (.lit (.func (.func 118) _ _)) _ _ _ _; refine wcall_fn (h118) rfl (by simp [plainL, plain]) ?_)
      | (show wcallX _ false (.lit (.func (.func 118) _ _)) _ _ _ _; refine wcallX_fn (h118) rfl (by simp [plainL, plain, plainR]) ?_)
      | (show wcall _ false (.lit (.func (.func 132) _ _)) _ _ _ _; refine wcall_fn (h132) rfl (by simp [plainL, plain]) ?_)
      | (show wcallX _ false (.lit (.func (.func 132) _ _)) _ _ _ _; refine wcallX_fn (h132) rfl (by simp [plainL, plain, plainR]) ?_)
      | ((first | refine T_cond rfl (fun hc => ?_) (fun hc => ?_) | refine wguard_split (fun hc => ?_) (fun hc => ?_) | refine wguardX_split (fun hc => ?_) (fun hc => ?_)) <;> have hd := hc <;> (try simp (disch := omega) only [wrapI] at hd) <;> have hs := hd <;> (try simp only [Bool.not_eq_true', Bool.not_eq_false', Bool.and_eq_true, Bool.and_eq_false_iff, Bool.or_eq_true, Bool.or_eq_false_iff, decide_eq_true_eq, decide_eq_false_iff_not, beq_iff_eq, bne_iff_ne, beq_eq_false_iff_ne, bne_eq_false_iff_eq, Bool.not_true, Bool.not_false, gt_iff_lt, ge_iff_le, Int.not_lt, Int.not_le, ne_eq, Decidable.not_not] at hd) <;> (try simp at hs))
      | refine T_ret ?_
      | refine leave_of (.inr rfl) _ rfl ?_
      | refine leave_of (.inl rfl) _ rfl ?_
      | refine leaveA_of (.inr rfl) _ rfl ?_
      | refine leaveA_of (.inl rfl) _ rfl ?_
      | refine wif_intro ?_ (fun hc => ?_)
      | refine And.intro ?_ ?_
      | intro hc
    | simp (maxSteps := 4000000) only [wops_nil, wops_cons, wstep_none, wrun_call, wrun_mv, wrun_bin, wrun_ext, wrun_load, wrun_box, get_mk, wop, aop, ev, look, put_some, writes, ores_some, binV, thenK, value, cut, hget, AV.parts, isOne, toLits, mkAgg, tupOf, ofValue_int, List.map_cons, List.map_nil, List.length_cons, List.length_nil, List.getElem?_cons_zero, List.getElem?_cons_succ, List.set_cons_zero, List.take_succ_cons, List.take_nil, List.drop_zero, List.nil_append, List.append_nil, List.replicate_zero, List.replicate_succ, List.getD_cons_zero, List.zipIdx_cons, List.zipIdx_nil, List.all_cons, List.all_nil, Option.getD_some, Option.map_some, if_true, if_false, Nat.reduceEqDiff, Nat.reduceAdd, Nat.add_zero, Nat.zero_add, Nat.zero_ne_one, reduceCtorEq, Bool.and_true, eq_self, true_and, and_self, freeze, lidsL, lids, List.flatMap_cons, List.flatMap_nil, List.all_cons, ren, renL, renR, *]
    | simp (disch := omega) only [getD_ints, wrapI]
    | (with_reducible show wcall _ false (.lit (.func (.func 118) _ _)) _ _ _ _; refine wcall_fn (h118) ?_ ?_ ?_; (next => simp [rfyL, rfy, hget, ints, take_rfy]); (next => simp [plainL, plain, plainR]))
    | (with_reducible show wcallX _ false (.lit (.func (.func 118) _ _)) _ _ _ _; refine wcallX_fn (h118) ?_ ?_ ?_; (next => simp [rfyL, rfy, hget, ints, take_rfy]); (next => simp [plainL, plain, plainR]))
    | (with_reducible show wcall _ false (.lit (.func (.func 132) _ _)) _ _ _ _; refine wcall_fn (h132) ?_ ?_ ?_; (next => simp [rfyL, rfy, hget, ints, take_rfy]); (next => simp [plainL, plain, plainR]))
    | (with_reducible show wcallX _ false (.lit (.func (.func 132) _ _)) _ _ _ _; refine wcallX_fn (h132) ?_ ?_ ?_; (next => simp [rfyL, rfy, hget, ints, take_rfy]); (next => simp [plainL, plain, plainR]))
    | omega)
/-- all lengths are known where the first zone reaches all -/
theorem all_fin {z : Nat} {l : List Rd} (h : checkR z l = 0) (hr : ∃ r, r ≤ z ∧ (rnds (arcsL l l.length) z (r + 1)).at_ < 0) (hw : ((tabM (arcsL l l.length) z).getD 0 []).any isFar = false) :
    ∀ i j, i < z → j < z → -41000000 ≤ mget (tabM (arcsL l l.length) z) i j ∧ mget (tabM (arcsL l l.length) z) i j ≤ 41000000 := by
  obtain ⟨hz, hl, hrd⟩ := checkR_ok h
  obtain ⟨hA, hN, hok⟩ := arcs_ok hrd
  have hn : (arcsL l l.length).length ≤ 200 := by have := arcsL_len l l.length; omega
  obtain ⟨P, hP1, hP2⟩ := rest_bound hA hn hr (by omega)
  have hS := tab_stt hA hN (by omega) hP1 hP2
  have hfar : far = 1099511627776 := rfl
  generalize tabM (arcsL l l.length) z = M at *
  have hbd := fun i j (hi : i < z) (hj : j < z) => hS.bd hA (Nat.le_refl _) (by omega) (i := i) (j := j) hi hj
  have hrow0 : ∀ k, k < z → mget M 0 k < far := fun k hk => by
    rw [List.any_eq_false] at hw
    have hk2 : k < (M.getD 0 []).length := by rw [hS.sq.hr 0 (by omega)]; exact hk
    have h1 := hw (mget M 0 k) (by
      unfold mget
      rw [List.getD_eq_getElem?_getD (l := M.getD 0 []), List.getElem?_eq_getElem hk2]
      exact List.getElem_mem hk2)
    rcases hbd 0 k (by omega) hk with h2 | h2
    · exfalso; apply h1; unfold isFar; rw [h2]; rfl
    · omega
  have hcol := fun i (hi : i < z) => hS.back hA (arcs_two l) (by omega) (i := 0) (j := i) (by omega) hi (hrow0 i hi)
  intro i j hi hj
  have h1 := hS.cl 0 i j (by omega) hi hj (hcol i hi) (hrow0 j hj)
  have h2 := hbd i 0 hi (by omega)
  have h3 := hbd 0 j (by omega) hj
  have h4 := hcol i hi
  have h5 := hrow0 j hj
  rcases hbd i j hi hj with h6 | h6
  · omega
  · exact h6
set_option maxHeartbeats 8000000 in
theorem k83n {z a b : Nat} {nil : Bool} {l : List Rd} (h : checkR z l = 0) (ha : a < z) (hb : b < z) (hnil : ∃ r, r ≤ z ∧ (rnds (arcsL l l.length) z (r + 1)).at_ < 0) (hw : ((tabM (arcsL l l.length) z).getD 0 []).any isFar = false) :
    Fn Try.prog 83 [i64 z, rdgs nil l, rgA a b] (.tup [.lsl 0 0 z, i64 0]) [.cells true false 1 ((subR ((tabM (arcsL l l.length) z).getD a []) (mget (tabM (arcsL l l.length) z) a 0) z).map fun x => [i64 x])] := by
  refine fn_of e83 ?_
  obtain ⟨hz2, hl, hrd⟩ := checkR_ok h
  obtain ⟨hA, hN, hok⟩ := arcs_ok hrd
  have hn : (arcsL l l.length).length ≤ 200 := by have := arcsL_len l l.length; omega
  have h118 := k118 z nil l a b (by omega)
  rw [if_neg (fun h2 => h2 h), show zErr z a b = 0 from if_pos (by omega)] at h118
  have h132 := (k132n (nil := nil) h hnil).2 hw
  have hfin := all_fin h hnil hw
  obtain ⟨P, hP1, hP2⟩ := rest_bound hA hn hnil (by omega)
  have hM := (tab_stt hA hN (by omega) hP1 hP2).sq
  generalize tabM (arcsL l l.length) z = M at *
  have hra := hM.hr a ha
  have h141 := k141 (M.getD a []) (by omega) (by omega)
  rw [hra] at h141
  have htab := tabF_at hM.hl [.cells true false 2 [[i64 a, i64 b]]]
  have e00 : Int.toNat 0 = 0 := rfl
  have hta : ((List.range z).map fun i => [AV.lsl (1 + 1 + i) 0 z]).getD a [] = [AV.lsl (1 + 1 + a) 0 z] := by simp [List.getD, ha]
  have hpl : plainL [ints false (M.getD a [])] = true := by simp [plainL]
  have hT : IsTo 1 z M (Blk.cells true false 2 [[i64 a, i64 b]] :: List.map (renB (shiftρ 1)) (tabF M z)) := htab
  have hp0 : (Blk.cells true false 2 [[i64 a, i64 b]] :: List.map (renB (shiftρ 1)) (tabF M z))[0]? = some (Blk.cells true false 2 [[i64 a, i64 b]]) := rfl
  generalize hgen : (Blk.cells true false 2 [[i64 a, i64 b]] :: List.map (renB (shiftρ 1)) (tabF M z)) = G at *
  replace hgen : Blk.cells true false 2 [[i64 a, i64 b]] :: List.map (renB (shiftρ 1)) (tabF M z) = G := hgen
  have hre := to_reR hT hM ha
  have hFj := fun j hj => to_frzR hT ha j hj
  have hTF := hT.freeze (lidsL (hget G) [.lsl (1 + 1 + a) 0 z])
  have hF0 := (hFj 0 (by omega)).trans hp0
  have hFl := hTF.lt (by omega)
  have hlen := freeze_len (lidsL (hget G) [.lsl (1 + 1 + a) 0 z]) G
  generalize hFe : freeze G (lidsL (hget G) [.lsl (1 + 1 + a) 0 z]) = F at *
  have hl2 := fun K k (hk : k < z) H h => k83l (b := b) (z := z) (N := G.length) (a := a) (M := M) (by omega) (by omega) hM ha hfin K k hk H h
  have hI0 : I83 z G.length M a b (subR (M.getD a []) (mget M a 0) 0) (F ++ [.cells true false 1 ((M.getD a []).map fun x => [i64 x])]) := by
    rw [subR_zero]
    exact ⟨hTF.app _, at_app hF0 _, by rw [← hlen, List.getElem?_append_right (Nat.le_refl _), Nat.sub_self]; rfl⟩
  obtain ⟨⟨w, ht⟩, hr⟩ := hT
  obtain ⟨wa, hraa⟩ := hr a ha
  replace hM := And.intro hM trivial
  replace hfin := And.intro hfin trivial
  replace hl2 := And.intro hl2 trivial
  have hq : (F ++ [.cells true false 1 ((M.getD a []).map fun x => [i64 x])])[G.length]? = some (.cells true false 1 ((M.getD a []).map fun x => [i64 x])) := by rw [← hlen, List.getElem?_append_right (Nat.le_refl _), Nat.sub_self]; rfl
  replace hI0 : id (I83 z G.length M a b (subR (M.getD a []) (mget M a 0) 0) (F ++ [.cells true false 1 ((M.getD a []).map fun x => [i64 x])])) := hI0
  replace hre := And.intro hre trivial
  replace hFe := And.intro hFe trivial
  clear hnil hP1 hP2 hA hN hok hrd hw htab hFj hTF hr hFl hlen
  unfold c83
  repeat' (first
    | ((with_reducible refine T_calm ?_ ?_); rfl)
    | with_reducible first
      | refine T_seq ?_
      | refine T_reg ?_
      | refine T_draw ?_
      | refine T_skip ?_
      | refine T_exit ?_
      | refine T_block ?_
      | refine T_cond_t rfl ?_
      | refine T_cond_f rfl ?_
      | refine wdW_cons rfl ?_
      | (show wcall _ false (.lit (.func (.func 118) _ _)) _ _ _ _; refine wcall_fn (h118) rfl (by simp [plainL, plain]) ?_)
      | (show wcallX _ false (.lit (.func (.func 118) _ _)) _ _ _ _; refine wcallX_fn (h118) rfl (by simp [plainL, plain, plainR, Int.toNat_natCast]) ?_)
      | (show wcall _ false (.lit (.func (.func 132) _ _)) _ _ _ _; refine wcall_fn (h132) rfl (by simp [plainL, plain]) ?_)
      | (show wcallX _ false (.lit (.func (.func 132) _ _)) _ _ _ _; refine wcallX_fn (h132) rfl (by simp [plainL, plain, plainR, Int.toNat_natCast]) ?_)
      | ((first | refine T_cond rfl (fun hc => ?_) (fun hc => ?_) | refine wguard_split (fun hc => ?_) (fun hc => ?_) | refine wguardX_split (fun hc => ?_) (fun hc => ?_)) <;> have hd := hc <;> (try simp (disch := omega) only [wrapI] at hd) <;> have hs := hd <;> (try simp only [Bool.not_eq_true', Bool.not_eq_false', Bool.and_eq_true, Bool.and_eq_false_iff, Bool.or_eq_true, Bool.or_eq_false_iff, decide_eq_true_eq, decide_eq_false_iff_not, beq_iff_eq, bne_iff_ne, beq_eq_false_iff_ne, bne_eq_false_iff_eq, Bool.not_true, Bool.not_false, gt_iff_lt, ge_iff_le, Int.not_lt, Int.not_le, ne_eq, Decidable.not_not] at hd) <;> (try simp at hs))
      | refine T_ret ?_
      | refine leave_of (.inr rfl) _ rfl ?_
      | refine leave_of (.inl rfl) _ rfl ?_
      | refine leaveA_of (.inr rfl) _ rfl ?_
      | refine leaveA_of (.inl rfl) _ rfl ?_
      | refine wif_intro ?_ (fun hc => ?_)
      | refine And.intro ?_ ?_
      | intro hc
    | simp (maxSteps := 4000000) only [wops_nil, wops_cons, wstep_none, wrun_call, wrun_mv, wrun_bin, wrun_ext, wrun_load, wrun_iaddrS, wrun_iaddrA, wrun_box, wop, aop, ev, look, put_some, writes, ores_some, ores_ite_none, binV, thenK, value, cut, hget, AV.parts, isOne, toLits, mkAgg, ofValue_int, List.map_cons, List.map_nil, List.length_cons, List.length_nil, List.getElem?_cons_zero, List.getElem?_cons_succ, List.set_cons_zero, List.take_succ_cons, List.take_zero, List.take_nil, List.drop_zero, List.cons_append, List.nil_append, List.append_nil, List.replicate_zero, List.replicate_succ, List.getD_cons_zero, List.zipIdx_cons, List.zipIdx_nil, List.all_cons, List.all_nil, Option.getD_some, Option.map_some, if_true, if_false, Nat.reduceEqDiff, Nat.reduceAdd, Nat.add_zero, Nat.zero_add, Nat.mul_one, Nat.zero_ne_one, reduceCtorEq, Bool.and_true, Bool.false_eq_true, eq_self, true_and, and_true, and_self, freeze, lidsL, lids, List.flatMap_cons, List.flatMap_nil, List.all_cons, ren, renL, shiftρ, Int.toNat_natCast, *]
    | simp (disch := omega) only [getD_ints, wrapI]
    | (with_reducible show wcall _ false (.lit (.func (.func 118) _ _)) _ _ _ _; refine wcall_fn (h118) ?_ ?_ ?_; (next => simp [rfyL, rfy, hget, ints, take_rfy, Int.toNat_natCast]); (next => simp [plainL, plain, plainR, Int.toNat_natCast]))
    | (with_reducible show wcallX _ false (.lit (.func (.func 118) _ _)) _ _ _ _; refine wcallX_fn (h118) ?_ ?_ ?_; (next => simp [rfyL, rfy, hget, ints, take_rfy, Int.toNat_natCast]); (next => simp [plainL, plain, plainR, Int.toNat_natCast]))
    | (with_reducible show wcall _ false (.lit (.func (.func 132) _ _)) _ _ _ _; refine wcall_fn (h132) ?_ ?_ ?_; (next => simp [rfyL, rfy, hget, ints, take_rfy, Int.toNat_natCast]); (next => simp [plainL, plain, plainR, Int.toNat_natCast]))
    | (with_reducible show wcallX _ false (.lit (.func (.func 132) _ _)) _ _ _ _; refine wcallX_fn (h132) ?_ ?_ ?_; (next => simp [rfyL, rfy, hget, ints, take_rfy, Int.toNat_natCast]); (next => simp [plainL, plain, plainR, Int.toNat_natCast]))
    | omega)
  refine wcall_fn h141 hre.1 hpl ?_
  rw [hFe.1]
  repeat' (first
    | ((with_reducible refine T_calm ?_ ?_); rfl)
    | with_reducible first
      | refine T_seq ?_
      | refine T_reg ?_
      | refine T_draw ?_
      | refine T_skip ?_
      | refine T_exit ?_
      | refine T_block ?_
      | refine T_cond_t rfl ?_
      | refine T_cond_f rfl ?_
      | refine wdW_cons rfl ?_
      | ((first | refine T_cond rfl (fun hc => ?_) (fun hc => ?_) | refine wguard_split (fun hc => ?_) (fun hc => ?_) | refine wguardX_split (fun hc => ?_) (fun hc => ?_)) <;> have hd := hc <;> (try simp (disch := omega) only [wrapI] at hd) <;> have hs := hd <;> (try simp only [Bool.not_eq_true', Bool.not_eq_false', Bool.and_eq_true, Bool.and_eq_false_iff, Bool.or_eq_true, Bool.or_eq_false_iff, decide_eq_true_eq, decide_eq_false_iff_not, beq_iff_eq, bne_iff_ne, beq_eq_false_iff_ne, bne_eq_false_iff_eq, Bool.not_true, Bool.not_false, gt_iff_lt, ge_iff_le, Int.not_lt, Int.not_le, ne_eq, Decidable.not_not] at hd) <;> (try simp at hs))
      | refine T_ret ?_
      | refine leave_of (.inr rfl) _ rfl ?_
      | refine leave_of (.inl rfl) _ rfl ?_
      | refine leaveA_of (.inr rfl) _ rfl ?_
      | refine leaveA_of (.inl rfl) _ rfl ?_
      | refine wif_intro ?_ (fun hc => ?_)
      | refine And.intro ?_ ?_
      | intro hc
    | simp (maxSteps := 4000000) only [wops_nil, wops_cons, wstep_none, wrun_mv, wrun_len, wop, aop, ev, look, put_some, writes, ores_some, ores_map, ores_bind, thenK, intV, lenOf, hget, List.map_cons, List.map_nil, List.length_cons, List.length_nil, List.append_nil, List.replicate_zero, List.length_append, Option.pure_def, Option.bind_eq_bind, Option.getD_some, if_true, if_false, Nat.reduceEqDiff, Nat.zero_add, reduceCtorEq, eq_self, ren, renB, shiftρ, renR_ints, renR_ints, *]
    | simp (disch := omega) only [getD_ints, wrapI]
    | omega)
  refine T_forH [5, 9, 11, 36, 37] (SL83 z G.length) z (fun k H => I83 z G.length M a b (subR (M.getD a []) (mget M a 0) k) H) 0 ?_ ?_ (Nat.zero_le _) ?_
  · simp [St.only, get_mk, look]
  · exact hI0
  intro k H hk hH
  by_cases hkz : k < z
  · exact hl2.1 _ k hkz H hH
  · have hke : k = z := by omega
    subst hke
    have ho := hH.o
    have hsl := subR_len (M.getD a []) (mget M a 0) k
    have hol := (List.getElem?_eq_some_iff.1 ho).1
    clear hH hl2 hI0
    generalize G.length = N at *
    unfold c83l0
    repeat' (first
      | ((with_reducible refine T_calm ?_ ?_); rfl)
      | with_reducible first
        | refine T_seq ?_
        | refine T_reg ?_
        | refine T_draw ?_
        | refine T_skip ?_
        | refine T_exit ?_
        | refine T_block ?_
        | refine T_cond_t rfl ?_
        | refine T_cond_f rfl ?_
        | refine wdW_cons rfl ?_
        | ((first | refine T_cond rfl (fun hc => ?_) (fun hc => ?_) | refine wguard_split (fun hc => ?_) (fun hc => ?_) | refine wguardX_split (fun hc => ?_) (fun hc => ?_)) <;> have hd := hc <;> (try simp (disch := omega) only [wrapI] at hd) <;> have hs := hd <;> (try simp only [decide_eq_true_eq, decide_eq_false_iff_not, Int.not_lt] at hd) <;> (try simp at hs))
        | refine T_ret ?_
        | refine wif_intro ?_ (fun hc => ?_)
        | refine And.intro ?_ ?_
        | intro hc
      | simp (maxSteps := 4000000) only [wops_nil, wops_cons, wstep_none, wrun_mv, wrun_bin, wop, aop, ev, look, put_some, writes, ores_some, binV, thenK, blockK, List.append_nil, List.replicate_zero, Option.map_some, if_true, if_false, Nat.reduceEqDiff, reduceCtorEq, eq_self, false_and, *]
      | simp (disch := omega) only [getD_ints, wrapI]
      | omega)
    exact leave_ids (.inr rfl) [.lsl N 0 k, i64 0] [N] rfl (fun id hid => by simp at hid; subst hid; exact hol) (by simp) ⟨by simp [tupOf, ren, renL, keepρ, pos], by simp [hget, ho, renB, renR_ints]⟩
end Go.Abs
