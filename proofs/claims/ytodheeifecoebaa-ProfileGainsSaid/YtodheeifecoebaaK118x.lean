import Derived.Test.YtodheeifecoebaaK117x
set_option linter.all false
set_option linter.unusedVariables false
set_option linter.unusedSimpArgs false
set_option linter.unusedSectionVars false
namespace Go.Abs
open Go.Proofs
/-! the widest pair -/
def wd (M : List (List Int)) (a b : Nat) : Int := mget M a b + mget M b a
def wIn (M : List (List Int)) (a : Nat) (s : Nat × Nat) : Nat → Nat × Nat
  | 0 => s
  | n + 1 => if wd M (wIn M a s n).1 (wIn M a s n).2 < wd M a (a + 1 + n) then (a, a + 1 + n) else wIn M a s n
def wOut (M : List (List Int)) (z : Nat) : Nat → Nat × Nat
  | 0 => (0, 1)
  | a + 1 => wIn M a (wOut M z a) (z - (a + 1))
theorem wIn_lt {M : List (List Int)} {z a : Nat} {s : Nat × Nat} (hs : s.1 < z ∧ s.2 < z) : ∀ n, a + 1 + n ≤ z → (wIn M a s n).1 < z ∧ (wIn M a s n).2 < z
  | 0, _ => hs
  | n + 1, h => by
    unfold wIn
    split
    · exact ⟨by omega, by omega⟩
    · exact wIn_lt hs n (by omega)
theorem wOut_lt {M : List (List Int)} {z : Nat} (hz : 2 ≤ z) : ∀ a, a ≤ z → (wOut M z a).1 < z ∧ (wOut M z a).2 < z
  | 0, _ => ⟨by show 0 < z; omega, by show 1 < z; omega⟩
  | a + 1, h => by
    unfold wOut
    exact wIn_lt (wOut_lt hz a (by omega)) _ (by omega)
structure I72 (z N : Nat) (M : List (List Int)) (p : Nat × Nat) (H : List Blk) : Prop where
  t : IsTo 1 z M H
  r : H[0]? = some (.cells true false 2 [[i64 0, i64 0]])
  p : H[N]? = some (.cells true false 2 [[i64 p.1, i64 p.2]])
abbrev SL72 (z N a b : Nat) : List (Nat × AV) := [(0, i64 z), (4, .loc 0 0 0), (6, .lsl 1 0 z), (8, .loc N 0 0), (9, i64 a), (10, i64 b), (26, i64 z), (27, i64 a)]
set_option maxHeartbeats 8000000 in
theorem k72l {z N a n : Nat} {s : Nat × Nat} {M : List (List Int)} (hz : 2 ≤ z ∧ z ≤ 40) (hN : 1 + z < N) (hM : Sq z M) (hb : ∀ i j, i < z → j < z → -41000000 ≤ mget M i j ∧ mget M i j ≤ 41000000) (hs : s.1 < z ∧ s.2 < z) (hn : a + 1 + n < z) (K : Exit → St → Prop) (H : List Blk) (hH : I72 z N M (wIn M a s n) H) :
    T none Try.prog muts 55 0 c72l0 ⟨SL72 z N a (a + 1 + n), H⟩ (thenK (fun s' => n < z - (a + 1) ∧ I72 z N M (wIn M a s (n + 1)) s'.heap ∧ (s'.only [0, 4, 6, 8, 9, 10, 26, 27]).slots = SL72 z N a (a + 1 + (n + 1))) K) := by
  have hp := wIn_lt (M := M) (a := a) hs n (by omega)
  have e : wIn M a s (n + 1) = if wd M (wIn M a s n).1 (wIn M a s n).2 < wd M a (a + 1 + n) then (a, a + 1 + n) else wIn M a s n := rfl
  rw [e]
  generalize wIn M a s n = q at *
  obtain ⟨x, y⟩ := q
  dsimp only at hp ⊢
  obtain ⟨b, hbe⟩ : ∃ b, b = a + 1 + n := ⟨_, rfl⟩
  have hbs : a + 1 + (n + 1) = b + 1 := by omega
  rw [hbs, ← hbe]
  have hnz : n < z - (a + 1) := by omega
  have hbz : b < z := by omega
  clear hbs hbe
  have h98a := k98 (M := M) (i := a) (j := b) (by omega) hM (by omega) (by omega) (by have := hb b a (by omega) (by omega); omega)
  have h98b := k98 (M := M) (i := x) (j := y) (by omega) hM hp.1 hp.2 (by have := hb y x (by omega) (by omega); omega)
  have b1 := hb a b (by omega) (by omega)
  have b2 := hb b a (by omega) (by omega)
  have b3 := hb x y (by omega) (by omega)
  have b4 := hb y x (by omega) (by omega)
  have h133a := k133 (-(mget M b a)) (mget M a b) (by omega)
  have h133b := k133 (-(mget M y x)) (mget M x y) (by omega)
  have e1 : mget M a b - -(mget M b a) = wd M a b := by unfold wd; omega
  have e2 : mget M x y - -(mget M y x) = wd M x y := by unfold wd; omega
  rw [e1] at h133a
  rw [e2] at h133b
  have hpl1 : plainL [tblV M, i64 a, i64 b] = true := by simp only [plainL, plain_tbl]; rfl
  have hpl2 : plainL [tblV M, i64 x, i64 y] = true := by simp only [plainL, plain_tbl]; rfl
  obtain ⟨hT, hr, hpb⟩ := hH
  have hNl := (List.getElem?_eq_some_iff.1 hpb).1
  dsimp only at hpb
  have e00 : Int.toNat 0 = 0 := rfl
  have e01 : Int.toNat 1 = 1 := rfl
  replace hT := And.intro hT trivial
  replace hM := And.intro hM trivial
  clear hb e e1 e2
  unfold c72l0
  by_cases hc : wd M x y < wd M a b
  · rw [if_pos hc]
    have hdc : decide (wd M a b > wd M x y) = true := by simp only [decide_eq_true_eq]; exact hc
    replace hc := And.intro hc trivial
    repeat' (first
      | ((with_reducible refine T_calm ?_ ?_); rfl)
      | with_reducible first
        | refine T_seq ?_
        | refine T_reg ?_
        | refine T_draw ?_
        | refine T_skip ?_
        | refine T_exit ?_
        | refine T_block ?_
        | refine T_cond_t rfl ?_
        | refine T_cond_f rfl ?_
        | refine wdW_cons rfl ?_
        | ((first | refine T_cond rfl (fun hc => ?_) (fun hc => ?_) | refine wguard_split (fun hc => ?_) (fun hc => ?_) | refine wguardX_split (fun hc => ?_) (fun hc => ?_)) <;> have hd := hc <;> (try simp (disch := omega) only [wrapI] at hd) <;> have hs := hd <;> (try simp only [decide_eq_true_eq, decide_eq_false_iff_not, Int.not_lt] at hd) <;> (try simp at hs))
        | refine T_ret ?_
        | refine leave_of (.inr rfl) _ rfl ?_
        | refine leave_of (.inl rfl) _ rfl ?_
        | refine leaveA_of (.inr rfl) _ rfl ?_
        | refine leaveA_of (.inl rfl) _ rfl ?_
        | refine wif_intro ?_ (fun hc => ?_)
        | refine And.intro ?_ ?_
        | intro hc
      | simp (maxSteps := 4000000) only [wops_nil, wops_cons, wstep_none, wrun_mv, wrun_bin, wrunX_mv, wstepX_none, wrunX_call, wop, aop, ev, look, put_some, writes, ores_some, binV, thenK, List.map_cons, List.map_nil, List.append_nil, List.replicate_zero, Option.map_some, if_true, if_false, Nat.reduceEqDiff, reduceCtorEq, eq_self, true_and, decide_true, *]
      | simp (disch := omega) only [getD_ints, wrapI]
      | omega)
    refine wcallX_fn h98a (to_re hT.1 hM.1 a b) hpl1 ?_
    obtain ⟨hF, hFj⟩ := to_frz hT.1 a b
    have hf0 := (hFj 0 (by omega)).trans hr
    have hfN := (hFj N (by omega)).trans hpb
    have hFl := freeze_len (lidsL (hget H) [.lsl 1 0 z, i64 a, i64 b]) H
    generalize freeze H (lidsL (hget H) [.lsl 1 0 z, i64 a, i64 b]) = F at *
    have hNF : N < F.length := by omega
    clear hFj hr hpb hFl hT
    replace hF := And.intro hF trivial
    repeat' (first
      | ((with_reducible refine T_calm ?_ ?_); rfl)
      | with_reducible first
        | refine T_seq ?_
        | refine T_reg ?_
        | refine T_draw ?_
        | refine T_skip ?_
        | refine T_exit ?_
        | refine T_block ?_
        | refine T_cond_t rfl ?_
        | refine T_cond_f rfl ?_
        | refine wdW_cons rfl ?_
        | (show wcall _ false (.lit (.func (.func 133) _ _)) _ _ _ _; refine wcall_fn (h133a) rfl (by simp [plainL, plain, plainR, Int.toNat_natCast, flat_rows4', hNl, hNF]) ?_)
        | (show wcallX _ false (.lit (.func (.func 133) _ _)) _ _ _ _; refine wcallX_fn (h133a) rfl (by simp [plainL, plain]) ?_)
        | ((first | refine T_cond rfl (fun hc => ?_) (fun hc => ?_) | refine wguard_split (fun hc => ?_) (fun hc => ?_) | refine wguardX_split (fun hc => ?_) (fun hc => ?_)) <;> have hd := hc <;> (try simp (disch := omega) only [wrapI] at hd) <;> have hs := hd <;> (try simp only [Bool.not_eq_true', Bool.not_eq_false', Bool.and_eq_true, Bool.and_eq_false_iff, Bool.or_eq_true, Bool.or_eq_false_iff, decide_eq_true_eq, decide_eq_false_iff_not, beq_iff_eq, bne_iff_ne, beq_eq_false_iff_ne, bne_eq_false_iff_eq, Bool.not_true, Bool.not_false, gt_iff_lt, ge_iff_le, Int.not_lt, Int.not_le, ne_eq, Decidable.not_not] at hd) <;> (try simp at hs))
        | refine T_ret ?_
        | refine leave_of (.inr rfl) _ rfl ?_
        | refine leave_of (.inl rfl) _ rfl ?_
        | refine leaveA_of (.inr rfl) _ rfl ?_
        | refine leaveA_of (.inl rfl) _ rfl ?_
        | refine wif_intro ?_ (fun hc => ?_)
        | refine And.intro ?_ ?_
        | intro hc
      | simp (maxSteps := 4000000) only [wrun_mv, wrun_load, wrun_iaddrA, wrunX_mv, wrunX_load, wrunX_iaddrA, wstepX_none, wrunX_call, wop, aop, ev, look, put_some, writes, ores_some, ores_ite_none, value, cut, hget, toLits, mkAgg, List.map_cons, List.map_nil, List.length_cons, List.length_nil, List.take_succ_cons, List.take_zero, List.take_nil, List.drop_succ_cons, List.drop_zero, List.append_nil, List.getD_cons_zero, Option.getD_some, Option.map_some, if_true, if_false, Nat.reduceEqDiff, Nat.add_zero, Nat.zero_add, Nat.mul_one, reduceCtorEq, Bool.false_eq_true, eq_self, freeze, lidsL, lids, List.flatMap_cons, List.flatMap_nil, ren, *]
      | simp (disch := omega) only [getD_ints, wrapI]
      | (with_reducible show wcall _ false (.lit (.func (.func 133) _ _)) _ _ _ _; refine wcall_fn (h133a) ?_ ?_ ?_; (next => simp [rfyL, rfy, hget, ints, take_rfy, Int.toNat_natCast, flat_rows4', hNl, hNF]); (next => simp [plainL, plain, plainR, Int.toNat_natCast, flat_rows4', hNl, hNF]))
      | (with_reducible show wcallX _ false (.lit (.func (.func 133) _ _)) _ _ _ _; refine wcallX_fn (h133a) ?_ ?_ ?_; (next => simp [rfyL, rfy, hget, ints, take_rfy, Int.toNat_natCast, flat_rows4', hNl, hNF]); (next => simp [plainL, plain, plainR, Int.toNat_natCast, flat_rows4', hNl, hNF]))
      | (with_reducible refine wdW_cons ?_ ?_; (next => simp [chk, foot, compatB, argsOf, St.get, target, ev, look, lidsL, lids, hget, kind, wids, tops, opds, topId, hNl, hNF]))
      | omega)
    refine wcallX_fn h98b (to_re hF.1 hM.1 x y) hpl2 ?_
    obtain ⟨hG, hGj⟩ := to_frz hF.1 x y
    have hg0 := (hGj 0 (by omega)).trans hf0
    have hgN := (hGj N (by omega)).trans hfN
    generalize freeze F (lidsL (hget F) [.lsl 1 0 z, i64 x, i64 y]) = G at *
    have hNG := (List.getElem?_eq_some_iff.1 hgN).1
    have hfin : I72 z N M (a, b) (G.set N (.cells true false 2 [[i64 a, i64 b]])) := ⟨hG.set (.inr (by omega)) _, by rw [List.getElem?_set_ne (by omega)]; exact hg0, List.getElem?_set_self hNG⟩
    clear hg0 hG
    clear hGj hf0 hfN hF
    replace hfin := And.intro hfin trivial
    repeat' (first
      | ((with_reducible refine T_calm ?_ ?_); rfl)
      | with_reducible first
        | refine T_seq ?_
        | refine T_reg ?_
        | refine T_draw ?_
        | refine T_skip ?_
        | refine T_exit ?_
        | refine T_block ?_
        | refine T_cond_t rfl ?_
        | refine T_cond_f rfl ?_
        | refine wdW_cons rfl ?_
        | (show wcall _ false (.lit (.func (.func 133) _ _)) _ _ _ _; refine wcall_fn (h133b) rfl (by simp [plainL, plain, plainR, Int.toNat_natCast, flat_rows4', hNl, hNF]) ?_)
        | (show wcallX _ false (.lit (.func (.func 133) _ _)) _ _ _ _; refine wcallX_fn (h133b) rfl (by simp [plainL, plain]) ?_)
        | ((first | refine T_cond rfl (fun hc => ?_) (fun hc => ?_) | refine wguard_split (fun hc => ?_) (fun hc => ?_) | refine wguardX_split (fun hc => ?_) (fun hc => ?_)) <;> have hd := hc <;> (try simp (disch := omega) only [wrapI] at hd) <;> have hs := hd <;> (try simp only [Bool.not_eq_true', Bool.not_eq_false', Bool.and_eq_true, Bool.and_eq_false_iff, Bool.or_eq_true, Bool.or_eq_false_iff, decide_eq_true_eq, decide_eq_false_iff_not, beq_iff_eq, bne_iff_ne, beq_eq_false_iff_ne, bne_eq_false_iff_eq, Bool.not_true, Bool.not_false, gt_iff_lt, ge_iff_le, Int.not_lt, Int.not_le, ne_eq, Decidable.not_not] at hd) <;> (try simp at hs))
        | refine T_ret ?_
        | refine leave_of (.inr rfl) _ rfl ?_
        | refine leave_of (.inl rfl) _ rfl ?_
        | refine leaveA_of (.inr rfl) _ rfl ?_
        | refine leaveA_of (.inl rfl) _ rfl ?_
        | refine wif_intro ?_ (fun hc => ?_)
        | refine And.intro ?_ ?_
        | intro hc
      | simp (maxSteps := 4000000) only [wops_nil, wops_cons, wstep_none, wrun_mv, wrun_bin, wrun_build, wrun_store, wrunX_bin, wdW_nil, wstepX_none, wrunX_call, wop, aop, ev, look, put_some, put_none, writes, ores_some, ores_ite_none, ores_map, wif_true, binV, thenK, blockK, hget, fillA, putCells, AV.parts, isOne, toLits, mkAgg, ofValue_int, List.map_cons, List.map_nil, List.length_cons, List.length_nil, List.set_cons_zero, List.take_succ_cons, List.take_zero, List.drop_succ_cons, List.drop_zero, List.drop_nil, List.cons_append, List.nil_append, List.append_nil, List.append_assoc, List.replicate_zero, List.getD_cons_zero, List.all_cons, List.all_nil, List.length_append, Option.getD_some, Option.map_some, if_true, if_false, Nat.reduceEqDiff, Nat.reduceAdd, Nat.reduceLeDiff, Nat.reduceLT, Nat.zero_add, Nat.le_refl, reduceCtorEq, Bool.and_true, eq_self, true_and, and_true, and_self, decide_true, freeze, lidsL, lids, List.flatMap_cons, List.flatMap_nil, List.all_cons, ren, *]
      | simp (disch := omega) only [wrapI]
      | (with_reducible show wcall _ false (.lit (.func (.func 133) _ _)) _ _ _ _; refine wcall_fn (h133b) ?_ ?_ ?_; (next => simp [rfyL, rfy, hget, ints, take_rfy, Int.toNat_natCast, flat_rows4', hNl, hNF]); (next => simp [plainL, plain, plainR, Int.toNat_natCast, flat_rows4', hNl, hNF]))
      | (with_reducible show wcallX _ false (.lit (.func (.func 133) _ _)) _ _ _ _; refine wcallX_fn (h133b) ?_ ?_ ?_; (next => simp [rfyL, rfy, hget, ints, take_rfy, Int.toNat_natCast, flat_rows4', hNl, hNF]); (next => simp [plainL, plain, plainR, Int.toNat_natCast, flat_rows4', hNl, hNF]))
      | (with_reducible refine wdW_cons ?_ ?_; (next => simp [chk, foot, compatB, argsOf, St.get, target, ev, look, lidsL, lids, hget, kind, wids, tops, opds, topId, Int.toNat_natCast, flat_rows4', hNl, hNF]))
      | omega)
    all_goals first | exact hfin.1 | (simp [St.only, get_mk, look]; done)
  · rw [if_neg hc]
    have hdc : decide (wd M a b > wd M x y) = false := by simp only [decide_eq_false_iff_not]; exact hc
    replace hc := And.intro hc trivial
    repeat' (first
      | ((with_reducible refine T_calm ?_ ?_); rfl)
      | with_reducible first
        | refine T_seq ?_
        | refine T_reg ?_
        | refine T_draw ?_
        | refine T_skip ?_
        | refine T_exit ?_
        | refine T_block ?_
        | refine T_cond_t rfl ?_
        | refine T_cond_f rfl ?_
        | refine wdW_cons rfl ?_
        | ((first | refine T_cond rfl (fun hc => ?_) (fun hc => ?_) | refine wguard_split (fun hc => ?_) (fun hc => ?_) | refine wguardX_split (fun hc => ?_) (fun hc => ?_)) <;> have hd := hc <;> (try simp (disch := omega) only [wrapI] at hd) <;> have hs := hd <;> (try simp only [decide_eq_true_eq, decide_eq_false_iff_not, Int.not_lt] at hd) <;> (try simp at hs))
        | refine T_ret ?_
        | refine leave_of (.inr rfl) _ rfl ?_
        | refine leave_of (.inl rfl) _ rfl ?_
        | refine leaveA_of (.inr rfl) _ rfl ?_
        | refine leaveA_of (.inl rfl) _ rfl ?_
        | refine wif_intro ?_ (fun hc => ?_)
        | refine And.intro ?_ ?_
        | intro hc
      | simp (maxSteps := 4000000) only [wops_nil, wops_cons, wstep_none, wrun_mv, wrun_bin, wrunX_mv, wstepX_none, wrunX_call, wop, aop, ev, look, put_some, writes, ores_some, binV, thenK, List.map_cons, List.map_nil, List.append_nil, List.replicate_zero, Option.map_some, if_true, if_false, Nat.reduceEqDiff, reduceCtorEq, eq_self, true_and, decide_true, *]
      | simp (disch := omega) only [getD_ints, wrapI]
      | omega)
    refine wcallX_fn h98a (to_re hT.1 hM.1 a b) hpl1 ?_
    obtain ⟨hF, hFj⟩ := to_frz hT.1 a b
    have hf0 := (hFj 0 (by omega)).trans hr
    have hfN := (hFj N (by omega)).trans hpb
    have hFl := freeze_len (lidsL (hget H) [.lsl 1 0 z, i64 a, i64 b]) H
    generalize freeze H (lidsL (hget H) [.lsl 1 0 z, i64 a, i64 b]) = F at *
    have hNF : N < F.length := by omega
    clear hFj hr hpb hFl hT
    replace hF := And.intro hF trivial
    repeat' (first
      | ((with_reducible refine T_calm ?_ ?_); rfl)
      | with_reducible first
        | refine T_seq ?_
        | refine T_reg ?_
        | refine T_draw ?_
        | refine T_skip ?_
        | refine T_exit ?_
        | refine T_block ?_
        | refine T_cond_t rfl ?_
        | refine T_cond_f rfl ?_
        | refine wdW_cons rfl ?_
        | (show wcall _ false (.lit (.func (.func 133) _ _)) _ _ _ _; refine wcall_fn (h133a) rfl (by simp [plainL, plain, plainR, Int.toNat_natCast, flat_rows4', hNl, hNF]) ?_)
        | (show wcallX _ false (.lit (.func (.func 133) _ _)) _ _ _ _; refine wcallX_fn (h133a) rfl (by simp [plainL, plain]) ?_)
        | ((first | refine T_cond rfl (fun hc => ?_) (fun hc => ?_) | refine wguard_split (fun hc => ?_) (fun hc => ?_) | refine wguardX_split (fun hc => ?_) (fun hc => ?_)) <;> have hd := hc <;> (try simp (disch := omega) only [wrapI] at hd) <;> have hs := hd <;> (try simp only [Bool.not_eq_true', Bool.not_eq_false', Bool.and_eq_true, Bool.and_eq_false_iff, Bool.or_eq_true, Bool.or_eq_false_iff, decide_eq_true_eq, decide_eq_false_iff_not, beq_iff_eq, bne_iff_ne, beq_eq_false_iff_ne, bne_eq_false_iff_eq, Bool.not_true, Bool.not_false, gt_iff_lt, ge_iff_le, Int.not_lt, Int.not_le, ne_eq, Decidable.not_not] at hd) <;> (try simp at hs))
        | refine T_ret ?_
        | refine leave_of (.inr rfl) _ rfl ?_
        | refine leave_of (.inl rfl) _ rfl ?_
        | refine leaveA_of (.inr rfl) _ rfl ?_
        | refine leaveA_of (.inl rfl) _ rfl ?_
        | refine wif_intro ?_ (fun hc => ?_)
        | refine And.intro ?_ ?_
        | intro hc
      | simp (maxSteps := 4000000) only [wrun_mv, wrun_load, wrun_iaddrA, wrunX_mv, wrunX_load, wrunX_iaddrA, wstepX_none, wrunX_call, wop, aop, ev, look, put_some, writes, ores_some, ores_ite_none, value, cut, hget, toLits, mkAgg, List.map_cons, List.map_nil, List.length_cons, List.length_nil, List.take_succ_cons, List.take_zero, List.take_nil, List.drop_succ_cons, List.drop_zero, List.append_nil, List.getD_cons_zero, Option.getD_some, Option.map_some, if_true, if_false, Nat.reduceEqDiff, Nat.add_zero, Nat.zero_add, Nat.mul_one, reduceCtorEq, Bool.false_eq_true, eq_self, freeze, lidsL, lids, List.flatMap_cons, List.flatMap_nil, ren, *]
      | simp (disch := omega) only [getD_ints, wrapI]
      | (with_reducible show wcall _ false (.lit (.func (.func 133) _ _)) _ _ _ _; refine wcall_fn (h133a) ?_ ?_ ?_; (next => simp [rfyL, rfy, hget, ints, take_rfy, Int.toNat_natCast, flat_rows4', hNl, hNF]); (next => simp [plainL, plain, plainR, Int.toNat_natCast, flat_rows4', hNl, hNF]))
      | (with_reducible show wcallX _ false (.lit (.func (.func 133) _ _)) _ _ _ _; refine wcallX_fn (h133a) ?_ ?_ ?_; (next => simp [rfyL, rfy, hget, ints, take_rfy, Int.toNat_natCast, flat_rows4', hNl, hNF]); (next => simp [plainL, plain, plainR, Int.toNat_natCast, flat_rows4', hNl, hNF]))
      | (with_reducible refine wdW_cons ?_ ?_; (next => simp [chk, foot, compatB, argsOf, St.get, target, ev, look, lidsL, lids, hget, kind, wids, tops, opds, topId, hNl, hNF]))
      | omega)
    refine wcallX_fn h98b (to_re hF.1 hM.1 x y) hpl2 ?_
    obtain ⟨hG, hGj⟩ := to_frz hF.1 x y
    have hg0 := (hGj 0 (by omega)).trans hf0
    have hgN := (hGj N (by omega)).trans hfN
    generalize freeze F (lidsL (hget F) [.lsl 1 0 z, i64 x, i64 y]) = G at *
    have hNG := (List.getElem?_eq_some_iff.1 hgN).1
    have hfin : I72 z N M (x, y) G := ⟨hG, hg0, hgN⟩
    clear hg0 hgN hG
    clear hGj hf0 hfN hF
    replace hfin := And.intro hfin trivial
    repeat' (first
      | ((with_reducible refine T_calm ?_ ?_); rfl)
      | with_reducible first
        | refine T_seq ?_
        | refine T_reg ?_
        | refine T_draw ?_
        | refine T_skip ?_
        | refine T_exit ?_
        | refine T_block ?_
        | refine T_cond_t rfl ?_
        | refine T_cond_f rfl ?_
        | refine wdW_cons rfl ?_
        | (show wcall _ false (.lit (.func (.func 133) _ _)) _ _ _ _; refine wcall_fn (h133b) rfl (by simp [plainL, plain, plainR, Int.toNat_natCast, flat_rows4', hNl, hNF]) ?_)
        | (show wcallX _ false (.lit (.func (.func 133) _ _)) _ _ _ _; refine wcallX_fn (h133b) rfl (by simp [plainL, plain]) ?_)
        | ((first | refine T_cond rfl (fun hc => ?_) (fun hc => ?_) | refine wguard_split (fun hc => ?_) (fun hc => ?_) | refine wguardX_split (fun hc => ?_) (fun hc => ?_)) <;> have hd := hc <;> (try simp (disch := omega) only [wrapI] at hd) <;> have hs := hd <;> (try simp only [Bool.not_eq_true', Bool.not_eq_false', Bool.and_eq_true, Bool.and_eq_false_iff, Bool.or_eq_true, Bool.or_eq_false_iff, decide_eq_true_eq, decide_eq_false_iff_not, beq_iff_eq, bne_iff_ne, beq_eq_false_iff_ne, bne_eq_false_iff_eq, Bool.not_true, Bool.not_false, gt_iff_lt, ge_iff_le, Int.not_lt, Int.not_le, ne_eq, Decidable.not_not] at hd) <;> (try simp at hs))
        | refine T_ret ?_
        | refine leave_of (.inr rfl) _ rfl ?_
        | refine leave_of (.inl rfl) _ rfl ?_
        | refine leaveA_of (.inr rfl) _ rfl ?_
        | refine leaveA_of (.inl rfl) _ rfl ?_
        | refine wif_intro ?_ (fun hc => ?_)
        | refine And.intro ?_ ?_
        | intro hc
      | simp (maxSteps := 4000000) only [wops_nil, wops_cons, wstep_none, wrun_mv, wrun_bin, wrunX_bin, wdW_nil, wstepX_none, wrunX_call, wop, aop, ev, look, put_some, writes, ores_some, binV, thenK, blockK, List.map_cons, List.map_nil, List.append_nil, List.replicate_zero, Option.map_some, if_true, if_false, Nat.reduceEqDiff, reduceCtorEq, eq_self, true_and, decide_false, freeze, lidsL, lids, List.flatMap_cons, List.flatMap_nil, ren, *]
      | simp (disch := omega) only [wrapI]
      | (with_reducible show wcall _ false (.lit (.func (.func 133) _ _)) _ _ _ _; refine wcall_fn (h133b) ?_ ?_ ?_; (next => simp [rfyL, rfy, hget, ints, take_rfy, Int.toNat_natCast, flat_rows4', hNl, hNF]); (next => simp [plainL, plain, plainR, Int.toNat_natCast, flat_rows4', hNl, hNF]))
      | (with_reducible show wcallX _ false (.lit (.func (.func 133) _ _)) _ _ _ _; refine wcallX_fn (h133b) ?_ ?_ ?_; (next => simp [rfyL, rfy, hget, ints, take_rfy, Int.toNat_natCast, flat_rows4', hNl, hNF]); (next => simp [plainL, plain, plainR, Int.toNat_natCast, flat_rows4', hNl, hNF]))
      | (with_reducible refine wdW_cons ?_ ?_; (next => simp [chk, foot, compatB, argsOf, St.get, target, ev, look, lidsL, lids, hget, kind, wids, tops, opds, topId, Int.toNat_natCast, flat_rows4', hNl, hNF]))
      | omega)
    all_goals first | exact hfin.1 | (simp [St.only, get_mk, look]; done)
end Go.Abs
