import Derived.Test.YtdedhipkncagjaaK531x
set_option linter.all false
set_option linter.unusedVariables false
set_option linter.unusedSimpArgs false
set_option linter.unusedSectionVars false
namespace Go.Abs
open Go.Proofs
theorem gP_not {n : Int} {a b u v : Int} (h : ¬gP n (a, b) (u, v)) : (decide (0 ≤ a) && decide (a ≤ n - 1)) = false ∨ ((decide (0 ≤ a) && decide (a ≤ n - 1)) = true ∧ (decide (0 ≤ b) && decide (b ≤ n - 1)) = false) ∨ ((decide (0 ≤ a) && decide (a ≤ n - 1)) = true ∧ (decide (0 ≤ b) && decide (b ≤ n - 1)) = true ∧ a = b)
    ∨ ((decide (0 ≤ a) && decide (a ≤ n - 1)) = true ∧ (decide (0 ≤ b) && decide (b ≤ n - 1)) = true ∧ a ≠ b ∧ (decide (0 ≤ u) && decide (u ≤ 100000)) = false)
    ∨ ((decide (0 ≤ a) && decide (a ≤ n - 1)) = true ∧ (decide (0 ≤ b) && decide (b ≤ n - 1)) = true ∧ a ≠ b ∧ (decide (0 ≤ u) && decide (u ≤ 100000)) = true ∧ (decide (0 ≤ v) && decide (v ≤ 100000)) = false) := by
  unfold gP at h
  dsimp only at h
  by_cases h1 : 0 ≤ a ∧ a ≤ n - 1
  · by_cases h2 : 0 ≤ b ∧ b ≤ n - 1
    · by_cases h3 : a = b
      · right; right; left; simp [h2.1, h2.2, h3]
      · by_cases h4 : 0 ≤ u ∧ u ≤ 100000
        · by_cases h5 : 0 ≤ v ∧ v ≤ 100000
          · exact (h ⟨⟨h1, h2⟩, h3, h4, h5⟩).elim
          · right; right; right; right; simp [h1.1, h1.2, h2.1, h2.2, h3, h4.1, h4.2]; omega
        · right; right; right; left; simp [h1.1, h1.2, h2.1, h2.2, h3]; omega
    · right; left; simp [h1.1, h1.2]; omega
  · left; simp; omega
set_option maxHeartbeats 8000000 in
theorem k6pb {hn pn en : Bool} {xs : List Int} {ps es : List (Int × Int)} (hee : es.length = ps.length) (hpl : ps.length ≤ 12) (hxl : xs.length ≤ 8) {k : Nat} (hk : k < ps.length) (hbad : ¬gP xs.length (ps.getD k (0, 0)) (es.getD k (0, 0))) (K : Exit → St → Prop) (hK : ∀ τ : St, τ.get 4 = .sl true 0 [] → τ.get 5 = bl false → K .ret τ) : T none Try.prog muts 131 0 c6l1 (S6b hn pn en xs ps es k) K := by
  have g1 := rgR_get0 hk
  have g2 := rgR_get0 (L := es) (k := k) (by omega)
  have l1 := rgR_len ps
  have l2 := rgR_len es
  have hkn : (k : Int) < (ps.length : Int) := by omega
  have hke : (k : Int) < (es.length : Int) := by omega
  have hrl := rdM_len xs ps es k
  unfold S6b
  generalize hP : ps.getD k (0, 0) = P at *
  generalize hE : es.getD k (0, 0) = E at *
  obtain ⟨a, b⟩ := P
  obtain ⟨u, v⟩ := E
  dsimp only at *
  have h10a := k10 a 0 ((xs.length : Int) - 1)
  have h10b := k10 b 0 ((xs.length : Int) - 1)
  have h10c := k10 u 0 100000
  have h10d := k10 v 0 100000
  have hc0 := gP_not hbad
  have ew1 : IntKind.i64.wrap ((xs.length : Int) - 1) = (xs.length : Int) - 1 := wrapI (by omega) (by omega)
  have hlh := (by simp : (xs.map fun x => [i64 x]).length = xs.length)
  have tz : Int.toNat 0 = 0 := rfl
  have to1 : Int.toNat 1 = 1 := rfl
  generalize (decide (0 ≤ a) && decide (a ≤ (xs.length : Int) - 1)) = B1 at *
  generalize (decide (0 ≤ b) && decide (b ≤ (xs.length : Int) - 1)) = B2 at *
  generalize (decide (0 ≤ u) && decide (u ≤ 100000)) = B3 at *
  generalize (decide (0 ≤ v) && decide (v ≤ 100000)) = B4 at *
  replace hK := PLift.up hK
  clear hP hE hbad
  generalize rdM xs ps es k = L at *
  obtain ⟨X, V, hX⟩ : ∃ X V, reB L = X ∧ reV 1 L = V := ⟨_, _, rfl, rfl⟩
  have hX2 : X = [] ∨ ∃ c, X = [c] := by
    rw [← hX.1]
    unfold reB
    split
    · exact .inl rfl
    · exact .inr ⟨_, rfl⟩
  rw [hX.1, hX.2]
  clear hX
  rcases hX2 with rfl | ⟨c, rfl⟩ <;> rcases hc0 with rfl | ⟨rfl, rfl⟩ | ⟨rfl, rfl, rfl⟩ | ⟨rfl, rfl, hne, rfl⟩ | ⟨rfl, rfl, hne, rfl, rfl⟩
  all_goals unfold c6l1
  all_goals
    repeat' (first | ((with_reducible refine T_calm ?_ ?_); rfl) | (with_reducible first | refine T_seq ?_ | refine T_reg ?_ | refine T_draw ?_ | refine T_skip ?_ | refine T_exit ?_ | refine T_block ?_ | refine T_cond_t rfl ?_ | refine T_cond_f rfl ?_ | refine wdW_cons rfl ?_ | (show wcall _ false (.lit (.func (.func 10) _ _)) _ _ _ _; refine wcall_fn (h10a) rfl (by simp [plainL, plain]) ?_) | (show wcallX _ false (.lit (.func (.func 10) _ _)) _ _ _ _; refine wcallX_fn (h10a) rfl (by simp [plainL, plain, plainR, Int.toNat_natCast]) ?_) | (show wcall _ false (.lit (.func (.func 10) _ _)) _ _ _ _; refine wcall_fn (h10b) rfl (by simp [plainL, plain]) ?_) | (show wcallX _ false (.lit (.func (.func 10) _ _)) _ _ _ _; refine wcallX_fn (h10b) rfl (by simp [plainL, plain, plainR, Int.toNat_natCast]) ?_) | (show wcall _ false (.lit (.func (.func 10) _ _)) _ _ _ _; refine wcall_fn (h10c) rfl (by simp [plainL, plain]) ?_) | (show wcallX _ false (.lit (.func (.func 10) _ _)) _ _ _ _; refine wcallX_fn (h10c) rfl (by simp [plainL, plain, plainR, Int.toNat_natCast]) ?_) | (show wcall _ false (.lit (.func (.func 10) _ _)) _ _ _ _; refine wcall_fn (h10d) rfl (by simp [plainL, plain]) ?_) | (show wcallX _ false (.lit (.func (.func 10) _ _)) _ _ _ _; refine wcallX_fn (h10d) rfl (by simp [plainL, plain, plainR, Int.toNat_natCast]) ?_) | ((first | refine T_cond rfl (fun hc => ?_) (fun hc => ?_) | refine wguard_split (fun hc => ?_) (fun hc => ?_) | refine wguardX_split (fun hc => ?_) (fun hc => ?_)) <;> have hd := hc <;> (try simp (disch := omega) only [wrapI] at hd) <;> have hs := hd <;> (try simp only [beq_iff_eq, beq_eq_false_iff_ne, Bool.not_false, ne_eq] at hd) <;> (try simp at hs)) | refine T_ret ?_ | refine wif_intro ?_ (fun hc => ?_) | refine And.intro ?_ ?_ | intro hc) | simp (maxSteps := 4000000) only [wops_nil, wops_cons, wstep_none, wstep_some, wguard_ff, wguard_tf, wrun_call, wrun_mv, wrun_pick, wrun_bin, wrun_not, wrun_load, wrun_store, wrun_faddr, wrun_iaddrS, wrun_iaddrA, wrun_len, wrun_alloc, wrunX_mv, wrunX_load, wrunX_store, wrunX_faddr, wrunX_iaddrS, wrunX_alloc, wdW_nil, wstepX_none, wop, aop, ev, look, put_some, put_none, writes, ores_some, ores_ite_none, ores_map, ores_bind, binV, thenK, blockK, boolV, intV, lenOf, value, cut, hget, putCells, AV.parts, isOne, toLits, mkAgg, ofValue_int, List.map_cons, List.map_nil, List.length_cons, List.length_nil, List.getElem?_cons_zero, List.getElem?_cons_succ, List.set_cons_zero, List.set_cons_succ, List.take_succ_cons, List.take_zero, List.take_nil, List.drop_succ_cons, List.drop_zero, List.drop_nil, List.cons_append, List.nil_append, List.append_nil, List.replicate_zero, List.replicate_succ, List.getD_cons_zero, List.all_cons, List.all_nil, Option.pure_def, Option.bind_eq_bind, Option.getD_some, Option.map_some, if_true, if_false, Nat.reduceEqDiff, Nat.reduceAdd, Nat.reduceLT, Nat.add_zero, Nat.zero_add, Nat.mul_one, Nat.le_refl, reduceCtorEq, Bool.not_true, Bool.not_false, Bool.and_true, Bool.false_eq_true, eq_self, true_and, and_true, and_self, decide_true, beq_self_eq_true, freeze, lidsL, lids, List.flatMap_cons, List.flatMap_nil, List.all_cons, ren, Int.toNat_natCast, *] | simp (disch := omega) only [getD_ints, wrapI] | (with_reducible show wcall _ false (.lit (.func (.func 10) _ _)) _ _ _ _; refine wcall_fn (h10a) ?_ ?_ ?_; (next => simp [rfyL, rfy, hget, ints, take_rfy, Int.toNat_natCast]); (next => simp [plainL, plain, plainR, Int.toNat_natCast])) | (with_reducible show wcallX _ false (.lit (.func (.func 10) _ _)) _ _ _ _; refine wcallX_fn (h10a) ?_ ?_ ?_; (next => simp [rfyL, rfy, hget, ints, take_rfy, Int.toNat_natCast]); (next => simp [plainL, plain, plainR, Int.toNat_natCast])) | (with_reducible show wcall _ false (.lit (.func (.func 10) _ _)) _ _ _ _; refine wcall_fn (h10b) ?_ ?_ ?_; (next => simp [rfyL, rfy, hget, ints, take_rfy, Int.toNat_natCast]); (next => simp [plainL, plain, plainR, Int.toNat_natCast])) | (with_reducible show wcallX _ false (.lit (.func (.func 10) _ _)) _ _ _ _; refine wcallX_fn (h10b) ?_ ?_ ?_; (next => simp [rfyL, rfy, hget, ints, take_rfy, Int.toNat_natCast]); (next => simp [plainL, plain, plainR, Int.toNat_natCast])) | (with_reducible show wcall _ false (.lit (.func (.func 10) _ _)) _ _ _ _; refine wcall_fn (h10c) ?_ ?_ ?_; (next => simp [rfyL, rfy, hget, ints, take_rfy, Int.toNat_natCast]); (next => simp [plainL, plain, plainR, Int.toNat_natCast])) | (with_reducible show wcallX _ false (.lit (.func (.func 10) _ _)) _ _ _ _; refine wcallX_fn (h10c) ?_ ?_ ?_; (next => simp [rfyL, rfy, hget, ints, take_rfy, Int.toNat_natCast]); (next => simp [plainL, plain, plainR, Int.toNat_natCast])) | (with_reducible show wcall _ false (.lit (.func (.func 10) _ _)) _ _ _ _; refine wcall_fn (h10d) ?_ ?_ ?_; (next => simp [rfyL, rfy, hget, ints, take_rfy, Int.toNat_natCast]); (next => simp [plainL, plain, plainR, Int.toNat_natCast])) | (with_reducible show wcallX _ false (.lit (.func (.func 10) _ _)) _ _ _ _; refine wcallX_fn (h10d) ?_ ?_ ?_; (next => simp [rfyL, rfy, hget, ints, take_rfy, Int.toNat_natCast]); (next => simp [plainL, plain, plainR, Int.toNat_natCast])) | (with_reducible refine wdW_cons ?_ ?_; (next => simp [chk, foot, compatB, argsOf, St.get, target, ev, look, lidsL, hget, kind, AOp.isRaw, wids, wtops, tops, opds, topId, Int.toNat_natCast]; done)) | omega)
  all_goals first | exact hK.down _ rfl rfl
end Go.Abs
