import Derived.Test.YtpfmamngjefohaaK37x
set_option linter.all false
set_option linter.unusedVariables false
set_option linter.unusedSimpArgs false
set_option linter.unusedSectionVars false
namespace Go.Abs
open Go.Proofs
/-! Shortest, without the sequence -/
def pM : Pol → Int
  | none => 0
  | some x => x.2
def pE : Pol → Int
  | none => 12
  | some _ => 0
def Junk (s : AV) : Prop := ∀ ρ, ren ρ s = s
theorem junk1 : Junk (.sl true 0 []) := fun ρ => by simp [ren, renR]
theorem junk2 : Junk .top1 := fun ρ => by simp [ren]
set_option maxHeartbeats 8000000 in
theorem k16w (nil : Bool) (l : List Gr) (a b : Int) (hl : l.length < 1000000) (hsz : ∀ k, k < l.length → (l.getD k gr0).nm.size ≤ 30) (hg : gE l = 0) (hd : dpB a b = true) : ∃ s, Junk s ∧ Fn Try.prog 16 [gts nil l, prV a b] (.tup [s, i64 (pM (bst l b 1000000 a)), i64 (pE (bst l b 1000000 a))]) [] := by
  have h16 := k16 nil l a b hl hsz hg hd
  have h65 := k65 nil l a b hl hsz
  have hc : cdE l a b = 0 := by unfold cdE; rw [if_neg (fun h => h hg), if_neg (by rw [hd]; simp)]
  rw [hc] at h65
  have hab : (0 ≤ a ∧ a ≤ 1000000) ∧ 0 ≤ b ∧ b ≤ 1000000 := by unfold dpB at hd; simpa using hd
  have h66 := k66 (nil := nil) (want := b) hl (gE_ok hg).2 hab.2.1 1000000 a (Nat.le_refl _) hab.1 (by omega)
  clear hg hsz hc hd hab
  generalize bst l b 1000000 a = o at *
  cases o with
  | none => exact ⟨_, junk1, h16⟩
  | some x =>
    obtain ⟨q, m⟩ := x
    by_cases hq : q = []
    · subst hq; exact ⟨_, junk1, h16⟩
    · refine ⟨_, junk2, ?_⟩
      clear h16
      refine fn_of e16 ?_
      have hql : (q.map fun x => [i64 x]).length = q.length := by simp
      rw [polR_ne hq, polH_ne hq] at h66
      have e1 : pM (some (q, m)) = m := rfl
      have e2 : pE (some (q, m)) = 0 := rfl
      rw [e1, e2]
      clear hq e1 e2
      unfold c16
      repeat' (first
        | ((with_reducible refine T_calm ?_ ?_); rfl)
        | with_reducible first
          | refine T_seq ?_
          | refine T_reg ?_
          | refine T_draw ?_
          | refine T_skip ?_
          | refine T_exit ?_
          | refine T_block ?_
          | refine T_cond_t rfl ?_
          | refine T_cond_f rfl ?_
          | refine wdW_cons rfl ?_
          | (show wcall _ false (.lit (.func (.func 65) _ _)) _ _ _ _; refine wcall_fn (h65) rfl (by simp [plainL, plain, plainR_gR]) ?_)
          | (show wcallX _ false (.lit (.func (.func 65) _ _)) _ _ _ _; refine wcallX_fn (h65) rfl (by simp [plainL, plain, plainR, plainR_gR, Int.toNat_zero, Int.toNat_one]) ?_)
          | (show wcall _ false (.lit (.func (.func 66) _ _)) _ _ _ _; refine wcall_fn (h66) rfl (by simp [plainL, plain, plainR_gR]) ?_)
          | (show wcallX _ false (.lit (.func (.func 66) _ _)) _ _ _ _; refine wcallX_fn (h66) rfl (by simp [plainL, plain, plainR, plainR_gR, Int.toNat_zero, Int.toNat_one]) ?_)
          | ((first | refine T_cond rfl (fun hc => ?_) (fun hc => ?_) | refine wguard_split (fun hc => ?_) (fun hc => ?_) | refine wguardX_split (fun hc => ?_) (fun hc => ?_)) <;> have hd := hc <;> (try simp (disch := omega) only [wrapI] at hd) <;> have hs := hd <;> (try simp only [Bool.not_eq_true', Bool.not_eq_false', Bool.and_eq_true, Bool.and_eq_false_iff, Bool.or_eq_true, Bool.or_eq_false_iff, decide_eq_true_eq, decide_eq_false_iff_not, beq_iff_eq, bne_iff_ne, beq_eq_false_iff_ne, bne_eq_false_iff_eq, Bool.not_true, Bool.not_false, gt_iff_lt, ge_iff_le, Int.not_lt, Int.not_le, ne_eq, Decidable.not_not] at hd) <;> (try simp at hs))
          | refine T_ret ?_
          | refine leave_of (.inr rfl) _ rfl ?_
          | refine leave_of (.inl rfl) _ rfl ?_
          | refine leaveA_of (.inr rfl) _ rfl ?_
          | refine leaveA_of (.inl rfl) _ rfl ?_
          | refine wif_intro ?_ (fun hc => ?_)
          | refine And.intro ?_ ?_
          | intro hc
        | simp (maxSteps := 4000000) only [wops_nil, wops_cons, wstep_none, wrun_call, wrun_mv, wrun_bin, wrun_not, wrun_load, wrun_store, wrun_faddr, wrun_iaddrA, wrun_alloc, wrun_box, get_mk, wop, aop, ev, look, put_some, put_none, writes, ores_some, ores_ite_none, binV, thenK, boolV, value, cut, hget, putCells, AV.parts, isOne, toLits, mkAgg, tupOf, ofValue_int, List.map_cons, List.map_nil, List.length_cons, List.length_nil, List.getElem?_cons_zero, List.getElem?_cons_succ, List.set_cons_zero, List.set_cons_succ, List.take_succ_cons, List.take_zero, List.take_nil, List.drop_succ_cons, List.drop_zero, List.drop_nil, List.cons_append, List.nil_append, List.append_nil, List.append_assoc, List.replicate_zero, List.replicate_succ, List.getD_cons_zero, List.zipIdx_cons, List.zipIdx_nil, List.all_cons, List.all_nil, Option.getD_some, Option.map_some, Option.map_none, if_true, if_false, Nat.reduceEqDiff, Nat.reduceAdd, Nat.reduceLT, Nat.add_zero, Nat.zero_add, Nat.mul_one, Nat.le_refl, Nat.zero_ne_one, reduceCtorEq, Bool.not_true, Bool.and_true, Bool.false_eq_true, eq_self, true_and, and_self, freeze, lidsL, lids, List.flatMap_cons, List.flatMap_nil, List.all_cons, ren, renL, renB, keepρ, shiftρ, pos, Nat.not_lt_zero, renR_ints, Int.toNat_zero, Int.toNat_one, *]
        | simp (disch := omega) only [getD_ints, wrapI]
        | (with_reducible show wcall _ false (.lit (.func (.func 65) _ _)) _ _ _ _; refine wcall_fn (h65) ?_ ?_ ?_; (next => simp [rfyL, rfy, hget, ints, take_rfy, plainR_gR, Int.toNat_zero, Int.toNat_one]); (next => simp [plainL, plain, plainR, plainR_gR, Int.toNat_zero, Int.toNat_one]))
        | (with_reducible show wcallX _ false (.lit (.func (.func 65) _ _)) _ _ _ _; refine wcallX_fn (h65) ?_ ?_ ?_; (next => simp [rfyL, rfy, hget, ints, take_rfy, plainR_gR, Int.toNat_zero, Int.toNat_one]); (next => simp [plainL, plain, plainR, plainR_gR, Int.toNat_zero, Int.toNat_one]))
        | (with_reducible show wcall _ false (.lit (.func (.func 66) _ _)) _ _ _ _; refine wcall_fn (h66) ?_ ?_ ?_; (next => simp [rfyL, rfy, hget, ints, take_rfy, plainR_gR, Int.toNat_zero, Int.toNat_one]); (next => simp [plainL, plain, plainR, plainR_gR, Int.toNat_zero, Int.toNat_one]))
        | (with_reducible show wcallX _ false (.lit (.func (.func 66) _ _)) _ _ _ _; refine wcallX_fn (h66) ?_ ?_ ?_; (next => simp [rfyL, rfy, hget, ints, take_rfy, plainR_gR, Int.toNat_zero, Int.toNat_one]); (next => simp [plainL, plain, plainR, plainR_gR, Int.toNat_zero, Int.toNat_one]))
        | omega)
      all_goals first | rfl
end Go.Abs
