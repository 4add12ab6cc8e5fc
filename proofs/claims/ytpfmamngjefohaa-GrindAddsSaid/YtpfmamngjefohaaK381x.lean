import Derived.Test.YtpfmamngjefohaaK380x
set_option linter.all false
set_option linter.unusedVariables false
set_option linter.unusedSimpArgs false
set_option linter.unusedSectionVars false
namespace Go.Abs
open Go.Proofs
/-! GrindAdds: LeftFor of both sides -/
theorem freeze1_resv {H : List Blk} {N : Nat} (h : H[N]? = some .resv) (id : Nat) : (freeze1 H id)[N]? = some .resv := by
  unfold freeze1
  split
  · rename_i n' s' e' h1
    by_cases hij : id = N
    · subst hij; rw [h] at h1; simp at h1
    · rw [List.getElem?_set_ne hij]; exact h
  · exact h
theorem freeze_resv {N : Nat} : ∀ (ids : List Nat) (H : List Blk), H[N]? = some .resv → (freeze H ids)[N]? = some .resv
  | [], _, h => h
  | id :: r, H, h => freeze_resv r _ (freeze1_resv h id)
theorem call_resv {H : List Blk} {N : Nat} (h : H[N]? = some .resv) (ids : List Nat) (X : List Blk) : (freeze H ids ++ X)[N]? = some .resv := by
  have h1 := freeze_resv ids H h
  rw [List.getElem?_append_left (List.getElem?_eq_some_iff.1 h1).1]; exact h1
section
variable {P : Program} {s : List (Nat × AV)} {h : List Blk} {K : St → Prop} {g : FuncId} {args args' : List AV} {e : Option Nat} {d : Nat}
theorem wcallX_F1 {w : AV} (hf : Gv d P g args' [w]) (he : rfyL (hget h) args = args') (hp : plainL args' = true) (hx : plain w = true) (hw : rfy (hget []) d w = w)
    (hk : ∀ v H', Ext h H' → (∀ N : Nat, h[N]? = some .resv → H'[N]? = some .resv) → Rds d H' v w → K (St.put ⟨s, H'⟩ e v)) : wcallX P false (.lit (.func (.func g) #[] #[])) args e ⟨s, h⟩ K :=
  wcallX_g1 hf he hp hx hw fun v _ hv => hk v _ (Ext.call _ _ _) (fun _ hN => call_resv hN _ _) (hv _ (frzLen _ _))
theorem wcallX_F0 {r : AV} (hf : Fn P g args' r []) (hr : plain r = true) (he : rfyL (hget h) args = args') (hp : plainL args' = true)
    (hk : ∀ H', Ext h H' → (∀ N : Nat, h[N]? = some .resv → H'[N]? = some .resv) → K (St.put ⟨s, H'⟩ e r)) : wcallX P false (.lit (.func (.func g) #[] #[])) args e ⟨s, h⟩ K := by
  refine wcallX_fn hf he hp ?_
  rw [ren_plain _ _ hr]
  exact hk _ (Ext.call _ _ _) (fun _ hN => call_resv hN _ _)
theorem wcallX_D {n m : Nat} {c : Value} {xs ys : List Int} (hf : Fn P g args' (.tup [.agg [.lsl 0 0 n, .lsl 1 0 m], .lit c]) [iC xs, iC ys]) (he : rfyL (hget h) args = args') (hp : plainL args' = true)
    (hk : ∀ id jd H', Ext h H' → (∀ N : Nat, h[N]? = some .resv → H'[N]? = some .resv) → H'[id]? = some (iC xs) → H'[jd]? = some (iC ys) → K (St.put ⟨s, H'⟩ e (.tup [.agg [.lsl id 0 n, .lsl jd 0 m], .lit c]))) : wcallX P false (.lit (.func (.func g) #[] #[])) args e ⟨s, h⟩ K := by
  refine wcallX_fn hf he hp ?_
  refine hk (0 + h.length) (1 + h.length) _ (Ext.call _ _ _) (fun _ hN => call_resv hN _ _) ?_ ?_
  · rw [Nat.zero_add, List.getElem?_append_right (by rw [frzLen]; exact Nat.le_refl _), frzLen, Nat.sub_self]
    show some (renB _ (iC xs)) = _
    simp only [renB, renR_ints]
  · rw [List.getElem?_append_right (by rw [frzLen]; omega), frzLen, Nat.add_sub_cancel]
    show some (renB _ (iC ys)) = _
    simp only [renB, renR_ints]
end
theorem resv_lids {H : List Blk} {N : Nat} (hN : H[N]? = some .resv) : ∀ (d : Nat) (v : AV), plain (rfy (hget H) d v) = true → ¬N ∈ lids (hget H) d v
  | 0, _, _ => by simp [lids]
  | d + 1, .lsl id i len, h => by
    unfold rfy at h
    unfold lids
    cases hc : hget H id with
    | cells o n sz els =>
      rw [hc] at h
      dsimp only at h ⊢
      by_cases hl : len ≤ els.length - i
      · rw [if_pos hl] at h
        simp only [plain] at h
        intro hm
        rcases List.mem_cons.1 hm with rfl | hm
        · rw [hget_some' hN] at hc; simp at hc
        · obtain ⟨r, hr, hm⟩ := List.mem_flatMap.1 hm
          obtain ⟨a, ha, hm⟩ := List.mem_flatMap.1 hm
          exact resv_lids hN d a (plainL_mem (plainR_mem h _ (List.mem_map_of_mem hr)) _ (List.mem_map_of_mem ha)) hm
      · rw [if_neg hl] at h; simp [plain] at h
    | dead => rw [hc] at h; simp [plain] at h
    | resv => rw [hc] at h; simp [plain] at h
    | obj o => rw [hc] at h; simp [plain] at h
  | d + 1, .agg cs, h => by
    simp only [rfy, plain] at h
    unfold lids
    intro hm
    obtain ⟨a, ha, hm⟩ := List.mem_flatMap.1 hm
    exact resv_lids hN d a (plainL_mem h _ (List.mem_map_of_mem ha)) hm
  | d + 1, .lit v, h => by simp [lids]
  | d + 1, .sl a b c, h => by simp [lids]
  | d + 1, .emp, h => by simp [lids]
  | d + 1, .adr a b c e, h => by simp [lids]
  | d + 1, .tup a, h => by simp [lids]
  | d + 1, .loc a b c, h => by simp [lids]
  | d + 1, .clo a b c, h => by simp [lids]
  | d + 1, .mp a, h => by simp [lids]
  | d + 1, .top, h => by simp [lids]
  | d + 1, .top1, h => by simp [lids]
theorem Rds.resv {d N : Nat} {H : List Blk} {v w : AV} (h : Rds d H v w) (hd : d ≤ 6) (hN : H[N]? = some .resv) : ¬N ∈ lids (hget H) 6 v := by
  obtain ⟨h1, h2⟩ := h.to hd
  exact resv_lids hN 6 v (by rw [h1]; exact h2)
theorem rds_dm {d : Nat} {H : List Blk} {x0 x1 : AV} {n0 n1 : Bool} {lo hi : List Int} (h0 : Rds d H x0 (ints n0 lo)) (h1 : Rds d H x1 (ints n1 hi)) : Rds (d + 1) H (.agg [x0, x1]) (dmV n0 lo n1 hi) := by
  refine ⟨?_, by simp [plain, plainL]⟩
  show AV.agg ([x0, x1].map (rfy (hget H) d)) = _
  simp only [List.map_cons, List.map_nil]
  rw [h0.1, h1.1]
set_option maxHeartbeats 8000000 in
theorem k34z : Fn Try.prog 34 [.sl true 0 [], .sl true 0 []] (bl true) [] := by
  refine fn_of e34 ?_
  unfold c34
  repeat' (first | ((with_reducible refine T_calm ?_ ?_); rfl) | (with_reducible first | refine T_seq ?_ | refine T_reg ?_ | refine T_draw ?_ | refine T_skip ?_ | refine T_exit ?_ | refine T_block ?_ | refine T_cond_t rfl ?_ | refine T_cond_f rfl ?_ | refine wdW_cons rfl ?_ | refine T_ret ?_ | refine leave_of (.inr rfl) _ rfl ?_ | refine leave_of (.inl rfl) _ rfl ?_ | refine leaveA_of (.inr rfl) _ rfl ?_ | refine leaveA_of (.inl rfl) _ rfl ?_ | refine wif_intro ?_ (fun hc => ?_) | refine And.intro ?_ ?_ | intro hc) | simp (maxSteps := 4000000) only [wops_nil, wops_cons, wstep_none, wrun_mv, wrun_bin, wrun_len, wop, aop, ev, look, put_some, writes, ores_some, ores_map, ores_bind, binV, thenK, intV, lenOf, hget, List.map_cons, List.map_nil, List.length_nil, List.append_nil, List.replicate_zero, List.zipIdx_cons, List.zipIdx_nil, Option.pure_def, Option.bind_eq_bind, Option.map_some, if_true, if_false, Nat.reduceEqDiff, Nat.reduceAdd, Nat.zero_add, Nat.zero_ne_one, reduceCtorEq, eq_self, *] | simp (disch := omega) only [getD_ints, wrapI] | omega)
  refine T_for [0, 1, 5] (fun k => ⟨[(0, .sl true 0 []), (1, .sl true 0 []), (5, i64 k)], []⟩) 0 (fun _ => True) 0 ?_ trivial (Nat.zero_le _) ?_
  · simp [St.only, get_mk, look]
  intro k hk _
  have hke : k = 0 := by omega
  subst hke
  have hkk : decide (((0 : Nat) : Int) < ((0 : Nat) : Int)) = false := by simp
  unfold c34l0
  repeat' (first | ((with_reducible refine T_calm ?_ ?_); rfl) | (with_reducible first | refine T_seq ?_ | refine T_reg ?_ | refine T_draw ?_ | refine T_skip ?_ | refine T_exit ?_ | refine T_block ?_ | refine T_cond_t rfl ?_ | refine T_cond_f rfl ?_ | refine wdW_cons rfl ?_ | refine T_ret ?_ | refine leave_of (.inr rfl) _ rfl ?_ | refine leave_of (.inl rfl) _ rfl ?_ | refine leaveA_of (.inr rfl) _ rfl ?_ | refine leaveA_of (.inl rfl) _ rfl ?_ | refine wif_intro ?_ (fun hc => ?_) | refine And.intro ?_ ?_ | intro hc) | simp (maxSteps := 4000000) only [wops_nil, wops_cons, wstep_none, wrun_mv, wrun_bin, wrun_len, get_mk, wop, aop, ev, look, put_some, writes, ores_some, ores_map, ores_bind, binV, thenK, blockK, intV, lenOf, hget, tupOf, List.length_nil, List.append_nil, List.replicate_zero, Option.pure_def, Option.bind_eq_bind, Option.map_some, if_true, if_false, Nat.reduceEqDiff, Nat.zero_add, reduceCtorEq, eq_self, and_true, false_and, ren, Nat.not_lt_zero, *] | simp (disch := omega) only [getD_ints, wrapI] | omega)
  all_goals first | rfl
set_option maxHeartbeats 8000000 in
theorem k61z : Fn Try.prog 61 [zA, zA] (bl true) [] := by
  refine fn_of e61 ?_
  have h34 := k34z
  unfold c61
  repeat' (first | (with_reducible first | refine T_seq ?_ | refine T_reg ?_ | refine T_skip ?_ | refine T_exit ?_ | refine T_block ?_ | refine T_cond_t rfl ?_ | refine T_cond_f rfl ?_ | (show wcall _ false (.lit (.func (.func 34) _ _)) _ _ _ _; refine wcall_fn (h34) rfl (by simp [plainL, plain, plainR]) ?_) | refine T_ret ?_ | refine leave_of (.inr rfl) _ rfl ?_ | refine leave_of (.inl rfl) _ rfl ?_ | refine leaveA_of (.inr rfl) _ rfl ?_ | refine leaveA_of (.inl rfl) _ rfl ?_ | refine wif_intro ?_ (fun hc => ?_) | refine And.intro ?_ ?_ | intro hc) | simp (maxSteps := 4000000) only [wops_nil, wops_cons, wstep_none, wstep_some, wguard_true, wrun_call, wrun_mv, wrun_pick, wrun_load, wrun_faddr, wrun_box, get_mk, wop, aop, ev, look, put_some, writes, ores_some, thenK, value, cut, hget, AV.parts, isOne, mkAgg, tupOf, List.map_cons, List.map_nil, List.length_cons, List.length_nil, List.getElem?_cons_zero, List.getElem?_cons_succ, List.set_cons_zero, List.set_cons_succ, List.take_succ_cons, List.take_zero, List.take_nil, List.drop_succ_cons, List.drop_zero, List.nil_append, List.append_nil, List.replicate_zero, List.replicate_succ, List.getD_cons_zero, List.zipIdx_cons, List.zipIdx_nil, List.all_cons, List.all_nil, Option.getD_some, Option.map_some, if_true, if_false, Nat.reduceEqDiff, Nat.reduceAdd, Nat.add_zero, Nat.zero_add, Nat.zero_ne_one, reduceCtorEq, Bool.and_true, Bool.false_eq_true, eq_self, true_and, and_self, freeze, lidsL, lids, List.flatMap_cons, List.flatMap_nil, List.all_cons, ren, *] | simp (disch := omega) only [getD_ints, wrapI] | (with_reducible show wcall _ false (.lit (.func (.func 34) _ _)) _ _ _ _; refine wcall_fn (h34) ?_ ?_ ?_; (next => simp [rfyL, rfy, hget, ints, take_rfy]); (next => simp [plainL, plain, plainR])) | omega)
  all_goals first | rfl
end Go.Abs
