import Derived.Test.YtookdheldelepaaGreatDoorKP12
set_option linter.all false
set_option linter.unusedVariables false
set_option linter.unusedSimpArgs false
set_option linter.unusedSectionVars false
namespace Go.Abs
open Go.Proofs
theorem I15_0 (s : ByteArray) : I15 s 0 [Blk.cells true false 1 [[AV.sl true 0 []]], Blk.cells true false 1 [[i64 0]], Blk.cells true false 1 [[i64 0]], Blk.cells true false 1 [[AV.sl true 0 []]], Blk.cells true false 1 [[strV s]], .obj .lpx] := by
  refine ⟨[], 0, ?_, rfl, ⟨rfl, rfl, rfl, rfl, rfl, fun h => absurd rfl h⟩, ?_⟩
  · have := List.length_pos_iff.2 (pieces_ne s 10)
    omega
  · rw [rest0]; rfl
def c15t : ACode := (.seq (.seq (.reg 0 [⟨(some 43), (.load 1 false (.tmp 5)), none, 0⟩, ⟨(some 44), (.call false (.val (.lit (.func (.func 8) #[] #[]))) [(.tmp 43)]), none, 0⟩, ⟨(some 42), (.mv (.tmp 44)), none, 0⟩, ⟨(some 45), (.ext (.tmp 42) 0), none, 0⟩, ⟨(some 46), (.ext (.tmp 42) 1), none, 0⟩, ⟨(some 11), (.mv (.tmp 45)), none, 0⟩, ⟨(some 12), (.mv (.tmp 46)), none, 0⟩])
 (.seq (.reg 0 [⟨(some 47), (.mv (.tmp 12)), none, 0⟩, ⟨(some 48), (.bin .neq (.tmp 47) (.val (.lit (.int .i64 0)))), none, 0⟩])
 (.cond (.tmp 48) (.seq (.reg 0 [⟨(some 49), (.mv (.tmp 12)), none, 0⟩, ⟨none, (.store 1 (.tmp 2) (.val (.sl true 0 []))), none, 0⟩, ⟨none, (.store 1 (.tmp 3) (.val (.lit (.int .i64 0)))), none, 0⟩, ⟨none, (.store 1 (.tmp 4) (.tmp 49)), none, 0⟩])
 .ret) .skip))) (.seq (.reg 0 [⟨(some 50), (.load 1 false (.tmp 5)), none, 0⟩, ⟨none, (.store 1 (.tmp 2) (.tmp 50)), none, 0⟩, ⟨none, (.store 1 (.tmp 3) (.val (.lit (.int .i64 0)))), none, 0⟩, ⟨none, (.store 1 (.tmp 4) (.val (.lit (.int .i64 0)))), none, 0⟩])
 .ret))
theorem res3 {σ : List (Nat × AV)} {H : List Blk} {a b c : AV} (h2 : look σ 2 = .loc 0 0 0) (h3 : look σ 3 = .loc 1 0 0) (h4 : look σ 4 = .loc 2 0 0) (a0 : H[0]? = some (.cells true false 1 [[a]])) (a1 : H[1]? = some (.cells true false 1 [[b]])) (a2 : H[2]? = some (.cells true false 1 [[c]])) :
    resL ⟨σ, H⟩ [.cell 1 false 2, .cell 1 false 3, .cell 1 false 4] = some [a, b, c] := by
  have e : ∀ t (n : Nat) v, look σ t = .loc n 0 0 → H[n]? = some (.cells true false 1 [[v]]) → resAV ⟨σ, H⟩ (.cell 1 false t) = some v := by
    intro t n v h1 h2
    simp [resAV, aop, ev, St.get, h1, hget, h2, cut, value]
  simp [resL, e 2 0 a h2 a0, e 3 1 b h3 a1, e 4 2 c h4 a2]
set_option maxHeartbeats 8000000 in
theorem k15tn {io : Nat} {H : List Blk} (hJ : J15 [] io H) : T none Tryz.prog muts 51 0 c15t ⟨[(2, .loc 0 0 0), (3, .loc 1 0 0), (4, .loc 2 0 0), (5, .loc 3 0 0)], H⟩ (leaveG 6 [.cell 1 false 2, .cell 1 false 3, .cell 1 false 4] [.sl true 0 [], i64 0, i64 10]) := by
  have hlt := (List.getElem?_eq_some_iff.1 hJ.lp).1
  have a0 := hJ.r0
  have a1 := hJ.r1
  have a2 := hJ.r2
  have a3 := hJ.ou
  have b1 : ∀ v, (H.set 0 v)[1]? = some (.cells true false 1 [[i64 0]]) := fun v => by rw [List.getElem?_set_ne (by decide)]; exact hJ.r1
  have b2 : ∀ u v, ((H.set 0 u).set 1 v)[2]? = some (.cells true false 1 [[i64 0]]) := fun u v => by rw [List.getElem?_set_ne (by decide), List.getElem?_set_ne (by decide)]; exact hJ.r2
  have c0 : ∀ u v w, (((H.set 0 u).set 1 v).set 2 w)[0]? = some u := fun u v w => by rw [List.getElem?_set_ne (by decide), List.getElem?_set_ne (by decide), List.getElem?_set_self (by omega)]
  have c1 : ∀ u v w, (((H.set 0 u).set 1 v).set 2 w)[1]? = some v := fun u v w => by rw [List.getElem?_set_ne (by decide), List.getElem?_set_self (by simp; omega)]
  have c2 : ∀ u v w, (((H.set 0 u).set 1 v).set 2 w)[2]? = some w := fun u v w => by rw [List.getElem?_set_self (by simp; omega)]
  have h8 := k8z
  simp only [ouV, List.length_nil, if_true] at a3
  clear hJ
  unfold c15t
  repeat' (first | ((with_reducible refine T_calm ?_ ?_); rfl) | (with_reducible first | refine T_seq ?_ | refine T_reg ?_ | refine T_draw ?_ | refine T_skip ?_ | refine T_exit ?_ | refine T_block ?_ | refine T_cond_t rfl ?_ | refine T_cond_f rfl ?_ | refine wdW_cons rfl ?_ | (show wcall _ false (.lit (.func (.func 8) _ _)) _ _ _ _; refine wcall_fn (h8) rfl (by simp [plainL, plain, plainR]) ?_) | (show wcallX _ false (.lit (.func (.func 8) _ _)) _ _ _ _; refine wcallX_fn (h8) rfl (by simp [plainL, plain, plainR]) ?_) | refine T_ret ?_ | refine wif_intro ?_ (fun hc => ?_) | refine And.intro ?_ ?_ | intro hc) | simp (maxSteps := 4000000) only [wops_nil, wops_cons, wstep_none, wrun_call, wrun_mv, wrun_bin, wrun_ext, wrun_load, wrun_store, wop, aop, ev, look, put_some, put_none, writes, ores_some, binV, thenK, value, cut, hget, putCells, AV.parts, isOne, toLits, mkAgg, List.map_cons, List.map_nil, List.length_cons, List.length_nil, List.getElem?_cons_zero, List.getElem?_cons_succ, List.set_cons_zero, List.take_succ_cons, List.take_zero, List.take_nil, List.drop_succ_cons, List.drop_zero, List.drop_nil, List.cons_append, List.nil_append, List.append_nil, List.replicate_zero, List.getD_cons_zero, List.all_cons, List.all_nil, Option.getD_some, Option.map_some, if_true, if_false, Nat.reduceEqDiff, Nat.reduceLT, Nat.zero_add, Nat.le_refl, reduceCtorEq, Bool.and_true, Bool.false_eq_true, eq_self, true_and, and_self, freeze, lidsL, lids, List.flatMap_cons, List.flatMap_nil, List.all_cons, ren, renL, *] | simp (disch := omega) only [getD_ints, wrapI] | (with_reducible show wcall _ false (.lit (.func (.func 8) _ _)) _ _ _ _; refine wcall_fn (h8) ?_ ?_ ?_; (next => simp [rfyL, rfy, hget, ints, take_rfy]); (next => simp [plainL, plain, plainR])) | (with_reducible show wcallX _ false (.lit (.func (.func 8) _ _)) _ _ _ _; refine wcallX_fn (h8) ?_ ?_ ?_; (next => simp [rfyL, rfy, hget, ints, take_rfy]); (next => simp [plainL, plain, plainR])) | omega)
  all_goals first | exact leave_g (.inr rfl) [.sl true 0 [], i64 0, i64 10] (res3 rfl rfl rfl (c0 _ _ _) (c1 _ _ _) (c2 _ _ _)) rfl rfl
set_option maxHeartbeats 8000000 in
theorem k15tx {M : List Ln} {io : Nat} {H : List Blk} (hJ : J15 M io H) (hm : M ≠ []) (hl : M.length ≤ 1001) (hsz : ∀ x ∈ M, x.1.size ≤ 1000 ∧ x.2.length ≤ 1001) (he : stE M ≠ 0) : T none Tryz.prog muts 51 0 c15t ⟨[(2, .loc 0 0 0), (3, .loc 1 0 0), (4, .loc 2 0 0), (5, .loc 3 0 0)], H⟩ (leaveG 6 [.cell 1 false 2, .cell 1 false 3, .cell 1 false 4] [.sl true 0 [], i64 0, i64 (stE M)]) := by
  have h8 := ck8 (M := M) (by omega) (fun x hx => by have := hsz x hx; omega)
  obtain ⟨E, hE, hS, hB⟩ := hJ.st hm
  have hrd := hS.rds hE
  have hk0 : M.length ≠ 0 := fun h => hm (List.eq_nil_of_length_eq_zero h)
  have hpl : plainL [stz M] = true := by simp only [plainL, plain, plainR_rz]; rfl
  have hid : ∀ i, i < 4 → i ∉ lidsL (hget H) [.lsl io 0 M.length] := fun i hi hin => by
    rcases lids_out hE hS hB i hin with h | h
    · subst h
      match i, hi with
      | 0, _ => rw [hJ.r0] at hE; simp at hE
      | 1, _ => rw [hJ.r1] at hE; simp at hE
      | 2, _ => rw [hJ.r2] at hE; simp at hE
      | 3, _ => rw [hJ.ou] at hE; simp at hE
    · omega
  have kp : ∀ i, i < 4 → (freeze H (lidsL (hget H) [.lsl io 0 M.length]))[i]? = H[i]? := fun i hi => freeze_keep (hid i hi)
  have hlt := (List.getElem?_eq_some_iff.1 hJ.lp).1
  have a3 := hJ.ou
  simp only [ouV, hk0, if_false] at a3
  have hF : (freeze H (lidsL (hget H) [.lsl io 0 M.length])).length = H.length := freeze_len _ _
  have hd1 : (stE M != 0) = true := by simp only [bne_iff_ne]; exact he
  generalize stE M = em at *
  unfold c15t
  replace hk0 := And.intro hk0 trivial
  replace hm := PLift.up hm
  replace he := And.intro he trivial
  replace hE := And.intro hE trivial
  replace hJ' := PLift.up hJ
  replace hS' := PLift.up hS
  have a3' := And.intro a3 trivial
  clear hJ hS
  repeat' (first | ((with_reducible refine T_calm ?_ ?_); rfl) | (with_reducible first | refine T_seq ?_ | refine T_reg ?_ | refine T_draw ?_ | refine T_skip ?_ | refine T_exit ?_ | refine T_block ?_ | refine T_cond_t rfl ?_ | refine T_cond_f rfl ?_ | refine wdW_cons rfl ?_ | refine T_ret ?_ | refine wif_intro ?_ (fun hc => ?_) | refine And.intro ?_ ?_ | intro hc) | simp (maxSteps := 4000000) only [wops_cons, wstep_none, wrun_call, wrun_load, wop, aop, ev, look, put_some, writes, ores_some, value, cut, hget, toLits, mkAgg, List.map_cons, List.map_nil, List.length_cons, List.length_nil, List.take_succ_cons, List.take_nil, List.drop_zero, List.append_nil, List.replicate_zero, List.getD_cons_zero, Option.getD_some, Option.map_some, if_true, if_false, Nat.reduceEqDiff, Nat.zero_add, Bool.false_eq_true, eq_self, *] | simp (disch := omega) only [getD_ints, wrapI] | omega)
  refine wcall_fn h8 (by simp only [rfyL, List.map_cons, List.map_nil, hrd.six]) hpl ?_
  generalize freeze H (lidsL (hget H) [.lsl io 0 M.length]) = F at *
  have hJ := hJ'.down
  have b0 := (kp 0 (by decide)).trans hJ.r0
  have b1 : ∀ v, (F.set 0 v)[1]? = some (.cells true false 1 [[i64 0]]) := fun v => by rw [List.getElem?_set_ne (by decide)]; exact (kp 1 (by decide)).trans hJ.r1
  have b2 : ∀ u v, ((F.set 0 u).set 1 v)[2]? = some (.cells true false 1 [[i64 0]]) := fun u v => by rw [List.getElem?_set_ne (by decide), List.getElem?_set_ne (by decide)]; exact (kp 2 (by decide)).trans hJ.r2
  have b3 := (kp 3 (by decide)).trans a3
  have c0 : ∀ u v w, (((F.set 0 u).set 1 v).set 2 w)[0]? = some u := fun u v w => by rw [List.getElem?_set_ne (by decide), List.getElem?_set_ne (by decide), List.getElem?_set_self (by omega)]
  have c1 : ∀ u v w, (((F.set 0 u).set 1 v).set 2 w)[1]? = some v := fun u v w => by rw [List.getElem?_set_ne (by decide), List.getElem?_set_self (by simp; omega)]
  have c2 : ∀ u v w, (((F.set 0 u).set 1 v).set 2 w)[2]? = some w := fun u v w => by rw [List.getElem?_set_self (by simp; omega)]
  have hP := PLift.up (And.intro kp (And.intro hE hS'.down))
  clear hJ hJ' a3' kp hS' hE
  repeat' (first | ((with_reducible refine T_calm ?_ ?_); rfl) | (with_reducible first | refine T_seq ?_ | refine T_reg ?_ | refine T_draw ?_ | refine T_skip ?_ | refine T_exit ?_ | refine T_block ?_ | refine T_cond_t rfl ?_ | refine T_cond_f rfl ?_ | refine wdW_cons rfl ?_ | refine T_ret ?_ | refine wif_intro ?_ (fun hc => ?_) | refine And.intro ?_ ?_ | intro hc) | simp (maxSteps := 4000000) only [wops_nil, wops_cons, wstep_none, wrun_mv, wrun_bin, wrun_ext, wrun_store, wop, aop, ev, look, put_some, put_none, writes, ores_some, binV, thenK, hget, putCells, AV.parts, isOne, List.map_nil, List.length_cons, List.length_nil, List.getElem?_cons_zero, List.getElem?_cons_succ, List.set_cons_zero, List.take_zero, List.drop_succ_cons, List.drop_nil, List.cons_append, List.nil_append, List.append_nil, List.replicate_zero, List.getD_cons_zero, List.all_cons, List.all_nil, Option.getD_some, Option.map_some, if_true, if_false, Nat.reduceEqDiff, Nat.reduceLT, Nat.zero_add, Nat.le_refl, reduceCtorEq, Bool.and_true, eq_self, true_and, and_self, List.all_cons, ren, renL, *] | simp (disch := omega) only [getD_ints, wrapI] | omega)
  all_goals first | exact leave_g (.inr rfl) [.sl true 0 [], i64 0, i64 em] (res3 rfl rfl rfl (c0 _ _ _) (c1 _ _ _) (c2 _ _ _)) rfl rfl
set_option maxHeartbeats 8000000 in
theorem k15ty {M : List Ln} {io : Nat} {H : List Blk} (hJ : J15 M io H) (hm : M ≠ []) (hl : M.length ≤ 1001) (hsz : ∀ x ∈ M, x.1.size ≤ 1000 ∧ x.2.length ≤ 1001) (he : stE M = 0) : T none Tryz.prog muts 51 0 c15t ⟨[(2, .loc 0 0 0), (3, .loc 1 0 0), (4, .loc 2 0 0), (5, .loc 3 0 0)], H⟩ (leaveG 6 [.cell 1 false 2, .cell 1 false 3, .cell 1 false 4] [stz M, i64 0, i64 0]) := by
  have h8 := ck8 (M := M) (by omega) (fun x hx => by have := hsz x hx; omega)
  obtain ⟨E, hE, hS, hB⟩ := hJ.st hm
  have hrd := hS.rds hE
  have hk0 : M.length ≠ 0 := fun h => hm (List.eq_nil_of_length_eq_zero h)
  have hpl : plainL [stz M] = true := by simp only [plainL, plain, plainR_rz]; rfl
  have hid : ∀ i, i < 4 → i ∉ lidsL (hget H) [.lsl io 0 M.length] := fun i hi hin => by
    rcases lids_out hE hS hB i hin with h | h
    · subst h
      match i, hi with
      | 0, _ => rw [hJ.r0] at hE; simp at hE
      | 1, _ => rw [hJ.r1] at hE; simp at hE
      | 2, _ => rw [hJ.r2] at hE; simp at hE
      | 3, _ => rw [hJ.ou] at hE; simp at hE
    · omega
  have kp : ∀ i, i < 4 → (freeze H (lidsL (hget H) [.lsl io 0 M.length]))[i]? = H[i]? := fun i hi => freeze_keep (hid i hi)
  have hlt := (List.getElem?_eq_some_iff.1 hJ.lp).1
  have a3 := hJ.ou
  simp only [ouV, hk0, if_false] at a3
  have hF : (freeze H (lidsL (hget H) [.lsl io 0 M.length])).length = H.length := freeze_len _ _
  have hpl' : plainL [stz M, i64 0, i64 0] = true := by simp only [plainL, plain, plainR_rz]; rfl
  rw [he] at h8
  have q0 : io ≠ 0 := fun e => by rw [e, hJ.r0] at hE; simp at hE
  have q1 : io ≠ 1 := fun e => by rw [e, hJ.r1] at hE; simp at hE
  have q2 : io ≠ 2 := fun e => by rw [e, hJ.r2] at hE; simp at hE
  have hxt := PLift.up (Ext.freeze (lidsL (hget H) [.lsl io 0 M.length]) H)
  replace q0 := And.intro q0 trivial
  replace q1 := And.intro q1 trivial
  replace q2 := And.intro q2 trivial
  unfold c15t
  replace hk0 := And.intro hk0 trivial
  replace hm := PLift.up hm
  replace he := And.intro he trivial
  replace hE := And.intro hE trivial
  replace hJ' := PLift.up hJ
  replace hS' := PLift.up hS
  have a3' := And.intro a3 trivial
  clear hJ hS
  repeat' (first | ((with_reducible refine T_calm ?_ ?_); rfl) | (with_reducible first | refine T_seq ?_ | refine T_reg ?_ | refine T_draw ?_ | refine T_skip ?_ | refine T_exit ?_ | refine T_block ?_ | refine T_cond_t rfl ?_ | refine T_cond_f rfl ?_ | refine wdW_cons rfl ?_ | refine T_ret ?_ | refine wif_intro ?_ (fun hc => ?_) | refine And.intro ?_ ?_ | intro hc) | simp (maxSteps := 4000000) only [wops_cons, wstep_none, wrun_call, wrun_load, wop, aop, ev, look, put_some, writes, ores_some, value, cut, hget, toLits, mkAgg, List.map_cons, List.map_nil, List.length_cons, List.length_nil, List.take_succ_cons, List.take_nil, List.drop_zero, List.append_nil, List.replicate_zero, List.getD_cons_zero, Option.getD_some, Option.map_some, if_true, if_false, Nat.reduceEqDiff, Nat.zero_add, Bool.false_eq_true, eq_self, *] | simp (disch := omega) only [getD_ints, wrapI] | omega)
  refine wcall_fn h8 (by simp only [rfyL, List.map_cons, List.map_nil, hrd.six]) hpl ?_
  generalize freeze H (lidsL (hget H) [.lsl io 0 M.length]) = F at *
  have hJ := hJ'.down
  have b0 := (kp 0 (by decide)).trans hJ.r0
  have b1 : ∀ v, (F.set 0 v)[1]? = some (.cells true false 1 [[i64 0]]) := fun v => by rw [List.getElem?_set_ne (by decide)]; exact (kp 1 (by decide)).trans hJ.r1
  have b2 : ∀ u v, ((F.set 0 u).set 1 v)[2]? = some (.cells true false 1 [[i64 0]]) := fun u v => by rw [List.getElem?_set_ne (by decide), List.getElem?_set_ne (by decide)]; exact (kp 2 (by decide)).trans hJ.r2
  have b3 := (kp 3 (by decide)).trans a3
  have c0 : ∀ u v w, (((F.set 0 u).set 1 v).set 2 w)[0]? = some u := fun u v w => by rw [List.getElem?_set_ne (by decide), List.getElem?_set_ne (by decide), List.getElem?_set_self (by omega)]
  have c1 : ∀ u v w, (((F.set 0 u).set 1 v).set 2 w)[1]? = some v := fun u v w => by rw [List.getElem?_set_ne (by decide), List.getElem?_set_self (by simp; omega)]
  have c2 : ∀ u v w, (((F.set 0 u).set 1 v).set 2 w)[2]? = some w := fun u v w => by rw [List.getElem?_set_self (by simp; omega)]
  have hP := PLift.up (And.intro kp (And.intro hE hS'.down))
  clear hJ hJ' a3' kp hS' hE
  repeat' (first | ((with_reducible refine T_calm ?_ ?_); rfl) | (with_reducible first | refine T_seq ?_ | refine T_reg ?_ | refine T_draw ?_ | refine T_skip ?_ | refine T_exit ?_ | refine T_block ?_ | refine T_cond_t rfl ?_ | refine T_cond_f rfl ?_ | refine wdW_cons rfl ?_ | refine T_ret ?_ | refine wif_intro ?_ (fun hc => ?_) | refine And.intro ?_ ?_ | intro hc) | simp (maxSteps := 4000000) only [wops_nil, wops_cons, wstep_none, wrun_mv, wrun_bin, wrun_ext, wrun_load, wrun_store, wop, aop, ev, look, put_some, put_none, writes, ores_some, binV, thenK, value, cut, hget, putCells, AV.parts, isOne, toLits, mkAgg, List.map_nil, List.length_cons, List.length_nil, List.getElem?_cons_zero, List.getElem?_cons_succ, List.set_cons_zero, List.take_succ_cons, List.take_zero, List.take_nil, List.drop_succ_cons, List.drop_zero, List.drop_nil, List.cons_append, List.nil_append, List.append_nil, List.replicate_zero, List.getD_cons_zero, List.all_cons, List.all_nil, Option.getD_some, Option.map_some, if_true, if_false, Nat.reduceEqDiff, Nat.reduceLT, Nat.zero_add, Nat.le_refl, reduceCtorEq, Bool.and_true, Bool.false_eq_true, eq_self, true_and, and_self, List.all_cons, ren, renL, *] | simp (disch := omega) only [getD_ints, wrapI] | omega)
  refine leave_g (.inr rfl) [.lsl io 0 M.length, i64 0, i64 0] (res3 rfl rfl rfl (c0 _ _ _) (c1 _ _ _) (c2 _ _ _)) ?_ hpl'
  have q : ∀ i, i < 3 → i ≠ io := fun i hi h => by have := q0.1; have := q1.1; have := q2.1; omega
  have gS : StRows F E M := hP.down.2.2.mono fun v l h => h.ext hxt.down
  have gS3 : ∀ u v w, StRows (((F.set 0 u).set 1 v).set 2 w) E M := fun u v w => ((gS.set6 hB (by decide)).set6 hB (by decide)).set6 hB (by decide)
  obtain ⟨o', gE⟩ := hxt.down.cell hP.down.2.1.1
  have gE3 : ∀ u v w, (((F.set 0 u).set 1 v).set 2 w)[io]? = some (.cells o' false 2 E) := fun u v w => by
    rw [List.getElem?_set_ne (q 2 (by decide)), List.getElem?_set_ne (q 1 (by decide)), List.getElem?_set_ne (q 0 (by decide))]; exact gE
  simp only [List.map_cons, List.map_nil, ((gS3 _ _ _).rds (gE3 _ _ _)).six]
  rfl
set_option maxHeartbeats 8000000 in
theorem k15 {s : ByteArray} (hs : s.size ≤ 1000) {ws : List AV} (hr : PR (pieces s ⟨#[10]⟩) ws) : Gv 6 Tryz.prog 15 [strV s] ws := by
  refine gv_of e15 ?_
  have hd0 : decide ((s.size : Int) > 60000) = false := decide_eq_false (by omega)
  have h46 := k46 s
  have hr' := PLift.up hr
  clear hr
  unfold c15
  repeat' (first | ((with_reducible refine T_calm ?_ ?_); rfl) | (with_reducible first | refine T_seq ?_ | refine T_reg ?_ | refine T_draw ?_ | refine T_skip ?_ | refine T_exit ?_ | refine T_block ?_ | refine T_cond_t rfl ?_ | refine T_cond_f rfl ?_ | refine wdW_cons rfl ?_ | (show wcall _ false (.lit (.func (.func 46) _ _)) _ _ _ _; refine wcall_fn (h46) rfl (by simp [plainL, plain]) ?_) | (show wcallX _ false (.lit (.func (.func 46) _ _)) _ _ _ _; refine wcallX_fn (h46) rfl (by simp [plainL, plain, plainR]) ?_) | refine T_ret ?_ | refine leave_of (.inr rfl) _ rfl ?_ | refine leave_of (.inl rfl) _ rfl ?_ | refine wif_intro ?_ (fun hc => ?_) | refine And.intro ?_ ?_ | intro hc) | simp (maxSteps := 4000000) only [wops_nil, wops_cons, wstep_none, wrun_call, wrun_mv, wrun_bin, wrun_lenS, wrun_alloc, wop, aop, ev, look, put_some, writes, ores_some, binV, thenK, intV, List.map_cons, List.map_nil, List.length_cons, List.length_nil, List.getElem?_cons_zero, List.getElem?_cons_succ, List.set_cons_zero, List.set_cons_succ, List.cons_append, List.nil_append, List.append_nil, List.replicate_zero, List.replicate_succ, List.zipIdx_cons, List.zipIdx_nil, Option.map_some, if_true, if_false, Nat.reduceEqDiff, Nat.reduceAdd, Nat.add_zero, Nat.zero_add, reduceCtorEq, eq_self, true_and, freeze, lidsL, lids, List.flatMap_cons, List.flatMap_nil, ren, renL, renR, renB, shiftρ, *] | simp (disch := omega) only [getD_ints, wrapI] | (with_reducible show wcall _ false (.lit (.func (.func 46) _ _)) _ _ _ _; refine wcall_fn (h46) ?_ ?_ ?_; (next => simp [rfyL, rfy, hget, ints, take_rfy]); (next => simp [plainL, plain, plainR])) | (with_reducible show wcallX _ false (.lit (.func (.func 46) _ _)) _ _ _ _; refine wcallX_fn (h46) ?_ ?_ ?_; (next => simp [rfyL, rfy, hget, ints, take_rfy]); (next => simp [plainL, plain, plainR])) | omega)
  refine T_rangeG (I15 s) (X15 s) (gf := 71) (first := []) (cap := [.loc 4 0 0]) rfl (i71 4 (s := s) (by omega)) ?_ ?_ ?_ ?_ ?_ ?_ ?_ ?_
  · rintro k H ⟨M, io, _, _, _, h4⟩
    exact h4
  · intro k H r s' h hl
    exact (List.getElem?_set_ne (show (5 : Nat) ≠ 4 by decide)).symm.trans h
  · rintro k H H1 r s' ⟨⟨o, n, z, e, h4⟩, rfl⟩ hl
    refine ⟨⟨⟨o, n, z, e, (List.getElem?_set_ne (show (5 : Nat) ≠ 4 by decide)).trans h4⟩, ?_⟩, (List.getElem?_set_ne (show (4 : Nat) ≠ 5 by decide)).trans hl⟩
    exact List.set_comm _ _ (show (4 : Nat) ≠ 5 by decide)
  · intro k H r s' args h _
    exact h
  · exact I15_0 s
  · intro k H0 H args hk hI hU hlp hE
    exact k15round hs rfl rfl rfl rfl hk hI hU hlp hE
  · intro H hI
    obtain ⟨M, io, hkP, hM, hJ, hc⟩ := hI
    have hPl := psL_len s
    have hnn : nln s = (pieces s ⟨#[10]⟩).length - 1 := by
      unfold nln at hkP ⊢
      by_cases hx : pcL s ((psL s).length - 1) = []
      · rw [if_pos hx]; omega
      · rw [if_neg hx] at hkP; omega
    have hlast : pcL s (nln s) = [] := by
      by_cases h : pcL s ((psL s).length - 1) = []
      · rw [hnn, hPl]; exact h
      · unfold nln at hkP
        rw [if_neg h] at hkP
        omega
    obtain ⟨w, hw⟩ : ∃ w, (pieces s ⟨#[10]⟩)[nln s]? = some w := ⟨_, List.getElem?_eq_getElem (by omega)⟩
    have hz : w.size = 0 := by
      rw [← pc_get hw, bA_size, hlast]; rfl
    rw [hnn] at hM hw
    have e := hr'.down.e_fin hM hw hz
    have hsz : ∀ x ∈ M, x.1.size ≤ 1000 ∧ x.2.length ≤ 1001 := lnsOf_sz hM fun p hp => by have := pieces_le (List.mem_of_mem_take hp); omega
    have hMl : M.length ≤ 1001 := by
      have h1 := pieces_len s 10
      rw [lnsOf_len hM, List.length_take]; omega
    clear hr' hPl hnn hlast hw hkP hM
    simp only [blockK, thenK]
    refine T_only [2, 3, 4, 5] (S := ⟨[(2, .loc 0 0 0), (3, .loc 1 0 0), (4, .loc 2 0 0), (5, .loc 3 0 0)], H⟩) ?_ ?_
    · rfl
    by_cases hm : M = []
    · subst hm
      rw [show stE [] = 10 from rfl, if_neg (by decide)] at e
      subst e
      exact k15tn hJ
    · by_cases he : stE M = 0
      · rw [if_pos he] at e
        subst e
        exact k15ty hJ hm hMl hsz he
      · rw [if_neg he] at e
        subst e
        exact k15tx hJ hm hMl hsz he
  · intro e H hX
    obtain ⟨rfl, n, h0, h1, h2, hws⟩ := hX
    obtain rfl := hws ws hr'.down
    exact leave_g (.inr rfl) [.sl true 0 [], i64 n, i64 7] (res3 rfl rfl rfl h0 h1 h2) rfl rfl
end Go.Abs
