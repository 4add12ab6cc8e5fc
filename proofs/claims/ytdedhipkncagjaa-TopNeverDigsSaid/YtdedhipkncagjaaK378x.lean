import Derived.Test.YtdedhipkncagjaaK374x
set_option linter.all false
set_option linter.unusedVariables false
set_option linter.unusedSimpArgs false
set_option linter.unusedSectionVars false
namespace Go.Abs
open Go.Proofs
theorem take_rfy (h : Nat → Blk) (xs : List Int) : List.take xs.length (List.map ((fun r => List.map (rfy h 5) r) ∘ fun x => [i64 x]) xs) = List.map (fun x => [i64 x]) xs := by
  rw [List.take_of_length_le (by simp)]; exact List.map_congr_left fun x _ => rfl
/-! AddSession -/
abbrev ssV (x : Ss) : AV := .lit (.agg #[.string x.mi, .string x.st, .int .i64 x.mn])
theorem ssR_snoc (s : List Ss) (x : Ss) : ssR s ++ [[tx x.mi, tx x.st, i64 x.mn]] = ssR (s ++ [x]) := by simp [ssR]
theorem lids_takeS (h : Nat → Blk) (d : Nat) (s : List Ss) (n : Nat) : List.flatMap (fun r => List.flatMap (lids h d) r) (List.take n (ssR s)) = [] := by
  rw [List.flatMap_eq_nil_iff]
  intro r hr
  obtain ⟨x, _, rfl⟩ := List.mem_map.1 (List.mem_of_mem_take hr)
  cases d <;> rfl
theorem fz4 (A B C : Blk) (n : Bool) (z : Nat) (X : List (List AV)) (T : List Blk) : freeze1 (A :: B :: C :: .cells true n z X :: T) 3 = A :: B :: C :: .cells false n z X :: T := rfl
def adE (l : List Sk) (lo hi : List Int) (s : List Ss) (x : Ss) : Int := if sE l ≠ 0 then sE l else if dmE (l.getD 0 sk0).wr.length lo hi ≠ 0 then dmE (l.getD 0 sk0).wr.length lo hi else if zE l s ≠ 0 then zE l s else zE l (s ++ [x])
theorem adE_zero {l : List Sk} {lo hi : List Int} {s : List Ss} {x : Ss} (h : adE l lo hi s x = 0) : sE l = 0 ∧ dmE (l.getD 0 sk0).wr.length lo hi = 0 ∧ zE l s = 0 ∧ zE l (s ++ [x]) = 0 := by
  unfold adE at h
  by_cases g : sE l = 0
  · rw [if_neg (fun h => h g)] at h
    by_cases g' : dmE (l.getD 0 sk0).wr.length lo hi = 0
    · rw [if_neg (fun h => h g')] at h
      by_cases g2 : zE l s = 0
      · rw [if_neg (fun h => h g2)] at h; exact ⟨g, g', g2, h⟩
      · rw [if_pos g2] at h; exact (g2 h).elim
    · rw [if_pos g'] at h; exact (g' h).elim
  · rw [if_pos g] at h; exact (g h).elim
structure AdB (s : List Ss) (x : Ss) : Prop where
  l : s.length < 900000
  m : ∀ k, k < s.length → (s.getD k ss0).mi.size < 1000000
  x : x.mi.size < 1000000
theorem AdB.m2 {s : List Ss} {x : Ss} (h : AdB s x) : ∀ k, k < (s ++ [x]).length → ((s ++ [x]).getD k ss0).mi.size < 1000000 := fun k hk => by
  rw [List.getD_eq_getElem?_getD]
  by_cases h1 : k < s.length
  · rw [List.getElem?_append_left h1, ← List.getD_eq_getElem?_getD]; exact h.m k h1
  · have : k = s.length := by simp at hk; omega
    subst this
    simp [h.x]
theorem first56 {b n1 n2 n3 : Bool} {m : Nat} {E : List (List AV)} {l : List Sk} {lo hi : List Int} {s : List Ss} {xx : Ss} (hV : StV l b m E) (hl : l.length < 1000000) (hlo : lo.length < 1000000) (hhi : hi.length < 1000000) (hA : AdB s xx) : ∀ (H : List Blk) (id x y z u v t w : Nat) (o nl o1 m1 o2 m2 o3 m3 o4 m4 o5 m5 o6 m6 o7 m7 : Bool), H[id]? = some (.cells o nl 1 [[.clo (.func 62) [] [.loc x 0 0]], [.clo (.func 64) [] [.loc y 0 0, .loc z 0 0]], [.clo (.func 66) [] [.loc v 0 0, .loc u 0 0]], [.clo (.func 66) [] [.loc w 0 0, .loc t 0 0]]]) → H[x]? = some (.cells o1 m1 1 [[.sl b m E]]) → H[y]? = some (.cells o2 m2 1 [[.sl b m E]]) → H[z]? = some (.cells o3 m3 2 [[ints n1 lo, ints n2 hi]]) → H[u]? = some (.cells o4 m4 1 [[.sl b m E]]) → H[v]? = some (.cells o5 m5 1 [[sss n3 s]]) → H[t]? = some (.cells o6 m6 1 [[.sl b m E]]) → H[w]? = some (.cells o7 m7 1 [[.sl false 3 (ssR (s ++ [xx]))]]) →
      ACall Try.prog 38 [.lsl id 0 4] H fun r H' => r = i64 (adE l lo hi s xx) ∧ App H H' := fun H id x y z u v t w o nl o1 m1 o2 m2 o3 m3 o4 m4 o5 m5 o6 m6 o7 m7 h1 h2 h200 h201 h202 h203 h204 h205 => by
  have hll := hA.l
  have := first4B h1 (k62B hV.p h2 hV.f) (e2 := dmE (l.getD 0 sk0).wr.length lo hi) (e200 := zE l s) (e201 := zE l (s ++ [xx])) (fun h0 => by
    obtain ⟨rfl, rfl⟩ := hV.g h0
    have hS := sE_ok h0
    exact k64B hS.pos (by have := hS.zon; omega) hlo hhi h200 h201) (fun h0 _ => by
      obtain ⟨rfl, rfl⟩ := hV.g h0
      exact k66B hl (by omega) hA.m h202 h203) fun h0 _ _ => by
      obtain ⟨rfl, rfl⟩ := hV.g h0
      exact k66B hl (by simp; omega) hA.m2 h204 h205
  exact this
set_option maxHeartbeats 8000000 in
theorem k17e {b n1 n2 : Bool} {m : Nat} {E : List (List AV)} {l : List Sk} {lo hi : List Int} {s : List Ss} {x : Ss} (hV : StV l b m E) (hl : l.length < 1000000) (hlo : lo.length < 1000000) (hhi : hi.length < 1000000) (hA : AdB s x) (hne : adE l lo hi s x ≠ 0) : Fn Try.prog 17 [.sl b m E, dmV n1 lo n2 hi, sss false s, ssV x] (.tup [.sl true 0 [], i64 (adE l lo hi s x)]) [] := by
  refine fn_of e17 ?_
  have hll := hA.l
  have h37 := k37 s (by omega)
  have h39 := k39 (b := b) (m := m) hV.p
  have h40 := k40 (b := b) (m := m) hV.p n1 n2 lo hi
  have h41 := k41 (b := b) (m := m) (b2 := false) (m2 := 3) hV.p (plainR_ss s)
  have h41b := k41 (b := b) (m := m) (b2 := false) (m2 := 3) hV.p (plainR_ss (s ++ [x]))
  have hE := hV.p
  have hr := fun ρ => renR_plain ρ E hE
  have hcall := PLift.up (first56 (n1 := n1) (n2 := n2) (n3 := false) hV hl hlo hhi hA)
  have d0 : (adE l lo hi s x != 0) = true := by simp only [bne_iff_ne]; exact hne
  have hsl := ssR_len s
  have hsn := ssR_snoc s x
  have hsl2 : (ssR (s ++ [x])).length = s.length + 1 := by simp [ssR_len]
  have hlt := fun h d n => lids_takeS h d (s ++ [x]) n
  have hSp := plainR_ss (s ++ [x])
  have hSr := fun ρ => renR_ss ρ (s ++ [x])
  generalize adE l lo hi s x = R at *
  clear hV hne hA
  replace h41b := PLift.up h41b
  generalize ssR (s ++ [x]) = SX at *
  unfold c17
  repeat' (first | ((with_reducible refine T_calm ?_ ?_); rfl) | (with_reducible first | refine T_seq ?_ | refine T_reg ?_ | refine T_draw ?_ | refine T_skip ?_ | refine T_exit ?_ | refine T_block ?_ | refine T_cond_t rfl ?_ | refine T_cond_f rfl ?_ | refine wdW_cons rfl ?_ | (show wcall _ false (.lit (.func (.func 37) _ _)) _ _ _ _; refine wcall_fn (h37) rfl (by simp [plainL, plain, plainR, hE, hr, renR_ints, plainR_ss, renR_ss, ss_take]) ?_) | (show wcallX _ false (.lit (.func (.func 37) _ _)) _ _ _ _; refine wcallX_fn (h37) rfl (by simp [plainL, plain, plainR_ss]) ?_) | (show wcall _ false (.lit (.func (.func 39) _ _)) _ _ _ _; refine wcall_fn (h39) rfl (by simp [plainL, plain, plainR, hE, hr, renR_ints, plainR_ss, renR_ss, ss_take]) ?_) | (show wcallX _ false (.lit (.func (.func 39) _ _)) _ _ _ _; refine wcallX_fn (h39) rfl (by simp [plainL, plain, hE]) ?_) | (show wcall _ false (.lit (.func (.func 40) _ _)) _ _ _ _; refine wcall_fn (h40) rfl (by simp [plainL, plain, plainR, hE, hr, renR_ints, plainR_ss, renR_ss, ss_take]) ?_) | (show wcallX _ false (.lit (.func (.func 40) _ _)) _ _ _ _; refine wcallX_fn (h40) rfl (by simp [plainL, plain, hE]) ?_) | (show wcall _ false (.lit (.func (.func 41) _ _)) _ _ _ _; refine wcall_fn (h41) rfl (by simp [plainL, plain, plainR, hE, hr, renR_ints, plainR_ss, renR_ss, ss_take]) ?_) | (show wcallX _ false (.lit (.func (.func 41) _ _)) _ _ _ _; refine wcallX_fn (h41) rfl (by simp [plainL, plain, hE, plainR_ss]) ?_) | refine T_ret ?_ | refine leave_of (.inr rfl) _ rfl ?_ | refine leave_of (.inl rfl) _ rfl ?_ | refine leaveA_of (.inr rfl) _ rfl ?_ | refine leaveA_of (.inl rfl) _ rfl ?_ | refine wif_intro ?_ (fun hc => ?_) | refine And.intro ?_ ?_ | intro hc) | simp (maxSteps := 4000000) only [wops_nil, wops_cons, wstep_none, wrun_mv, wrun_load, wrun_box, wrun_bslice, wrun_app, wrunX_mv, wrunX_load, wrunX_bslice, wrunX_app, wdW_nil, wstepX_none, wrunX_call, wop, aop, ev, look, put_some, writes, ores_some, ores_ite_none, thenK, elsOf, szOk, value, cut, hget, fillA, putCells, AV.parts, isOne, toLits, mkAgg, ofValue_int, ofValue_str, List.flatten_cons, List.flatten_nil, rowsOf, List.map_cons, List.map_nil, List.length_cons, List.length_nil, List.getElem?_cons_zero, List.getElem?_cons_succ, List.set_cons_zero, List.set_cons_succ, List.take_succ_cons, List.take_zero, List.take_nil, List.drop_succ_cons, List.drop_zero, List.drop_nil, List.cons_append, List.nil_append, List.append_nil, List.replicate_zero, List.replicate_succ, List.getD_cons_zero, List.zipIdx_cons, List.zipIdx_nil, List.all_cons, List.all_nil, List.isEmpty_cons, Option.getD_some, Option.map_some, if_true, if_false, Nat.reduceEqDiff, Nat.reduceAdd, Nat.add_zero, Nat.zero_add, Nat.sub_zero, Nat.zero_mul, Nat.le_refl, Nat.zero_ne_one, reduceCtorEq, Bool.and_true, Bool.and_false, Bool.or_true, eq_self, true_and, and_self, beq_self_eq_true, freeze, lidsL, lids, List.flatMap_cons, List.flatMap_nil, List.all_cons, ren, renL, renR, renB, shiftρ, renR_ints, renR_ints, renR_ss, ss_take, *] | simp (disch := omega) only [getD_ints, wrapI] | (with_reducible show wcall _ false (.lit (.func (.func 37) _ _)) _ _ _ _; refine wcall_fn (h37) ?_ ?_ ?_; (next => simp [rfyL, rfy, hget, ints, take_rfy, hE, hr, renR_ints, plainR_ss, renR_ss, ss_take]); (next => simp [plainL, plain, plainR, hE, hr, renR_ints, plainR_ss, renR_ss, ss_take])) | (with_reducible show wcallX _ false (.lit (.func (.func 37) _ _)) _ _ _ _; refine wcallX_fn (h37) ?_ ?_ ?_; (next => simp [rfyL, rfy, hget, ints, take_rfy, hE, hr, renR_ints, plainR_ss, renR_ss, ss_take]); (next => simp [plainL, plain, plainR, hE, hr, renR_ints, plainR_ss, renR_ss, ss_take])) | (with_reducible show wcall _ false (.lit (.func (.func 39) _ _)) _ _ _ _; refine wcall_fn (h39) ?_ ?_ ?_; (next => simp [rfyL, rfy, hget, ints, take_rfy, hE, hr, renR_ints, plainR_ss, renR_ss, ss_take]); (next => simp [plainL, plain, plainR, hE, hr, renR_ints, plainR_ss, renR_ss, ss_take])) | (with_reducible show wcallX _ false (.lit (.func (.func 39) _ _)) _ _ _ _; refine wcallX_fn (h39) ?_ ?_ ?_; (next => simp [rfyL, rfy, hget, ints, take_rfy, hE, hr, renR_ints, plainR_ss, renR_ss, ss_take]); (next => simp [plainL, plain, plainR, hE, hr, renR_ints, plainR_ss, renR_ss, ss_take])) | (with_reducible show wcall _ false (.lit (.func (.func 40) _ _)) _ _ _ _; refine wcall_fn (h40) ?_ ?_ ?_; (next => simp [rfyL, rfy, hget, ints, take_rfy, hE, hr, renR_ints, plainR_ss, renR_ss, ss_take]); (next => simp [plainL, plain, plainR, hE, hr, renR_ints, plainR_ss, renR_ss, ss_take])) | (with_reducible show wcallX _ false (.lit (.func (.func 40) _ _)) _ _ _ _; refine wcallX_fn (h40) ?_ ?_ ?_; (next => simp [rfyL, rfy, hget, ints, take_rfy, hE, hr, renR_ints, plainR_ss, renR_ss, ss_take]); (next => simp [plainL, plain, plainR, hE, hr, renR_ints, plainR_ss, renR_ss, ss_take])) | (with_reducible show wcall _ false (.lit (.func (.func 41) _ _)) _ _ _ _; refine wcall_fn (h41) ?_ ?_ ?_; (next => simp [rfyL, rfy, hget, ints, take_rfy, hE, hr, renR_ints, plainR_ss, renR_ss, ss_take]); (next => simp [plainL, plain, plainR, hE, hr, renR_ints, plainR_ss, renR_ss, ss_take])) | (with_reducible show wcallX _ false (.lit (.func (.func 41) _ _)) _ _ _ _; refine wcallX_fn (h41) ?_ ?_ ?_; (next => simp [rfyL, rfy, hget, ints]); (next => simp [plainL, plain, plainR, hE, hr, renR_ints, plainR_ss, renR_ss, ss_take])) | omega)
  refine wcallX_fn h41b.down (rL2 (rds_plain (d := 0) (by simp [plain, hE])) (rds_row (d := 0) rfl hSp hsl2) (by omega) (by omega)) (by simp [plainL, plain, hE, hSp]) ?_
  repeat' (first | ((with_reducible refine T_calm ?_ ?_); rfl) | (with_reducible first | refine T_seq ?_ | refine T_reg ?_ | refine T_draw ?_ | refine T_skip ?_ | refine T_exit ?_ | refine T_block ?_ | refine T_cond_t rfl ?_ | refine T_cond_f rfl ?_ | refine wdW_cons rfl ?_ | refine T_ret ?_ | refine leave_of (.inr rfl) _ rfl ?_ | refine leave_of (.inl rfl) _ rfl ?_ | refine leaveA_of (.inr rfl) _ rfl ?_ | refine leaveA_of (.inl rfl) _ rfl ?_ | refine wif_intro ?_ (fun hc => ?_) | refine And.intro ?_ ?_ | intro hc) | simp (maxSteps := 4000000) only [wrun_bslice, wrunX_bslice, wstepX_none, wrunX_call, wop, aop, ev, look, put_some, writes, ores_some, hget, fillA, putCells, AV.parts, isOne, List.flatten_cons, List.flatten_nil, rowsOf, List.map_cons, List.map_nil, List.length_cons, List.length_nil, List.getElem?_cons_zero, List.getElem?_cons_succ, List.set_cons_zero, List.set_cons_succ, List.take_succ_cons, List.take_zero, List.take_nil, List.drop_succ_cons, List.drop_zero, List.drop_nil, List.cons_append, List.nil_append, List.append_nil, List.replicate_zero, List.replicate_succ, List.all_cons, List.all_nil, Option.getD_some, if_true, if_false, Nat.reduceEqDiff, Nat.reduceAdd, Nat.reduceLeDiff, Nat.add_zero, Nat.zero_add, Nat.mul_one, Nat.le_refl, reduceCtorEq, Bool.and_true, eq_self, true_and, and_self, freeze, lidsL, lids, List.flatMap_cons, List.flatMap_nil, List.all_cons, ren, renL, renR, renB, shiftρ, fz4, *] | simp (disch := omega) only [getD_ints, wrapI] | omega)
  refine wcallX_raw (hcall.down _ 5 6 7 8 9 10 11 12 _ _ _ _ _ _ _ _ _ _ _ _ _ _ _ _ rfl rfl rfl rfl rfl rfl rfl rfl) ⟨_, _, rfl, App.refl _⟩ ?_
  rintro r H' ⟨rfl, hx⟩
  clear hcall h39 h40 h41 h41b hx
  repeat' (first | ((with_reducible refine T_calm ?_ ?_); rfl) | (with_reducible first | refine T_seq ?_ | refine T_reg ?_ | refine T_draw ?_ | refine T_skip ?_ | refine T_exit ?_ | refine T_block ?_ | refine T_cond_t rfl ?_ | refine T_cond_f rfl ?_ | refine wdW_cons rfl ?_ | refine T_ret ?_ | refine leave_of (.inr rfl) _ rfl ?_ | refine leave_of (.inl rfl) _ rfl ?_ | refine leaveA_of (.inr rfl) _ rfl ?_ | refine leaveA_of (.inl rfl) _ rfl ?_ | refine wif_intro ?_ (fun hc => ?_) | refine And.intro ?_ ?_ | intro hc) | simp (maxSteps := 4000000) only [wops_nil, wops_cons, wstep_none, wrun_mv, wrun_bin, wrunX_mv, wdW_nil, wstepX_none, get_mk, wop, aop, ev, look, put_some, writes, ores_some, binV, thenK, tupOf, List.append_nil, List.replicate_zero, Option.map_some, if_true, if_false, Nat.reduceEqDiff, reduceCtorEq, eq_self, ren, renL, renR, *] | simp (disch := omega) only [getD_ints, wrapI] | omega)
  all_goals first | rfl
theorem freeze_last2 (H : List Blk) (A : Blk) (n : Bool) (z : Nat) (X : List (List AV)) : freeze1 (H ++ [A, .cells true n z X]) (H.length + 1) = H ++ [A, .cells false n z X] := by
  unfold freeze1
  rw [List.getElem?_append_right (by omega), Nat.add_sub_cancel_left]
  simp only [List.getElem?_cons_succ, List.getElem?_cons_zero]
  rw [List.set_append_right _ _ (by omega), Nat.add_sub_cancel_left]
  rfl
set_option maxHeartbeats 8000000 in
theorem k17 {nil n1 n2 : Bool} {l : List Sk} {lo hi : List Int} {s : List Ss} {x : Ss} (hV : StV l nil 2 (skR l)) (hlo : lo.length < 1000000) (hhi : hi.length < 1000000) (hA : AdB s x) (h0 : adE l lo hi s x = 0) (hok : okB hi (wrL l (s ++ [x]) x.mi) (l.getD 0 sk0).wr.length = true) : Fn Try.prog 17 [sts nil l, dmV n1 lo n2 hi, sss false s, ssV x] (.tup [.lsl 0 0 (s.length + 1), i64 0]) [.cells false false 3 (ssR (s ++ [x]))] := by
  refine fn_of e17 ?_
  obtain ⟨z1, z2, z3, z4⟩ := adE_zero h0
  have hS := sE_ok z1
  have hD := dmE_ok z2
  have hZ := zE_ok z4
  have hfew := hS.few
  have hll := hA.l
  have h37 := k37 s (by omega)
  have h39 := k39 (b := nil) (m := 2) (plainR_sk l)
  have h40 := k40 (b := nil) (m := 2) (plainR_sk l) n1 n2 lo hi
  have h41 := k41 (b := nil) (m := 2) (b2 := false) (m2 := 3) (plainR_sk l) (plainR_ss s)
  have h41b := k41 (b := nil) (m := 2) (b2 := false) (m2 := 3) (plainR_sk l) (plainR_ss (s ++ [x]))
  have hcall := first56 (n1 := n1) (n2 := n2) (n3 := false) hV (by omega) hlo hhi hA
  rw [h0] at hcall
  have h43 : Fn Try.prog 43 [sts nil l, .sl false 3 (ssR (s ++ [x])), tx x.mi] _ _ := k43 nil false l (s ++ [x]) x.mi hS hZ
  have hR := rb_of (b := x.mi) hS hZ hD
  have hl3 := hR.l3
  have h42 := k42 n1 n2 false hR hok
  have hsl := ssR_len s
  have hsn := ssR_snoc s x
  have hsl2 : (ssR (s ++ [x])).length = s.length + 1 := by simp [ssR_len]
  have hlt := fun h d n => lids_takeS h d (s ++ [x]) n
  have hSp := plainR_ss (s ++ [x])
  have hSr := fun ρ => renR_ss ρ (s ++ [x])
  replace hcall := PLift.up hcall
  replace h41b := PLift.up h41b
  replace h43 := PLift.up h43
  clear hV h0 z1 z2 z3 z4 hS hD hZ hok hR hA
  generalize wrL l (s ++ [x]) x.mi = W at *
  generalize (l.getD 0 sk0).wr.length = n at *
  generalize lwL lo W n = L at *
  generalize hwL hi W n = U at *
  subst hl3
  generalize ssR (s ++ [x]) = SX at *
  unfold c17
  repeat' (first | ((with_reducible refine T_calm ?_ ?_); rfl) | (with_reducible first | refine T_seq ?_ | refine T_reg ?_ | refine T_draw ?_ | refine T_skip ?_ | refine T_exit ?_ | refine T_block ?_ | refine T_cond_t rfl ?_ | refine T_cond_f rfl ?_ | refine wdW_cons rfl ?_ | (show wcall _ false (.lit (.func (.func 37) _ _)) _ _ _ _; refine wcall_fn (h37) rfl (by simp [plainL, plain, plainR, plainR_sk, renR_sk, renR_ints, plainR_ss, renR_ss, ss_take]) ?_) | (show wcallX _ false (.lit (.func (.func 37) _ _)) _ _ _ _; refine wcallX_fn (h37) rfl (by simp [plainL, plain, plainR_ss]) ?_) | (show wcall _ false (.lit (.func (.func 39) _ _)) _ _ _ _; refine wcall_fn (h39) rfl (by simp [plainL, plain, plainR, plainR_sk, renR_sk, renR_ints, plainR_ss, renR_ss, ss_take]) ?_) | (show wcallX _ false (.lit (.func (.func 39) _ _)) _ _ _ _; refine wcallX_fn (h39) rfl (by simp [plainL, plain, plainR_sk]) ?_) | (show wcall _ false (.lit (.func (.func 40) _ _)) _ _ _ _; refine wcall_fn (h40) rfl (by simp [plainL, plain, plainR, plainR_sk, renR_sk, renR_ints, plainR_ss, renR_ss, ss_take]) ?_) | (show wcallX _ false (.lit (.func (.func 40) _ _)) _ _ _ _; refine wcallX_fn (h40) rfl (by simp [plainL, plain, plainR_sk]) ?_) | (show wcall _ false (.lit (.func (.func 41) _ _)) _ _ _ _; refine wcall_fn (h41) rfl (by simp [plainL, plain, plainR, plainR_sk, renR_sk, renR_ints, plainR_ss, renR_ss, ss_take]) ?_) | (show wcallX _ false (.lit (.func (.func 41) _ _)) _ _ _ _; refine wcallX_fn (h41) rfl (by simp [plainL, plain, plainR_sk, plainR_ss]) ?_) | refine T_ret ?_ | refine leave_of (.inr rfl) _ rfl ?_ | refine leave_of (.inl rfl) _ rfl ?_ | refine leaveA_of (.inr rfl) _ rfl ?_ | refine leaveA_of (.inl rfl) _ rfl ?_ | refine wif_intro ?_ (fun hc => ?_) | refine And.intro ?_ ?_ | intro hc) | simp (maxSteps := 4000000) only [wops_nil, wops_cons, wstep_none, wrun_mv, wrun_load, wrun_box, wrun_bslice, wrun_app, wrunX_mv, wrunX_load, wrunX_bslice, wrunX_app, wdW_nil, wstepX_none, wrunX_call, wop, aop, ev, look, put_some, writes, ores_some, ores_ite_none, thenK, elsOf, szOk, value, cut, hget, fillA, putCells, AV.parts, isOne, toLits, mkAgg, ofValue_int, ofValue_str, List.flatten_cons, List.flatten_nil, rowsOf, List.map_cons, List.map_nil, List.length_cons, List.length_nil, List.getElem?_cons_zero, List.getElem?_cons_succ, List.set_cons_zero, List.set_cons_succ, List.take_succ_cons, List.take_zero, List.take_nil, List.drop_succ_cons, List.drop_zero, List.drop_nil, List.cons_append, List.nil_append, List.append_nil, List.replicate_zero, List.replicate_succ, List.getD_cons_zero, List.zipIdx_cons, List.zipIdx_nil, List.all_cons, List.all_nil, List.isEmpty_cons, Option.getD_some, Option.map_some, if_true, if_false, Nat.reduceEqDiff, Nat.reduceAdd, Nat.add_zero, Nat.zero_add, Nat.sub_zero, Nat.zero_mul, Nat.le_refl, Nat.zero_ne_one, reduceCtorEq, Bool.and_true, Bool.and_false, Bool.or_true, eq_self, true_and, and_self, beq_self_eq_true, freeze, lidsL, lids, List.flatMap_cons, List.flatMap_nil, List.all_cons, ren, renL, renR, renB, shiftρ, renR_ints, renR_sk, renR_ints, renR_ss, ss_take, *] | simp (disch := omega) only [getD_ints, wrapI] | (with_reducible show wcall _ false (.lit (.func (.func 37) _ _)) _ _ _ _; refine wcall_fn (h37) ?_ ?_ ?_; (next => simp [rfyL, rfy, hget, ints, take_rfy, plainR_sk, renR_sk, renR_ints, plainR_ss, renR_ss, ss_take]); (next => simp [plainL, plain, plainR, plainR_sk, renR_sk, renR_ints, plainR_ss, renR_ss, ss_take])) | (with_reducible show wcallX _ false (.lit (.func (.func 37) _ _)) _ _ _ _; refine wcallX_fn (h37) ?_ ?_ ?_; (next => simp [rfyL, rfy, hget, ints, take_rfy, plainR_sk, renR_sk, renR_ints, plainR_ss, renR_ss, ss_take]); (next => simp [plainL, plain, plainR, plainR_sk, renR_sk, renR_ints, plainR_ss, renR_ss, ss_take])) | (with_reducible show wcall _ false (.lit (.func (.func 39) _ _)) _ _ _ _; refine wcall_fn (h39) ?_ ?_ ?_; (next => simp [rfyL, rfy, hget, ints, take_rfy, plainR_sk, renR_sk, renR_ints, plainR_ss, renR_ss, ss_take]); (next => simp [plainL, plain, plainR, plainR_sk, renR_sk, renR_ints, plainR_ss, renR_ss, ss_take])) | (with_reducible show wcallX _ false (.lit (.func (.func 39) _ _)) _ _ _ _; refine wcallX_fn (h39) ?_ ?_ ?_; (next => simp [rfyL, rfy, hget, ints, take_rfy, plainR_sk, renR_sk, renR_ints, plainR_ss, renR_ss, ss_take]); (next => simp [plainL, plain, plainR, plainR_sk, renR_sk, renR_ints, plainR_ss, renR_ss, ss_take])) | (with_reducible show wcall _ false (.lit (.func (.func 40) _ _)) _ _ _ _; refine wcall_fn (h40) ?_ ?_ ?_; (next => simp [rfyL, rfy, hget, ints, take_rfy, plainR_sk, renR_sk, renR_ints, plainR_ss, renR_ss, ss_take]); (next => simp [plainL, plain, plainR, plainR_sk, renR_sk, renR_ints, plainR_ss, renR_ss, ss_take])) | (with_reducible show wcallX _ false (.lit (.func (.func 40) _ _)) _ _ _ _; refine wcallX_fn (h40) ?_ ?_ ?_; (next => simp [rfyL, rfy, hget, ints, take_rfy, plainR_sk, renR_sk, renR_ints, plainR_ss, renR_ss, ss_take]); (next => simp [plainL, plain, plainR, plainR_sk, renR_sk, renR_ints, plainR_ss, renR_ss, ss_take])) | (with_reducible show wcall _ false (.lit (.func (.func 41) _ _)) _ _ _ _; refine wcall_fn (h41) ?_ ?_ ?_; (next => simp [rfyL, rfy, hget, ints, take_rfy, plainR_sk, renR_sk, renR_ints, plainR_ss, renR_ss, ss_take]); (next => simp [plainL, plain, plainR, plainR_sk, renR_sk, renR_ints, plainR_ss, renR_ss, ss_take])) | (with_reducible show wcallX _ false (.lit (.func (.func 41) _ _)) _ _ _ _; refine wcallX_fn (h41) ?_ ?_ ?_; (next => simp [rfyL, rfy, hget, ints]); (next => simp [plainL, plain, plainR, plainR_sk, renR_sk, renR_ints, plainR_ss, renR_ss, ss_take])) | omega)
  refine wcallX_fn h41b.down (rL2 (rds_plain (d := 0) (v := sts nil l) (plainR_sk l)) (rds_row (d := 0) rfl hSp hsl2) (by omega) (by omega)) (by simp [plainL, plain, plainR_sk, hSp]) ?_
  repeat' (first | ((with_reducible refine T_calm ?_ ?_); rfl) | (with_reducible first | refine T_seq ?_ | refine T_reg ?_ | refine T_draw ?_ | refine T_skip ?_ | refine T_exit ?_ | refine T_block ?_ | refine T_cond_t rfl ?_ | refine T_cond_f rfl ?_ | refine wdW_cons rfl ?_ | refine T_ret ?_ | refine leave_of (.inr rfl) _ rfl ?_ | refine leave_of (.inl rfl) _ rfl ?_ | refine leaveA_of (.inr rfl) _ rfl ?_ | refine leaveA_of (.inl rfl) _ rfl ?_ | refine wif_intro ?_ (fun hc => ?_) | refine And.intro ?_ ?_ | intro hc) | simp (maxSteps := 4000000) only [wrun_bslice, wrunX_bslice, wstepX_none, wrunX_call, wop, aop, ev, look, put_some, writes, ores_some, hget, fillA, putCells, AV.parts, isOne, List.flatten_cons, List.flatten_nil, rowsOf, List.map_cons, List.map_nil, List.length_cons, List.length_nil, List.getElem?_cons_zero, List.getElem?_cons_succ, List.set_cons_zero, List.set_cons_succ, List.take_succ_cons, List.take_zero, List.take_nil, List.drop_succ_cons, List.drop_zero, List.drop_nil, List.cons_append, List.nil_append, List.append_nil, List.replicate_zero, List.replicate_succ, List.all_cons, List.all_nil, Option.getD_some, if_true, if_false, Nat.reduceEqDiff, Nat.reduceAdd, Nat.reduceLeDiff, Nat.add_zero, Nat.zero_add, Nat.mul_one, Nat.le_refl, reduceCtorEq, Bool.and_true, eq_self, true_and, and_self, freeze, lidsL, lids, List.flatMap_cons, List.flatMap_nil, List.all_cons, ren, renL, renR, renB, shiftρ, renR_sk, fz4, *] | simp (disch := omega) only [getD_ints, wrapI] | omega)
  refine wcallX_raw (hcall.down _ 5 6 7 8 9 10 11 12 _ _ _ _ _ _ _ _ _ _ _ _ _ _ _ _ rfl rfl rfl rfl rfl rfl rfl rfl) ⟨_, _, rfl, App.refl _⟩ ?_
  rintro r H' ⟨rfl, hx⟩
  have g0 := hx.at_ (i := 0) rfl
  have g1 := hx.at_ (i := 1) rfl
  have g3 := hx.at_ (i := 3) rfl
  have y0 := (List.getElem?_eq_some_iff.1 g0).1
  have y1 := (List.getElem?_eq_some_iff.1 g1).1
  have y3 := (List.getElem?_eq_some_iff.1 g3).1
  obtain ⟨u1, u2, u3, u4⟩ := cells_sub (X := []) (H := H') rfl
  have a0 := at_in g0
  have a1 := at_in g1
  have a3 := at_in g3
  have hfz : ∀ Y, freeze1 (H' ++ Y) 3 = H' ++ Y := fun Y => freeze1_no (a3 Y)
  clear hcall h39 h40 h41 h41b hx
  repeat' (first | ((with_reducible refine T_calm ?_ ?_); rfl) | (with_reducible first | refine T_seq ?_ | refine T_reg ?_ | refine T_draw ?_ | refine T_skip ?_ | refine T_exit ?_ | refine T_block ?_ | refine T_cond_t rfl ?_ | refine T_cond_f rfl ?_ | refine wdW_cons rfl ?_ | refine T_ret ?_ | refine leave_of (.inr rfl) _ rfl ?_ | refine leave_of (.inl rfl) _ rfl ?_ | refine leaveA_of (.inr rfl) _ rfl ?_ | refine leaveA_of (.inl rfl) _ rfl ?_ | refine wif_intro ?_ (fun hc => ?_) | refine And.intro ?_ ?_ | intro hc) | simp (maxSteps := 4000000) only [wops_nil, wops_cons, wstep_none, wrun_mv, wrun_bin, wrun_load, wrun_faddr, wrunX_mv, wrunX_load, wrunX_faddr, wdW_nil, wstepX_none, wrunX_call, wop, aop, ev, look, put_some, writes, ores_some, binV, thenK, value, cut, hget, toLits, mkAgg, List.map_cons, List.map_nil, List.length_cons, List.length_nil, List.take_succ_cons, List.take_zero, List.take_nil, List.drop_zero, List.append_nil, List.replicate_zero, List.replicate_succ, List.getD_cons_zero, Option.getD_some, Option.map_some, if_true, if_false, Nat.reduceEqDiff, Nat.reduceAdd, Nat.add_zero, Nat.zero_add, reduceCtorEq, Bool.false_eq_true, eq_self, *] | simp (disch := omega) only [getD_ints, wrapI] | (with_reducible refine wdW_cons ?_ ?_; (next => simp [chk, foot, compatB, argsOf, St.get, target, ev, look, lidsL, kind, AOp.isRaw, wids, tops, opds, topId, y0]; done)) | omega)
  refine wcallX_fn h43.down (rL3 (rds_plain (d := 0) (v := sts nil l) (plainR_sk l)) (rds_row (d := 0) (a3 _) hSp hsl2) (rds_plain (d := 0) (v := tx x.mi) rfl) (by omega) (by omega) (by omega)) (by simp [plainL, plain, plainR_sk, hSp]) ?_
  have hfl := freeze_last2 H'
  have nn1 : ¬H'.length = 1 := by omega
  have nn3 : ¬H'.length = 3 := by omega
  have nn0 : ¬H' = [] := fun h => by rw [h] at y0; simp at y0
  repeat' (first | ((with_reducible refine T_calm ?_ ?_); rfl) | (with_reducible first | refine T_seq ?_ | refine T_reg ?_ | refine T_draw ?_ | refine T_skip ?_ | refine T_exit ?_ | refine T_block ?_ | refine T_cond_t rfl ?_ | refine T_cond_f rfl ?_ | refine wdW_cons rfl ?_ | (show wcall _ false (.lit (.func (.func 42) _ _)) _ _ _ _; refine wcall_fn (h42) rfl (by simp [plainL, plain, plainR, plainR_sk, renR_ints, plainR_ss, lids_take, hlt, hfz, y0, y1, y3, hfl, a3, u1, u2, nn0, nn1, nn3, lids]) ?_) | (show wcallX _ false (.lit (.func (.func 42) _ _)) _ _ _ _; refine wcallX_fn (h42) rfl (by simp [plainL, plain]) ?_) | refine T_ret ?_ | refine wif_intro ?_ (fun hc => ?_) | refine And.intro ?_ ?_ | intro hc) | simp (maxSteps := 4000000) only [wops_nil, wops_cons, wstep_none, wrun_mv, wrun_bin, wrun_ext, wrun_store, wrun_alloc, wrunX_mv, wrunX_ext, wrunX_store, wrunX_alloc, wdW_nil, wstepX_none, wrunX_call, wop, aop, ev, look, put_some, put_none, writes, ores_some, binV, thenK, hget, putCells, AV.parts, isOne, List.map_cons, List.map_nil, List.length_cons, List.length_nil, List.getElem?_cons_zero, List.getElem?_cons_succ, List.set_cons_zero, List.take_zero, List.drop_succ_cons, List.drop_zero, List.drop_nil, List.cons_append, List.nil_append, List.append_nil, List.append_assoc, List.replicate_zero, List.getD_cons_zero, List.all_cons, List.all_nil, List.length_append, Option.getD_some, Option.map_some, if_true, if_false, Nat.reduceEqDiff, Nat.reduceAdd, Nat.reduceLT, Nat.add_zero, Nat.zero_add, Nat.le_refl, reduceCtorEq, Bool.and_true, eq_self, true_and, and_self, freeze, lidsL, lids, List.flatMap_cons, List.flatMap_nil, List.all_cons, ren, renL, renB, shiftρ, renR_ints, renR_ints, lids_take, lids, *] | simp (disch := omega) only [getD_ints, wrapI] | (with_reducible show wcall _ false (.lit (.func (.func 42) _ _)) _ _ _ _; refine wcall_fn (h42) ?_ ?_ ?_; (next => simp [rfyL, rfy, hget, ints, take_rfy, plainR_sk, renR_ints, plainR_ss, lids_take, hlt, hfz, y0, y1, y3, hfl, a3, u1, u2, nn0, nn1, nn3, lids]); (next => simp [plainL, plain, plainR, plainR_sk, renR_ints, plainR_ss, lids_take, hlt, hfz, y0, y1, y3, hfl, a3, u1, u2, nn0, nn1, nn3, lids])) | (with_reducible show wcallX _ false (.lit (.func (.func 42) _ _)) _ _ _ _; refine wcallX_fn (h42) ?_ ?_ ?_; (next => simp [rfyL, rfy, hget, ints, take_rfy]); (next => simp [plainL, plain])) | (with_reducible refine wdW_cons ?_ ?_; (next => simp [chk, foot, compatB, argsOf, St.get, target, ev, look, lidsL, hget, kind, AOp.isRaw, wids, tops, opds, topId, lids_take, hlt, a3, nn0, nn1, nn3, lids]; done)) | omega)
  refine leave_ids (.inr rfl) [.lsl 3 0 (s.length + 1), i64 0] [3] rfl (fun id hid => ?_) (by simp) ?_
  · simp only [List.mem_singleton] at hid
    subst hid
    show 3 < (H' ++ _).length
    rw [List.length_append]; omega
  · generalize hHH : H' ++ _ = HH
    have hq : HH[3]? = some (.cells false false 3 SX) := by rw [← hHH]; exact a3 _
    simp [ren, renL, tupOf, keepρ, pos, hget, hq, renB, hSr]
set_option maxHeartbeats 8000000 in
theorem k17o {nil n1 n2 : Bool} {l : List Sk} {lo hi : List Int} {s : List Ss} {x : Ss} (hV : StV l nil 2 (skR l)) (hlo : lo.length < 1000000) (hhi : hi.length < 1000000) (hA : AdB s x) (h0 : adE l lo hi s x = 0) (hok : okB hi (wrL l (s ++ [x]) x.mi) (l.getD 0 sk0).wr.length = false) : Fn Try.prog 17 [sts nil l, dmV n1 lo n2 hi, sss false s, ssV x] (.tup [.sl true 0 [], i64 26]) [] := by
  refine fn_of e17 ?_
  obtain ⟨z1, z2, z3, z4⟩ := adE_zero h0
  have hS := sE_ok z1
  have hD := dmE_ok z2
  have hZ := zE_ok z4
  have hfew := hS.few
  have hll := hA.l
  have h37 := k37 s (by omega)
  have h39 := k39 (b := nil) (m := 2) (plainR_sk l)
  have h40 := k40 (b := nil) (m := 2) (plainR_sk l) n1 n2 lo hi
  have h41 := k41 (b := nil) (m := 2) (b2 := false) (m2 := 3) (plainR_sk l) (plainR_ss s)
  have h41b := k41 (b := nil) (m := 2) (b2 := false) (m2 := 3) (plainR_sk l) (plainR_ss (s ++ [x]))
  have hcall := first56 (n1 := n1) (n2 := n2) (n3 := false) hV (by omega) hlo hhi hA
  rw [h0] at hcall
  have h43 : Fn Try.prog 43 [sts nil l, .sl false 3 (ssR (s ++ [x])), tx x.mi] _ _ := k43 nil false l (s ++ [x]) x.mi hS hZ
  have hR := rb_of (b := x.mi) hS hZ hD
  have hl3 := hR.l3
  have h42 := k42e n1 n2 false hR hok
  have hsl := ssR_len s
  have hsn := ssR_snoc s x
  have hsl2 : (ssR (s ++ [x])).length = s.length + 1 := by simp [ssR_len]
  have hlt := fun h d n => lids_takeS h d (s ++ [x]) n
  have hSp := plainR_ss (s ++ [x])
  have hSr := fun ρ => renR_ss ρ (s ++ [x])
  replace hcall := PLift.up hcall
  replace h41b := PLift.up h41b
  replace h43 := PLift.up h43
  clear hV h0 z1 z2 z3 z4 hS hD hZ hok hR hA
  generalize wrL l (s ++ [x]) x.mi = W at *
  generalize (l.getD 0 sk0).wr.length = n at *
  subst hl3
  generalize ssR (s ++ [x]) = SX at *
  unfold c17
  repeat' (first | ((with_reducible refine T_calm ?_ ?_); rfl) | (with_reducible first | refine T_seq ?_ | refine T_reg ?_ | refine T_draw ?_ | refine T_skip ?_ | refine T_exit ?_ | refine T_block ?_ | refine T_cond_t rfl ?_ | refine T_cond_f rfl ?_ | refine wdW_cons rfl ?_ | (show wcall _ false (.lit (.func (.func 37) _ _)) _ _ _ _; refine wcall_fn (h37) rfl (by simp [plainL, plain, plainR, plainR_sk, renR_sk, renR_ints, plainR_ss, renR_ss, ss_take]) ?_) | (show wcallX _ false (.lit (.func (.func 37) _ _)) _ _ _ _; refine wcallX_fn (h37) rfl (by simp [plainL, plain, plainR_ss]) ?_) | (show wcall _ false (.lit (.func (.func 39) _ _)) _ _ _ _; refine wcall_fn (h39) rfl (by simp [plainL, plain, plainR, plainR_sk, renR_sk, renR_ints, plainR_ss, renR_ss, ss_take]) ?_) | (show wcallX _ false (.lit (.func (.func 39) _ _)) _ _ _ _; refine wcallX_fn (h39) rfl (by simp [plainL, plain, plainR_sk]) ?_) | (show wcall _ false (.lit (.func (.func 40) _ _)) _ _ _ _; refine wcall_fn (h40) rfl (by simp [plainL, plain, plainR, plainR_sk, renR_sk, renR_ints, plainR_ss, renR_ss, ss_take]) ?_) | (show wcallX _ false (.lit (.func (.func 40) _ _)) _ _ _ _; refine wcallX_fn (h40) rfl (by simp [plainL, plain, plainR_sk]) ?_) | (show wcall _ false (.lit (.func (.func 41) _ _)) _ _ _ _; refine wcall_fn (h41) rfl (by simp [plainL, plain, plainR, plainR_sk, renR_sk, renR_ints, plainR_ss, renR_ss, ss_take]) ?_) | (show wcallX _ false (.lit (.func (.func 41) _ _)) _ _ _ _; refine wcallX_fn (h41) rfl (by simp [plainL, plain, plainR_sk, plainR_ss]) ?_) | refine T_ret ?_ | refine leave_of (.inr rfl) _ rfl ?_ | refine leave_of (.inl rfl) _ rfl ?_ | refine leaveA_of (.inr rfl) _ rfl ?_ | refine leaveA_of (.inl rfl) _ rfl ?_ | refine wif_intro ?_ (fun hc => ?_) | refine And.intro ?_ ?_ | intro hc) | simp (maxSteps := 4000000) only [wops_nil, wops_cons, wstep_none, wrun_mv, wrun_load, wrun_box, wrun_bslice, wrun_app, wrunX_mv, wrunX_load, wrunX_bslice, wrunX_app, wdW_nil, wstepX_none, wrunX_call, wop, aop, ev, look, put_some, writes, ores_some, ores_ite_none, thenK, elsOf, szOk, value, cut, hget, fillA, putCells, AV.parts, isOne, toLits, mkAgg, ofValue_int, ofValue_str, List.flatten_cons, List.flatten_nil, rowsOf, List.map_cons, List.map_nil, List.length_cons, List.length_nil, List.getElem?_cons_zero, List.getElem?_cons_succ, List.set_cons_zero, List.set_cons_succ, List.take_succ_cons, List.take_zero, List.take_nil, List.drop_succ_cons, List.drop_zero, List.drop_nil, List.cons_append, List.nil_append, List.append_nil, List.replicate_zero, List.replicate_succ, List.getD_cons_zero, List.zipIdx_cons, List.zipIdx_nil, List.all_cons, List.all_nil, List.isEmpty_cons, Option.getD_some, Option.map_some, if_true, if_false, Nat.reduceEqDiff, Nat.reduceAdd, Nat.add_zero, Nat.zero_add, Nat.sub_zero, Nat.zero_mul, Nat.le_refl, Nat.zero_ne_one, reduceCtorEq, Bool.and_true, Bool.and_false, Bool.or_true, eq_self, true_and, and_self, beq_self_eq_true, freeze, lidsL, lids, List.flatMap_cons, List.flatMap_nil, List.all_cons, ren, renL, renR, renB, shiftρ, renR_ints, renR_sk, renR_ints, renR_ss, ss_take, *] | simp (disch := omega) only [getD_ints, wrapI] | (with_reducible show wcall _ false (.lit (.func (.func 37) _ _)) _ _ _ _; refine wcall_fn (h37) ?_ ?_ ?_; (next => simp [rfyL, rfy, hget, ints, take_rfy, plainR_sk, renR_sk, renR_ints, plainR_ss, renR_ss, ss_take]); (next => simp [plainL, plain, plainR, plainR_sk, renR_sk, renR_ints, plainR_ss, renR_ss, ss_take])) | (with_reducible show wcallX _ false (.lit (.func (.func 37) _ _)) _ _ _ _; refine wcallX_fn (h37) ?_ ?_ ?_; (next => simp [rfyL, rfy, hget, ints, take_rfy, plainR_sk, renR_sk, renR_ints, plainR_ss, renR_ss, ss_take]); (next => simp [plainL, plain, plainR, plainR_sk, renR_sk, renR_ints, plainR_ss, renR_ss, ss_take])) | (with_reducible show wcall _ false (.lit (.func (.func 39) _ _)) _ _ _ _; refine wcall_fn (h39) ?_ ?_ ?_; (next => simp [rfyL, rfy, hget, ints, take_rfy, plainR_sk, renR_sk, renR_ints, plainR_ss, renR_ss, ss_take]); (next => simp [plainL, plain, plainR, plainR_sk, renR_sk, renR_ints, plainR_ss, renR_ss, ss_take])) | (with_reducible show wcallX _ false (.lit (.func (.func 39) _ _)) _ _ _ _; refine wcallX_fn (h39) ?_ ?_ ?_; (next => simp [rfyL, rfy, hget, ints, take_rfy, plainR_sk, renR_sk, renR_ints, plainR_ss, renR_ss, ss_take]); (next => simp [plainL, plain, plainR, plainR_sk, renR_sk, renR_ints, plainR_ss, renR_ss, ss_take])) | (with_reducible show wcall _ false (.lit (.func (.func 40) _ _)) _ _ _ _; refine wcall_fn (h40) ?_ ?_ ?_; (next => simp [rfyL, rfy, hget, ints, take_rfy, plainR_sk, renR_sk, renR_ints, plainR_ss, renR_ss, ss_take]); (next => simp [plainL, plain, plainR, plainR_sk, renR_sk, renR_ints, plainR_ss, renR_ss, ss_take])) | (with_reducible show wcallX _ false (.lit (.func (.func 40) _ _)) _ _ _ _; refine wcallX_fn (h40) ?_ ?_ ?_; (next => simp [rfyL, rfy, hget, ints, take_rfy, plainR_sk, renR_sk, renR_ints, plainR_ss, renR_ss, ss_take]); (next => simp [plainL, plain, plainR, plainR_sk, renR_sk, renR_ints, plainR_ss, renR_ss, ss_take])) | (with_reducible show wcall _ false (.lit (.func (.func 41) _ _)) _ _ _ _; refine wcall_fn (h41) ?_ ?_ ?_; (next => simp [rfyL, rfy, hget, ints, take_rfy, plainR_sk, renR_sk, renR_ints, plainR_ss, renR_ss, ss_take]); (next => simp [plainL, plain, plainR, plainR_sk, renR_sk, renR_ints, plainR_ss, renR_ss, ss_take])) | (with_reducible show wcallX _ false (.lit (.func (.func 41) _ _)) _ _ _ _; refine wcallX_fn (h41) ?_ ?_ ?_; (next => simp [rfyL, rfy, hget, ints]); (next => simp [plainL, plain, plainR, plainR_sk, renR_sk, renR_ints, plainR_ss, renR_ss, ss_take])) | omega)
  refine wcallX_fn h41b.down (rL2 (rds_plain (d := 0) (v := sts nil l) (plainR_sk l)) (rds_row (d := 0) rfl hSp hsl2) (by omega) (by omega)) (by simp [plainL, plain, plainR_sk, hSp]) ?_
  repeat' (first | ((with_reducible refine T_calm ?_ ?_); rfl) | (with_reducible first | refine T_seq ?_ | refine T_reg ?_ | refine T_draw ?_ | refine T_skip ?_ | refine T_exit ?_ | refine T_block ?_ | refine T_cond_t rfl ?_ | refine T_cond_f rfl ?_ | refine wdW_cons rfl ?_ | refine T_ret ?_ | refine leave_of (.inr rfl) _ rfl ?_ | refine leave_of (.inl rfl) _ rfl ?_ | refine leaveA_of (.inr rfl) _ rfl ?_ | refine leaveA_of (.inl rfl) _ rfl ?_ | refine wif_intro ?_ (fun hc => ?_) | refine And.intro ?_ ?_ | intro hc) | simp (maxSteps := 4000000) only [wrun_bslice, wrunX_bslice, wstepX_none, wrunX_call, wop, aop, ev, look, put_some, writes, ores_some, hget, fillA, putCells, AV.parts, isOne, List.flatten_cons, List.flatten_nil, rowsOf, List.map_cons, List.map_nil, List.length_cons, List.length_nil, List.getElem?_cons_zero, List.getElem?_cons_succ, List.set_cons_zero, List.set_cons_succ, List.take_succ_cons, List.take_zero, List.take_nil, List.drop_succ_cons, List.drop_zero, List.drop_nil, List.cons_append, List.nil_append, List.append_nil, List.replicate_zero, List.replicate_succ, List.all_cons, List.all_nil, Option.getD_some, if_true, if_false, Nat.reduceEqDiff, Nat.reduceAdd, Nat.reduceLeDiff, Nat.add_zero, Nat.zero_add, Nat.mul_one, Nat.le_refl, reduceCtorEq, Bool.and_true, eq_self, true_and, and_self, freeze, lidsL, lids, List.flatMap_cons, List.flatMap_nil, List.all_cons, ren, renL, renR, renB, shiftρ, renR_sk, fz4, *] | simp (disch := omega) only [getD_ints, wrapI] | omega)
  refine wcallX_raw (hcall.down _ 5 6 7 8 9 10 11 12 _ _ _ _ _ _ _ _ _ _ _ _ _ _ _ _ rfl rfl rfl rfl rfl rfl rfl rfl) ⟨_, _, rfl, App.refl _⟩ ?_
  rintro r H' ⟨rfl, hx⟩
  have g0 := hx.at_ (i := 0) rfl
  have g1 := hx.at_ (i := 1) rfl
  have g3 := hx.at_ (i := 3) rfl
  have y0 := (List.getElem?_eq_some_iff.1 g0).1
  have y1 := (List.getElem?_eq_some_iff.1 g1).1
  have y3 := (List.getElem?_eq_some_iff.1 g3).1
  obtain ⟨u1, u2, u3, u4⟩ := cells_sub (X := []) (H := H') rfl
  have a0 := at_in g0
  have a1 := at_in g1
  have a3 := at_in g3
  have hfz : ∀ Y, freeze1 (H' ++ Y) 3 = H' ++ Y := fun Y => freeze1_no (a3 Y)
  clear hcall h39 h40 h41 h41b hx
  repeat' (first | ((with_reducible refine T_calm ?_ ?_); rfl) | (with_reducible first | refine T_seq ?_ | refine T_reg ?_ | refine T_draw ?_ | refine T_skip ?_ | refine T_exit ?_ | refine T_block ?_ | refine T_cond_t rfl ?_ | refine T_cond_f rfl ?_ | refine wdW_cons rfl ?_ | refine T_ret ?_ | refine leave_of (.inr rfl) _ rfl ?_ | refine leave_of (.inl rfl) _ rfl ?_ | refine leaveA_of (.inr rfl) _ rfl ?_ | refine leaveA_of (.inl rfl) _ rfl ?_ | refine wif_intro ?_ (fun hc => ?_) | refine And.intro ?_ ?_ | intro hc) | simp (maxSteps := 4000000) only [wops_nil, wops_cons, wstep_none, wrun_mv, wrun_bin, wrun_load, wrun_faddr, wrunX_mv, wrunX_load, wrunX_faddr, wdW_nil, wstepX_none, wrunX_call, wop, aop, ev, look, put_some, writes, ores_some, binV, thenK, value, cut, hget, toLits, mkAgg, List.map_cons, List.map_nil, List.length_cons, List.length_nil, List.take_succ_cons, List.take_zero, List.take_nil, List.drop_zero, List.append_nil, List.replicate_zero, List.replicate_succ, List.getD_cons_zero, Option.getD_some, Option.map_some, if_true, if_false, Nat.reduceEqDiff, Nat.reduceAdd, Nat.add_zero, Nat.zero_add, reduceCtorEq, Bool.false_eq_true, eq_self, *] | simp (disch := omega) only [getD_ints, wrapI] | (with_reducible refine wdW_cons ?_ ?_; (next => simp [chk, foot, compatB, argsOf, St.get, target, ev, look, lidsL, kind, AOp.isRaw, wids, tops, opds, topId, y0]; done)) | omega)
  refine wcallX_fn h43.down (rL3 (rds_plain (d := 0) (v := sts nil l) (plainR_sk l)) (rds_row (d := 0) (a3 _) hSp hsl2) (rds_plain (d := 0) (v := tx x.mi) rfl) (by omega) (by omega) (by omega)) (by simp [plainL, plain, plainR_sk, hSp]) ?_
  have hfl := freeze_last2 H'
  have nn1 : ¬H'.length = 1 := by omega
  have nn3 : ¬H'.length = 3 := by omega
  have nn0 : ¬H' = [] := fun h => by rw [h] at y0; simp at y0
  repeat' (first | ((with_reducible refine T_calm ?_ ?_); rfl) | (with_reducible first | refine T_seq ?_ | refine T_reg ?_ | refine T_draw ?_ | refine T_skip ?_ | refine T_exit ?_ | refine T_block ?_ | refine T_cond_t rfl ?_ | refine T_cond_f rfl ?_ | refine wdW_cons rfl ?_ | (show wcall _ false (.lit (.func (.func 42) _ _)) _ _ _ _; refine wcall_fn (h42) rfl (by simp [plainL, plain, plainR, plainR_sk, renR_ints, plainR_ss, lids_take, hlt, hfz, y0, y1, y3, hfl, a3, u1, u2, nn0, nn1, nn3, lids]) ?_) | (show wcallX _ false (.lit (.func (.func 42) _ _)) _ _ _ _; refine wcallX_fn (h42) rfl (by simp [plainL, plain]) ?_) | refine T_ret ?_ | refine wif_intro ?_ (fun hc => ?_) | refine And.intro ?_ ?_ | intro hc) | simp (maxSteps := 4000000) only [wops_nil, wops_cons, wstep_none, wrun_mv, wrun_bin, wrun_ext, wrun_store, wrun_alloc, wrunX_mv, wrunX_ext, wrunX_store, wrunX_alloc, wdW_nil, wstepX_none, wrunX_call, wop, aop, ev, look, put_some, put_none, writes, ores_some, binV, thenK, hget, putCells, AV.parts, isOne, List.map_cons, List.map_nil, List.length_cons, List.length_nil, List.getElem?_cons_zero, List.getElem?_cons_succ, List.set_cons_zero, List.take_zero, List.drop_succ_cons, List.drop_zero, List.drop_nil, List.cons_append, List.nil_append, List.append_nil, List.append_assoc, List.replicate_zero, List.getD_cons_zero, List.all_cons, List.all_nil, List.length_append, Option.getD_some, Option.map_some, if_true, if_false, Nat.reduceEqDiff, Nat.reduceAdd, Nat.reduceLT, Nat.add_zero, Nat.zero_add, Nat.le_refl, reduceCtorEq, Bool.and_true, eq_self, true_and, and_self, freeze, lidsL, lids, List.flatMap_cons, List.flatMap_nil, List.all_cons, ren, renL, renR, renB, shiftρ, renR_ints, renR_ints, lids_take, lids, *] | simp (disch := omega) only [getD_ints, wrapI] | (with_reducible show wcall _ false (.lit (.func (.func 42) _ _)) _ _ _ _; refine wcall_fn (h42) ?_ ?_ ?_; (next => simp [rfyL, rfy, hget, ints, take_rfy, plainR_sk, renR_ints, plainR_ss, lids_take, hlt, hfz, y0, y1, y3, hfl, a3, u1, u2, nn0, nn1, nn3, lids]); (next => simp [plainL, plain, plainR, plainR_sk, renR_ints, plainR_ss, lids_take, hlt, hfz, y0, y1, y3, hfl, a3, u1, u2, nn0, nn1, nn3, lids])) | (with_reducible show wcallX _ false (.lit (.func (.func 42) _ _)) _ _ _ _; refine wcallX_fn (h42) ?_ ?_ ?_; (next => simp [rfyL, rfy, hget, ints, take_rfy]); (next => simp [plainL, plain])) | (with_reducible refine wdW_cons ?_ ?_; (next => simp [chk, foot, compatB, argsOf, St.get, target, ev, look, lidsL, hget, kind, AOp.isRaw, wids, tops, opds, topId, lids_take, hlt, a3, nn0, nn1, nn3, lids]; done)) | omega)
  exact leave_of (.inr rfl) [.sl true 0 [], i64 26] rfl ⟨rfl, rfl⟩
end Go.Abs
