import Derived.Test.YtdedhipkncagjaaK315x
set_option linter.all false
set_option linter.unusedVariables false
set_option linter.unusedSimpArgs false
set_option linter.unusedSectionVars false
namespace Go.Abs
open Go.Proofs
/-! WearOf -/
def weE (l : List Sk) (s : List Ss) (b : ByteArray) : Int := if sE l ≠ 0 then sE l else if zE l s ≠ 0 then zE l s else mrE b
theorem first29 {b n2 : Bool} {m : Nat} {E : List (List AV)} {l : List Sk} {s : List Ss} {mi : ByteArray} (hV : StV l b m E) (hl : l.length < 1000000) (hl2 : s.length < 1000000) (hs2 : ∀ k, k < s.length → (s.getD k ss0).mi.size < 1000000) (hmi : mi.size < 1000000) : ∀ (H : List Blk) (id x y z u : Nat) (o nl o1 n1 o2 n2' o3 n3 o4 n4 : Bool), H[id]? = some (.cells o nl 1 [[.clo (.func 62) [] [.loc x 0 0]], [.clo (.func 66) [] [.loc z 0 0, .loc y 0 0]], [.clo (.func 69) [] [.loc u 0 0]]]) → H[x]? = some (.cells o1 n1 1 [[.sl b m E]]) → H[y]? = some (.cells o2 n2' 1 [[.sl b m E]]) → H[z]? = some (.cells o3 n3 1 [[sss n2 s]]) → H[u]? = some (.cells o4 n4 1 [[tx mi]]) →
      ACall Try.prog 38 [.lsl id 0 3] H fun r H' => r = i64 (weE l s mi) ∧ Ext H H' := fun H id x y z u o nl o1 n1 o2 n2' o3 n3 o4 n4 h1 h2 h200 h201 h202 => by
  have := first3 h1 (k62 hV.p h2 hV.f) (e2 := zE l s) (e200 := mrE mi) (fun h0 => by
    obtain ⟨rfl, rfl⟩ := hV.g h0
    exact k66 hl hl2 hs2 h200 h201) fun _ _ => k69 hmi h202
  exact this
set_option maxHeartbeats 8000000 in
theorem k18e {b n2 : Bool} {m : Nat} {E : List (List AV)} {l : List Sk} {s : List Ss} {mi : ByteArray} (hV : StV l b m E) (hl : l.length < 1000000) (hl2 : s.length < 1000000) (hs2 : ∀ k, k < s.length → (s.getD k ss0).mi.size < 1000000) (hmi : mi.size < 1000000) (hne : weE l s mi ≠ 0) : Fn Try.prog 18 [.sl b m E, sss n2 s, tx mi] (.tup [.sl true 0 [], i64 (weE l s mi)]) [] := by
  refine fn_of e18 ?_
  have h39 := k39 (b := b) (m := m) hV.p
  have h41 := k41 (b := b) (m := m) (b2 := n2) (m2 := 3) hV.p (plainR_ss s)
  have h44 := k44 mi
  have hE := hV.p
  have hr := fun ρ => renR_plain ρ E hE
  have hcall := PLift.up (first29 (n2 := n2) hV hl hl2 hs2 hmi)
  have d0 : (weE l s mi != 0) = true := by simp only [bne_iff_ne]; exact hne
  generalize weE l s mi = R at *
  clear hV hs2 hne
  unfold c18
  repeat' (first | (with_reducible first | refine T_seq ?_ | refine T_reg ?_ | refine T_skip ?_ | refine T_exit ?_ | refine T_block ?_ | refine T_cond_t rfl ?_ | refine T_cond_f rfl ?_ | (show wcall _ false (.lit (.func (.func 39) _ _)) _ _ _ _; refine wcall_fn (h39) rfl (by simp [plainL, plain, hE]) ?_) | (show wcall _ false (.lit (.func (.func 41) _ _)) _ _ _ _; refine wcall_fn (h41) rfl (by simp [plainL, plain, hE, plainR_ss]) ?_) | (show wcall _ false (.lit (.func (.func 44) _ _)) _ _ _ _; refine wcall_fn (h44) rfl (by simp [plainL, plain]) ?_) | refine T_ret ?_ | refine leave_of (.inr rfl) _ rfl ?_ | refine leave_of (.inl rfl) _ rfl ?_ | refine leaveA_of (.inr rfl) _ rfl ?_ | refine leaveA_of (.inl rfl) _ rfl ?_ | refine wif_intro ?_ (fun hc => ?_) | refine And.intro ?_ ?_ | intro hc) | simp (maxSteps := 4000000) only [wops_nil, wops_cons, wstep_none, wrun_call, wrun_mv, wrun_bslice, wop, aop, ev, look, put_some, writes, ores_some, thenK, fillA, putCells, AV.parts, isOne, List.flatten_cons, List.flatten_nil, rowsOf, List.map_cons, List.map_nil, List.length_cons, List.length_nil, List.getElem?_cons_zero, List.set_cons_zero, List.take_succ_cons, List.take_zero, List.take_nil, List.drop_succ_cons, List.drop_zero, List.drop_nil, List.cons_append, List.nil_append, List.append_nil, List.replicate_zero, List.replicate_succ, List.zipIdx_cons, List.zipIdx_nil, List.all_cons, List.all_nil, if_true, if_false, Nat.reduceEqDiff, Nat.reduceAdd, Nat.reduceLeDiff, Nat.add_zero, Nat.zero_add, Nat.mul_one, Nat.le_refl, Nat.zero_ne_one, reduceCtorEq, Bool.and_true, eq_self, true_and, and_self, freeze, lidsL, lids, List.flatMap_cons, List.flatMap_nil, List.all_cons, ren, renL, renR, renB, shiftρ, renR_ss, *] | simp (disch := omega) only [getD_ints, wrapI] | (with_reducible show wcall _ false (.lit (.func (.func 39) _ _)) _ _ _ _; refine wcall_fn (h39) ?_ ?_ ?_; (next => simp [rfyL, rfy, hget, ints, take_rfy, hE, hr, plainR_ss, renR_ss]); (next => simp [plainL, plain, plainR, hE, hr, plainR_ss, renR_ss])) | (with_reducible show wcall _ false (.lit (.func (.func 41) _ _)) _ _ _ _; refine wcall_fn (h41) ?_ ?_ ?_; (next => simp [rfyL, rfy, hget, ints, take_rfy, hE, hr, plainR_ss, renR_ss]); (next => simp [plainL, plain, plainR, hE, hr, plainR_ss, renR_ss])) | (with_reducible show wcall _ false (.lit (.func (.func 44) _ _)) _ _ _ _; refine wcall_fn (h44) ?_ ?_ ?_; (next => simp [rfyL, rfy, hget, ints, take_rfy, hE, hr, plainR_ss, renR_ss]); (next => simp [plainL, plain, plainR, hE, hr, plainR_ss, renR_ss])) | omega)
  refine wcall_raw ((hcall.down _ 0 1 2 3 4 _ _ _ _ _ _ _ _ _ _ rfl rfl rfl rfl rfl).mono ?_)
  rintro r H' ⟨rfl, _⟩
  clear hcall h39 h41 h44
  repeat' (first | (with_reducible first | refine T_seq ?_ | refine T_reg ?_ | refine T_skip ?_ | refine T_exit ?_ | refine T_block ?_ | refine T_cond_t rfl ?_ | refine T_cond_f rfl ?_ | refine T_ret ?_ | refine leave_of (.inr rfl) _ rfl ?_ | refine leave_of (.inl rfl) _ rfl ?_ | refine leaveA_of (.inr rfl) _ rfl ?_ | refine leaveA_of (.inl rfl) _ rfl ?_ | refine wif_intro ?_ (fun hc => ?_) | refine And.intro ?_ ?_ | intro hc) | simp (maxSteps := 4000000) only [wops_nil, wops_cons, wstep_none, wrun_mv, wrun_bin, get_mk, wop, aop, ev, look, put_some, writes, ores_some, binV, thenK, tupOf, List.append_nil, List.replicate_zero, Option.map_some, if_true, if_false, Nat.reduceEqDiff, reduceCtorEq, eq_self, ren, renL, renR, *] | simp (disch := omega) only [getD_ints, wrapI] | omega)
  all_goals first | rfl
set_option maxHeartbeats 8000000 in
theorem k18 {nil n2 : Bool} {l : List Sk} {s : List Ss} {mi : ByteArray} (hV : StV l nil 2 (skR l)) (hl : l.length < 1000000) (hl2 : s.length < 1000000) (hs2 : ∀ k, k < s.length → (s.getD k ss0).mi.size < 1000000) (hmi : mi.size < 1000000) (h0 : weE l s mi = 0) : Fn Try.prog 18 [sts nil l, sss n2 s, tx mi] (.tup [.lsl 0 0 (l.getD 0 sk0).wr.length, i64 0]) [iC (wrL l s mi)] := by
  refine fn_of e18 ?_
  have h39 := k39 (b := nil) (m := 2) (plainR_sk l)
  have h41 := k41 (b := nil) (m := 2) (b2 := n2) (m2 := 3) (plainR_sk l) (plainR_ss s)
  have h44 := k44 mi
  have hcall := first29 (n2 := n2) hV hl hl2 hs2 hmi
  rw [h0] at hcall
  have hs0 : sE l = 0 ∧ zE l s = 0 := by
    unfold weE at h0
    by_cases g : sE l = 0
    · rw [if_neg (fun h => h g)] at h0
      by_cases g' : zE l s = 0
      · exact ⟨g, g'⟩
      · rw [if_pos g'] at h0; exact ⟨g, h0⟩
    · rw [if_pos g] at h0; exact (g h0).elim
  have h43 := k43 nil n2 l s mi (sE_ok hs0.1) (zE_ok hs0.2)
  generalize wrL l s mi = W at *
  generalize (l.getD 0 sk0).wr.length = n at *
  replace hcall := PLift.up hcall
  clear hV hs2 h0 hs0
  unfold c18
  repeat' (first | (with_reducible first | refine T_seq ?_ | refine T_reg ?_ | refine T_skip ?_ | refine T_exit ?_ | refine T_block ?_ | refine T_cond_t rfl ?_ | refine T_cond_f rfl ?_ | (show wcall _ false (.lit (.func (.func 39) _ _)) _ _ _ _; refine wcall_fn (h39) rfl (by simp [plainL, plain, plainR_sk]) ?_) | (show wcall _ false (.lit (.func (.func 41) _ _)) _ _ _ _; refine wcall_fn (h41) rfl (by simp [plainL, plain, plainR_sk, plainR_ss]) ?_) | (show wcall _ false (.lit (.func (.func 44) _ _)) _ _ _ _; refine wcall_fn (h44) rfl (by simp [plainL, plain]) ?_) | refine T_ret ?_ | refine leave_of (.inr rfl) _ rfl ?_ | refine leave_of (.inl rfl) _ rfl ?_ | refine leaveA_of (.inr rfl) _ rfl ?_ | refine leaveA_of (.inl rfl) _ rfl ?_ | refine wif_intro ?_ (fun hc => ?_) | refine And.intro ?_ ?_ | intro hc) | simp (maxSteps := 4000000) only [wops_nil, wops_cons, wstep_none, wrun_call, wrun_mv, wrun_bslice, wop, aop, ev, look, put_some, writes, ores_some, thenK, fillA, putCells, AV.parts, isOne, List.flatten_cons, List.flatten_nil, rowsOf, List.map_cons, List.map_nil, List.length_cons, List.length_nil, List.getElem?_cons_zero, List.set_cons_zero, List.take_succ_cons, List.take_zero, List.take_nil, List.drop_succ_cons, List.drop_zero, List.drop_nil, List.cons_append, List.nil_append, List.append_nil, List.replicate_zero, List.replicate_succ, List.zipIdx_cons, List.zipIdx_nil, List.all_cons, List.all_nil, if_true, if_false, Nat.reduceEqDiff, Nat.reduceAdd, Nat.reduceLeDiff, Nat.add_zero, Nat.zero_add, Nat.mul_one, Nat.le_refl, Nat.zero_ne_one, reduceCtorEq, Bool.and_true, eq_self, true_and, and_self, freeze, lidsL, lids, List.flatMap_cons, List.flatMap_nil, List.all_cons, ren, renL, renR, renB, shiftρ, renR_ss, renR_sk, *] | simp (disch := omega) only [getD_ints, wrapI] | (with_reducible show wcall _ false (.lit (.func (.func 39) _ _)) _ _ _ _; refine wcall_fn (h39) ?_ ?_ ?_; (next => simp [rfyL, rfy, hget, ints, take_rfy, plainR_sk, plainR_ss, renR_ss, renR_sk]); (next => simp [plainL, plain, plainR, plainR_sk, plainR_ss, renR_ss, renR_sk])) | (with_reducible show wcall _ false (.lit (.func (.func 41) _ _)) _ _ _ _; refine wcall_fn (h41) ?_ ?_ ?_; (next => simp [rfyL, rfy, hget, ints, take_rfy, plainR_sk, plainR_ss, renR_ss, renR_sk]); (next => simp [plainL, plain, plainR, plainR_sk, plainR_ss, renR_ss, renR_sk])) | (with_reducible show wcall _ false (.lit (.func (.func 44) _ _)) _ _ _ _; refine wcall_fn (h44) ?_ ?_ ?_; (next => simp [rfyL, rfy, hget, ints, take_rfy, plainR_sk, plainR_ss, renR_ss, renR_sk]); (next => simp [plainL, plain, plainR, plainR_sk, plainR_ss, renR_ss, renR_sk])) | omega)
  refine wcall_raw ((hcall.down _ 0 1 2 3 4 _ _ _ _ _ _ _ _ _ _ rfl rfl rfl rfl rfl).mono ?_)
  rintro r H' ⟨rfl, _⟩
  clear hcall h39 h41 h44
  have u1 : ∀ Y, (H' ++ Y)[H'.length]? = Y[0]? := fun Y => by rw [List.getElem?_append_right (Nat.le_refl _), Nat.sub_self]
  repeat' (first | (with_reducible first | refine T_seq ?_ | refine T_reg ?_ | refine T_skip ?_ | refine T_exit ?_ | refine T_block ?_ | refine T_cond_t rfl ?_ | refine T_cond_f rfl ?_ | (show wcall _ false (.lit (.func (.func 43) _ _)) _ _ _ _; refine wcall_fn (h43) rfl (by simp [plainL, plain, plainR_sk, plainR_ss]) ?_) | refine T_ret ?_ | refine leave_ids (.inr rfl) _ [H'.length] rfl (by simp) (by simp) ?_ | refine leave_ids (.inl rfl) _ [H'.length] rfl (by simp) (by simp) ?_ | refine leaveA_of (.inr rfl) _ rfl ?_ | refine leaveA_of (.inl rfl) _ rfl ?_ | refine wif_intro ?_ (fun hc => ?_) | refine And.intro ?_ ?_ | intro hc) | simp (maxSteps := 4000000) only [wops_nil, wops_cons, wstep_none, wrun_call, wrun_mv, wrun_bin, get_mk, wop, aop, ev, look, put_some, writes, ores_some, binV, thenK, hget, tupOf, List.map_cons, List.map_nil, List.getElem?_cons_zero, List.append_nil, List.replicate_zero, Option.getD_some, Option.map_some, Option.map_none, if_true, if_false, Nat.reduceEqDiff, Nat.zero_add, Nat.zero_ne_one, reduceCtorEq, eq_self, freeze, lidsL, lids, List.flatMap_cons, List.flatMap_nil, ren, renL, renB, renO, keepρ, shiftρ, pos, Nat.not_lt_zero, renR_ints, renR_ints, *] | simp (disch := omega) only [getD_ints, wrapI] | (with_reducible show wcall _ false (.lit (.func (.func 43) _ _)) _ _ _ _; refine wcall_fn (h43) ?_ ?_ ?_; (next => simp [rfyL, rfy, hget, ints, take_rfy, plainR_sk, plainR_ss, renR_ints]); (next => simp [plainL, plain, plainR, plainR_sk, plainR_ss, renR_ints])) | omega)
  all_goals first | rfl
end Go.Abs
