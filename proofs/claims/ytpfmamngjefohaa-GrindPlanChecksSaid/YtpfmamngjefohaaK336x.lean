import Derived.Test.YtpfmamngjefohaaK335x
set_option linter.all false
set_option linter.unusedVariables false
set_option linter.unusedSimpArgs false
set_option linter.unusedSectionVars false
namespace Go.Abs
open Go.Proofs
/-! WearBy of both sides -/
def wbE (l : List Sk) (mi : List Int) (den : Int) : Int := if sE l ≠ 0 then sE l else plE l mi den
theorem first37 {b np : Bool} {m : Nat} {E : List (List AV)} {l : List Sk} {mi : List Int} {den : Int} (hV : StV l b m E) (hl : l.length < 1000000) (hmi : mi.length < 1000000) : ∀ (H : List Blk) (id x u v : Nat) (o nl o1 m1 o4 m4 o5 m5 : Bool), H[id]? = some (.cells o nl 1 [[.clo (.func 100) [] [.loc x 0 0]], [.clo (.func 106) [] [.loc v 0 0, .loc u 0 0]]]) → H[x]? = some (.cells o1 m1 1 [[.sl b m E]]) → H[u]? = some (.cells o4 m4 1 [[.sl b m E]]) → H[v]? = some (.cells o5 m5 2 [[ints np mi, i64 den]]) →
      ACall Try.prog 69 [.lsl id 0 2] H fun r H' => r = i64 (wbE l mi den) ∧ Ext H H' := fun H id x u v o nl o1 m1 o4 m4 o5 m5 h1 h2 h5 h6 => by
  have := first2 h1 (k100 hV.p h2 hV.f) (e2 := plE l mi den) (fun h0 => by
    obtain ⟨rfl, rfl⟩ := hV.g h0
    exact k106 hl hmi h5 h6)
  exact this
set_option maxHeartbeats 8000000 in
theorem k37e {b np : Bool} {m : Nat} {E : List (List AV)} {l : List Sk} {mi : List Int} {den : Int} (hV : StV l b m E) (hl : l.length < 1000000) (hmi : mi.length < 1000000) (hne : wbE l mi den ≠ 0) : Fn Try.prog 37 [.sl b m E, plV np mi den] (.tup [.sl true 0 [], i64 (wbE l mi den)]) [] := by
  refine fn_of e37 ?_
  have h70 := k70 (b := b) (m := m) hV.p
  have h78 := k78 (b := b) (m := m) hV.p np mi den
  have hE := hV.p
  have hr := fun ρ => renR_plain ρ E hE
  have hcall := PLift.up (first37 (np := np) (den := den) hV hl hmi)
  have d0 : (wbE l mi den != 0) = true := by simp only [bne_iff_ne]; exact hne
  generalize wbE l mi den = R at *
  clear hV hne
  unfold c37
  repeat' (first
    | ((with_reducible refine T_calm ?_ ?_); rfl)
    | with_reducible first
      | refine T_seq ?_
      | refine T_reg ?_
      | refine T_draw ?_
      | refine T_skip ?_
      | refine T_exit ?_
      | refine T_block ?_
      | refine T_cond_t rfl ?_
      | refine T_cond_f rfl ?_
      | refine wdW_cons rfl ?_
      | (show wcall _ false (.lit (.func (.func 70) _ _)) _ _ _ _; refine wcall_fn (h70) rfl (by simp [plainL, plain, plainR, hE, hr, renR_ints]) ?_)
      | (show wcallX _ false (.lit (.func (.func 70) _ _)) _ _ _ _; refine wcallX_fn (h70) rfl (by simp [plainL, plain, hE]) ?_)
      | (show wcall _ false (.lit (.func (.func 78) _ _)) _ _ _ _; refine wcall_fn (h78) rfl (by simp [plainL, plain, plainR, hE, hr, renR_ints]) ?_)
      | (show wcallX _ false (.lit (.func (.func 78) _ _)) _ _ _ _; refine wcallX_fn (h78) rfl (by simp [plainL, plain, hE]) ?_)
      | ((first | refine T_cond rfl (fun hc => ?_) (fun hc => ?_) | refine wguard_split (fun hc => ?_) (fun hc => ?_) | refine wguardX_split (fun hc => ?_) (fun hc => ?_)) <;> have hd := hc <;> (try simp (disch := omega) only [wrapI] at hd) <;> have hs := hd <;> (try simp only [Bool.not_eq_true', Bool.not_eq_false', Bool.and_eq_true, Bool.and_eq_false_iff, Bool.or_eq_true, Bool.or_eq_false_iff, decide_eq_true_eq, decide_eq_false_iff_not, beq_iff_eq, bne_iff_ne, beq_eq_false_iff_ne, bne_eq_false_iff_eq, Bool.not_true, Bool.not_false, gt_iff_lt, ge_iff_le, Int.not_lt, Int.not_le, ne_eq, Decidable.not_not] at hd) <;> (try simp at hs))
      | refine T_ret ?_
      | refine leave_of (.inr rfl) _ rfl ?_
      | refine leave_of (.inl rfl) _ rfl ?_
      | refine leaveA_of (.inr rfl) _ rfl ?_
      | refine leaveA_of (.inl rfl) _ rfl ?_
      | refine wif_intro ?_ (fun hc => ?_)
      | refine And.intro ?_ ?_
      | intro hc
    | simp (maxSteps := 4000000) only [wops_nil, wops_cons, wstep_none, wrun_mv, wrun_load, wrun_box, wrun_bslice, wrunX_mv, wrunX_load, wrunX_bslice, wstepX_none, wrunX_call, wop, aop, ev, look, put_some, writes, ores_some, thenK, value, cut, hget, fillA, putCells, AV.parts, isOne, toLits, mkAgg, List.flatten_cons, List.flatten_nil, rowsOf, List.map_cons, List.map_nil, List.length_cons, List.length_nil, List.getElem?_cons_zero, List.getElem?_cons_succ, List.set_cons_zero, List.set_cons_succ, List.take_succ_cons, List.take_zero, List.take_nil, List.drop_succ_cons, List.drop_zero, List.drop_nil, List.cons_append, List.nil_append, List.append_nil, List.replicate_zero, List.replicate_succ, List.getD_cons_zero, List.zipIdx_cons, List.zipIdx_nil, List.all_cons, List.all_nil, Option.getD_some, Option.map_some, if_true, if_false, Nat.reduceEqDiff, Nat.reduceAdd, Nat.reduceLeDiff, Nat.add_zero, Nat.zero_add, Nat.mul_one, Nat.le_refl, Nat.zero_ne_one, reduceCtorEq, Bool.and_true, eq_self, true_and, and_self, freeze, lidsL, lids, List.flatMap_cons, List.flatMap_nil, List.all_cons, ren, renL, renR, renB, shiftρ, renR_ints, renR_ints, *]
    | simp (disch := omega) only [getD_ints, wrapI]
    | (with_reducible show wcall _ false (.lit (.func (.func 70) _ _)) _ _ _ _; refine wcall_fn (h70) ?_ ?_ ?_; (next => simp [rfyL, rfy, hget, ints, take_rfy, hE, hr, renR_ints]); (next => simp [plainL, plain, plainR, hE, hr, renR_ints]))
    | (with_reducible show wcallX _ false (.lit (.func (.func 70) _ _)) _ _ _ _; refine wcallX_fn (h70) ?_ ?_ ?_; (next => simp [rfyL, rfy, hget, ints, take_rfy, hE, hr, renR_ints]); (next => simp [plainL, plain, plainR, hE, hr, renR_ints]))
    | (with_reducible show wcall _ false (.lit (.func (.func 78) _ _)) _ _ _ _; refine wcall_fn (h78) ?_ ?_ ?_; (next => simp [rfyL, rfy, hget, ints, take_rfy, hE, hr, renR_ints]); (next => simp [plainL, plain, plainR, hE, hr, renR_ints]))
    | (with_reducible show wcallX _ false (.lit (.func (.func 78) _ _)) _ _ _ _; refine wcallX_fn (h78) ?_ ?_ ?_; (next => simp [rfyL, rfy, hget, ints, take_rfy, hE, hr, renR_ints]); (next => simp [plainL, plain, plainR, hE, hr, renR_ints]))
    | omega)
  refine wcallX_raw (hcall.down _ 1 2 3 4 _ _ _ _ _ _ _ _ rfl rfl rfl rfl) ⟨_, _, rfl, Ext.refl _⟩ ?_
  rintro r H' ⟨rfl, _⟩
  clear hcall h70 h78
  repeat' (first
    | ((with_reducible refine T_calm ?_ ?_); rfl)
    | with_reducible first
      | refine T_seq ?_
      | refine T_reg ?_
      | refine T_draw ?_
      | refine T_skip ?_
      | refine T_exit ?_
      | refine T_block ?_
      | refine T_cond_t rfl ?_
      | refine T_cond_f rfl ?_
      | refine wdW_cons rfl ?_
      | ((first | refine T_cond rfl (fun hc => ?_) (fun hc => ?_) | refine wguard_split (fun hc => ?_) (fun hc => ?_) | refine wguardX_split (fun hc => ?_) (fun hc => ?_)) <;> have hd := hc <;> (try simp (disch := omega) only [wrapI] at hd) <;> have hs := hd <;> (try simp only [Bool.not_eq_true', Bool.not_eq_false', Bool.and_eq_true, Bool.and_eq_false_iff, Bool.or_eq_true, Bool.or_eq_false_iff, decide_eq_true_eq, decide_eq_false_iff_not, beq_iff_eq, bne_iff_ne, beq_eq_false_iff_ne, bne_eq_false_iff_eq, Bool.not_true, Bool.not_false, gt_iff_lt, ge_iff_le, Int.not_lt, Int.not_le, ne_eq, Decidable.not_not] at hd) <;> (try simp at hs))
      | refine T_ret ?_
      | refine leave_of (.inr rfl) _ rfl ?_
      | refine leave_of (.inl rfl) _ rfl ?_
      | refine leaveA_of (.inr rfl) _ rfl ?_
      | refine leaveA_of (.inl rfl) _ rfl ?_
      | refine wif_intro ?_ (fun hc => ?_)
      | refine And.intro ?_ ?_
      | intro hc
    | simp (maxSteps := 4000000) only [wops_nil, wops_cons, wstep_none, wrun_mv, wrun_bin, wrunX_mv, wdW_nil, wstepX_none, get_mk, wop, aop, ev, look, put_some, writes, ores_some, binV, thenK, tupOf, List.append_nil, List.replicate_zero, Option.map_some, if_true, if_false, Nat.reduceEqDiff, reduceCtorEq, eq_self, ren, renL, renR, *]
    | simp (disch := omega) only [getD_ints, wrapI]
    | omega)
  all_goals first | rfl
set_option maxHeartbeats 8000000 in
theorem k37 {nil np : Bool} {l : List Sk} {mi : List Int} {den : Int} (hV : StV l nil 2 (skR l)) (hmi : mi.length < 1000000) (h0 : wbE l mi den = 0) : Fn Try.prog 37 [sts nil l, plV np mi den] (.tup [.lsl 0 0 (l.getD 0 sk0).wr.length, i64 0]) [.cells true false 2 (outR (pwL l mi) den (l.getD 0 sk0).wr.length)] := by
  refine fn_of e37 ?_
  have z12 : sE l = 0 ∧ plE l mi den = 0 := by
    unfold wbE at h0
    by_cases g : sE l = 0
    · rw [if_neg (fun h => h g)] at h0; exact ⟨g, h0⟩
    · rw [if_pos g] at h0; exact (g h0).elim
  have hS := sE_ok z12.1
  have hP := plE_ok z12.2
  have hfew := hS.few
  have hz40 := hS.zon
  have h70 := k70 (b := nil) (m := 2) (plainR_sk l)
  have h78 := k78 (b := nil) (m := 2) (plainR_sk l) np mi den
  have hcall := first37 (np := np) (den := den) hV (by omega) hmi
  rw [h0] at hcall
  have h79 := k79 nil np l mi den hS hP
  have hWl : (pwL l mi).length = (l.getD 0 sk0).wr.length := fL_len _ _
  have hWb : ∀ z, z < (l.getD 0 sk0).wr.length → 0 ≤ (pwL l mi).getD z 0 ∧ (pwL l mi).getD z 0 ≤ 2000000000000 := fun z hz => by
    rw [show (pwL l mi).getD z 0 = pwz l mi l.length z from fL_get _ hz]
    have := pwz_bd hS hP hz l.length (Nat.le_refl _)
    omega
  have hrow := fun H0 idW o1 o2 h1 h2 K k hk H hJ => k37l (np := np) (mi := mi) (W := pwL l mi) (den := den) (idW := idW) (n := (l.getD 0 sk0).wr.length) (o1 := o1) (o2 := o2) (H0 := H0) (bb := 0) (by omega) hP.den hWl hWb h1 h2 K (k := k) hk (H := H) hJ
  generalize pwL l mi = W at *
  generalize (l.getD 0 sk0).wr.length = n at *
  replace hcall := PLift.up hcall
  replace hrow := PLift.up hrow
  clear hV h0 z12 hS hP hWb
  unfold c37
  repeat' (first
    | ((with_reducible refine T_calm ?_ ?_); rfl)
    | with_reducible first
      | refine T_seq ?_
      | refine T_reg ?_
      | refine T_draw ?_
      | refine T_skip ?_
      | refine T_exit ?_
      | refine T_block ?_
      | refine T_cond_t rfl ?_
      | refine T_cond_f rfl ?_
      | refine wdW_cons rfl ?_
      | (show wcall _ false (.lit (.func (.func 70) _ _)) _ _ _ _; refine wcall_fn (h70) rfl (by simp [plainL, plain, plainR, plainR_sk, renR_sk, renR_ints]) ?_)
      | (show wcallX _ false (.lit (.func (.func 70) _ _)) _ _ _ _; refine wcallX_fn (h70) rfl (by simp [plainL, plain, plainR_sk]) ?_)
      | (show wcall _ false (.lit (.func (.func 78) _ _)) _ _ _ _; refine wcall_fn (h78) rfl (by simp [plainL, plain, plainR, plainR_sk, renR_sk, renR_ints]) ?_)
      | (show wcallX _ false (.lit (.func (.func 78) _ _)) _ _ _ _; refine wcallX_fn (h78) rfl (by simp [plainL, plain, plainR_sk]) ?_)
      | ((first | refine T_cond rfl (fun hc => ?_) (fun hc => ?_) | refine wguard_split (fun hc => ?_) (fun hc => ?_) | refine wguardX_split (fun hc => ?_) (fun hc => ?_)) <;> have hd := hc <;> (try simp (disch := omega) only [wrapI] at hd) <;> have hs := hd <;> (try simp only [Bool.not_eq_true', Bool.not_eq_false', Bool.and_eq_true, Bool.and_eq_false_iff, Bool.or_eq_true, Bool.or_eq_false_iff, decide_eq_true_eq, decide_eq_false_iff_not, beq_iff_eq, bne_iff_ne, beq_eq_false_iff_ne, bne_eq_false_iff_eq, Bool.not_true, Bool.not_false, gt_iff_lt, ge_iff_le, Int.not_lt, Int.not_le, ne_eq, Decidable.not_not] at hd) <;> (try simp at hs))
      | refine T_ret ?_
      | refine leave_of (.inr rfl) _ rfl ?_
      | refine leave_of (.inl rfl) _ rfl ?_
      | refine leaveA_of (.inr rfl) _ rfl ?_
      | refine leaveA_of (.inl rfl) _ rfl ?_
      | refine wif_intro ?_ (fun hc => ?_)
      | refine And.intro ?_ ?_
      | intro hc
    | simp (maxSteps := 4000000) only [wops_nil, wops_cons, wstep_none, wrun_mv, wrun_load, wrun_box, wrun_bslice, wrunX_mv, wrunX_load, wrunX_bslice, wstepX_none, wrunX_call, wop, aop, ev, look, put_some, writes, ores_some, thenK, value, cut, hget, fillA, putCells, AV.parts, isOne, toLits, mkAgg, List.flatten_cons, List.flatten_nil, rowsOf, List.map_cons, List.map_nil, List.length_cons, List.length_nil, List.getElem?_cons_zero, List.getElem?_cons_succ, List.set_cons_zero, List.set_cons_succ, List.take_succ_cons, List.take_zero, List.take_nil, List.drop_succ_cons, List.drop_zero, List.drop_nil, List.cons_append, List.nil_append, List.append_nil, List.replicate_zero, List.replicate_succ, List.getD_cons_zero, List.zipIdx_cons, List.zipIdx_nil, List.all_cons, List.all_nil, Option.getD_some, Option.map_some, if_true, if_false, Nat.reduceEqDiff, Nat.reduceAdd, Nat.reduceLeDiff, Nat.add_zero, Nat.zero_add, Nat.mul_one, Nat.le_refl, Nat.zero_ne_one, reduceCtorEq, Bool.and_true, eq_self, true_and, and_self, freeze, lidsL, lids, List.flatMap_cons, List.flatMap_nil, List.all_cons, ren, renL, renR, renB, shiftρ, renR_ints, renR_sk, renR_ints, *]
    | simp (disch := omega) only [getD_ints, wrapI]
    | (with_reducible show wcall _ false (.lit (.func (.func 70) _ _)) _ _ _ _; refine wcall_fn (h70) ?_ ?_ ?_; (next => simp [rfyL, rfy, hget, ints, take_rfy, plainR_sk, renR_sk, renR_ints]); (next => simp [plainL, plain, plainR, plainR_sk, renR_sk, renR_ints]))
    | (with_reducible show wcallX _ false (.lit (.func (.func 70) _ _)) _ _ _ _; refine wcallX_fn (h70) ?_ ?_ ?_; (next => simp [rfyL, rfy, hget, ints, take_rfy, plainR_sk, renR_sk, renR_ints]); (next => simp [plainL, plain, plainR, plainR_sk, renR_sk, renR_ints]))
    | (with_reducible show wcall _ false (.lit (.func (.func 78) _ _)) _ _ _ _; refine wcall_fn (h78) ?_ ?_ ?_; (next => simp [rfyL, rfy, hget, ints, take_rfy, plainR_sk, renR_sk, renR_ints]); (next => simp [plainL, plain, plainR, plainR_sk, renR_sk, renR_ints]))
    | (with_reducible show wcallX _ false (.lit (.func (.func 78) _ _)) _ _ _ _; refine wcallX_fn (h78) ?_ ?_ ?_; (next => simp [rfyL, rfy, hget, ints, take_rfy, plainR_sk, renR_sk, renR_ints]); (next => simp [plainL, plain, plainR, plainR_sk, renR_sk, renR_ints]))
    | omega)
  refine wcallX_raw (hcall.down _ 1 2 3 4 _ _ _ _ _ _ _ _ rfl rfl rfl rfl) ⟨_, _, rfl, Ext.refl _⟩ ?_
  rintro r H' ⟨rfl, hx⟩
  obtain ⟨q0, g0⟩ := hx.cell (id := 0) rfl
  clear hcall h70 h78 hx
  obtain ⟨u1, u2, u3, u4⟩ := cells_sub (X := []) (H := H') rfl
  have a0 := at_in g0
  repeat' (first
    | ((with_reducible refine T_calm ?_ ?_); rfl)
    | with_reducible first
      | refine T_seq ?_
      | refine T_reg ?_
      | refine T_draw ?_
      | refine T_skip ?_
      | refine T_exit ?_
      | refine T_block ?_
      | refine T_cond_t rfl ?_
      | refine T_cond_f rfl ?_
      | refine wdW_cons rfl ?_
      | (show wcall _ false (.lit (.func (.func 79) _ _)) _ _ _ _; refine wcall_fn (h79) rfl (by simp [plainL, plain, plainR_sk]) ?_)
      | (show wcallX _ false (.lit (.func (.func 79) _ _)) _ _ _ _; refine wcallX_fn (h79) rfl (by simp [plainL, plain, plainR, plainR_sk, renR_ints]) ?_)
      | ((first | refine T_cond rfl (fun hc => ?_) (fun hc => ?_) | refine wguard_split (fun hc => ?_) (fun hc => ?_) | refine wguardX_split (fun hc => ?_) (fun hc => ?_)) <;> have hd := hc <;> (try simp (disch := omega) only [wrapI] at hd) <;> have hs := hd <;> (try simp only [Bool.not_eq_true', Bool.not_eq_false', Bool.and_eq_true, Bool.and_eq_false_iff, Bool.or_eq_true, Bool.or_eq_false_iff, decide_eq_true_eq, decide_eq_false_iff_not, beq_iff_eq, bne_iff_ne, beq_eq_false_iff_ne, bne_eq_false_iff_eq, Bool.not_true, Bool.not_false, gt_iff_lt, ge_iff_le, Int.not_lt, Int.not_le, ne_eq, Decidable.not_not] at hd) <;> (try simp at hs))
      | refine T_ret ?_
      | refine leave_of (.inr rfl) _ rfl ?_
      | refine leave_of (.inl rfl) _ rfl ?_
      | refine leaveA_of (.inr rfl) _ rfl ?_
      | refine leaveA_of (.inl rfl) _ rfl ?_
      | refine wif_intro ?_ (fun hc => ?_)
      | refine And.intro ?_ ?_
      | intro hc
    | simp (maxSteps := 4000000) only [wops_nil, wops_cons, wstep_none, wrun_call, wrun_mv, wrun_bin, wrun_load, wrun_len, wrunX_mv, wdW_nil, wstepX_none, wop, aop, ev, look, put_some, writes, ores_some, binV, thenK, intV, lenOf, value, cut, hget, toLits, mkAgg, List.map_cons, List.map_nil, List.length_cons, List.length_nil, List.getElem?_cons_zero, List.take_succ_cons, List.take_nil, List.drop_zero, List.append_nil, List.replicate_zero, List.getD_cons_zero, Option.pure_def, Option.bind_eq_bind, Option.getD_some, Option.map_some, Option.bind_some, if_true, if_false, Nat.reduceEqDiff, Nat.reduceAdd, Nat.zero_add, reduceCtorEq, eq_self, freeze, lidsL, lids, List.flatMap_cons, List.flatMap_nil, ren, renB, shiftρ, renR_ints, renR_ints, *]
    | simp (disch := omega) only [getD_ints, wrapI]
    | (with_reducible show wcall _ false (.lit (.func (.func 79) _ _)) _ _ _ _; refine wcall_fn (h79) ?_ ?_ ?_; (next => simp [rfyL, rfy, hget, ints, take_rfy, plainR_sk, renR_ints]); (next => simp [plainL, plain, plainR, plainR_sk, renR_ints]))
    | (with_reducible show wcallX _ false (.lit (.func (.func 79) _ _)) _ _ _ _; refine wcallX_fn (h79) ?_ ?_ ?_; (next => simp [rfyL, rfy, hget, ints, take_rfy, plainR_sk, renR_ints]); (next => simp [plainL, plain, plainR, plainR_sk, renR_ints]))
    | omega)
  have hH0l : (H' ++ [Blk.cells true false 1 (W.map fun x => [i64 x])]).length = H'.length + 1 := by simp
  have hrow2 := hrow.down (H' ++ [.cells true false 1 (W.map fun x => [i64 x])]) H'.length _ _ (a0 _) (u1 _)
  rw [hH0l] at hrow2
  replace hrow2 := PLift.up hrow2
  refine T_forP [3, 7, 22, 23, 24] (SL37 (H'.length + 1) H'.length n) n (I37 (H' ++ [.cells true false 1 (W.map fun x => [i64 x])]) W den) 0 ?_ ?_ (Nat.zero_le _) ?_
  · simp [St.only, get_mk, look]
  · exact ⟨by simp, fun i _ => rfl, fun h => (h rfl).elim⟩
  clear h79 hrow
  intro k H hk hJ
  by_cases hkn : k < n
  · exact T_thenR (hrow2.down _ k hkn H hJ) fun s' hs => ⟨hkn, hs.1, hs.2⟩
  · have hke : k = n := by omega
    subst hke
    have hk0 : k ≠ 0 := by omega
    have ht := hJ.t hk0
    rw [hH0l] at ht
    have htl := (List.getElem?_eq_some_iff.1 ht).1
    have hkk : decide ((k : Int) < (k : Int)) = false := by simp
    clear hJ hrow2 hH0l g0 a0 u1 u2 u3 u4
    simp only [SL37, oS, hk0, if_false]
    generalize H'.length + 1 + 2 * k - 1 = M at *
    unfold c37l0
    repeat' (first
      | ((with_reducible refine T_calm ?_ ?_); rfl)
      | with_reducible first
        | refine T_seq ?_
        | refine T_reg ?_
        | refine T_draw ?_
        | refine T_skip ?_
        | refine T_exit ?_
        | refine T_block ?_
        | refine T_cond_t rfl ?_
        | refine T_cond_f rfl ?_
        | refine wdW_cons rfl ?_
        | ((first | refine T_cond rfl (fun hc => ?_) (fun hc => ?_) | refine wguard_split (fun hc => ?_) (fun hc => ?_) | refine wguardX_split (fun hc => ?_) (fun hc => ?_)) <;> have hd := hc <;> (try simp (disch := omega) only [wrapI] at hd) <;> have hs := hd <;> (try simp only [Bool.not_eq_true', Bool.not_eq_false', Bool.and_eq_true, Bool.and_eq_false_iff, Bool.or_eq_true, Bool.or_eq_false_iff, decide_eq_true_eq, decide_eq_false_iff_not, beq_iff_eq, bne_iff_ne, beq_eq_false_iff_ne, bne_eq_false_iff_eq, Bool.not_true, Bool.not_false, gt_iff_lt, ge_iff_le, Int.not_lt, Int.not_le, ne_eq, Decidable.not_not] at hd) <;> (try simp at hs))
        | refine T_ret ?_
        | refine wif_intro ?_ (fun hc => ?_)
        | refine And.intro ?_ ?_
        | intro hc
      | simp (maxSteps := 4000000) only [wops_nil, wops_cons, wstep_none, wrun_mv, wrun_bin, wop, aop, ev, look, put_some, writes, ores_some, binV, thenK, blockK, List.append_nil, List.replicate_zero, Option.map_some, if_true, if_false, Nat.reduceEqDiff, reduceCtorEq, eq_self, false_and, Int.toNat_natCast, *]
      | simp (disch := omega) only [getD_ints, wrapI]
      | omega)
    refine leave_ids (.inr rfl) [.lsl M 0 k, i64 0] [M] rfl (fun id hid => ?_) (by simp) ?_
    · simp only [List.mem_singleton] at hid; subst hid; exact htl
    · simp [ren, renL, tupOf, keepρ, pos, hget, ht, renB, renR_outR]
abbrev SL41 (nil : Bool) (l : List Sk) (k : Nat) : List (Nat × AV) := [(0, sts nil l), (3, .loc 0 0 0), (5, oS 1 k), (6, i64 k)]
set_option maxHeartbeats 8000000 in
theorem k41l {nil np : Bool} {l : List Sk} {mi : List Int} {den : Int} (hS : SOk l) (hP : POk l mi den) (K : Exit → St → Prop) {k : Nat} (hk : k < (l.getD 0 sk0).wr.length) {H : List Blk} (hJ : I37 [pB np mi den] (pwL l mi) den k H) {bb : Nat} :
    T none Try.prog muts 34 bb c41l0 ⟨SL41 nil l k, H⟩ (thenK (fun s' => I37 [pB np mi den] (pwL l mi) den (k + 1) s'.heap ∧ (s'.only [0, 3, 5, 6]).slots = SL41 nil l (k + 1)) K) := by
  have h82 := k82 nil np l mi den hS hP hk
  have eW : (pwL l mi).getD k 0 = pwz l mi l.length k := fL_get _ hk
  have hb : 0 ≤ (pwL l mi).getD k 0 ∧ (pwL l mi).getD k 0 ≤ 2000000000000 := by
    rw [eW]; have := pwz_bd hS hP hk l.length (Nat.le_refl _); have := hS.few; omega
  rw [← eW] at h82
  have hd := hP.den
  have h83 := k83 ((pwL l mi).getD k 0) den (by omega) (by omega)
  have h47 := k47 ((pwL l mi).getD k 0) den (by omega) (by omega)
  have hll := skR_len l
  have hpos := hS.pos
  have hz40 := hS.zon
  have g0 := skR_get (l := l) (k := 0) hpos
  have hl0 : (0 : Int) < (l.length : Int) := by omega
  have hw0 : ((l.getD 0 sk0).wr.map fun x => [i64 x]).length = (l.getD 0 sk0).wr.length := by simp
  have hkn : (k : Int) < ((l.getD 0 sk0).wr.length : Int) := by omega
  obtain ⟨hN, hSub, hT⟩ := hJ
  have hsub0 := hSub 0 (by simp)
  have f1 : H[0]? = some (pB np mi den) := hsub0
  have a1 := at_in f1
  have y0 := (List.getElem?_eq_some_iff.1 f1).1
  have hot := outR_len (pwL l mi) den k
  have e := outR_snoc (pwL l mi) den k
  rw [show ([pB np mi den] : List Blk).length = 1 from rfl] at hN hT
  by_cases hk0 : k = 0
  · subst hk0
    have f0 := PLift.up (fun a => I37.fin (W := pwL l mi) (den := den) (k := 0) (H0 := [pB np mi den]) (F := H) (by rw [hN]; rfl) hSub a)
    rw [e] at f0
    have e0 : outR (pwL l mi) den 0 = [] := rfl
    rw [e0] at f0
    have hN9 : H.length = 1 := by omega
    obtain ⟨g5, g6, g7, g8⟩ := cells_sub (X := []) hN9
    have g15 : ∀ Y, (H ++ Y)[2]? = Y[1]? := fun Y => g6 Y 1
    have g16 : ∀ Y v, (H ++ Y).set 2 v = H ++ Y.set 1 v := fun Y v => g8 Y 1 v
    clear hSub hT e e0 hot hb hN eW hS hP hsub0
    generalize (pwL l mi).getD 0 0 / den = qv at *
    generalize ceil ((pwL l mi).getD 0 0) den = cv at *
    generalize (pwL l mi).getD 0 0 = wv at *
    unfold c41l0
    simp only [SL41, oS, if_true]
    repeat' (first
      | ((with_reducible refine T_calm ?_ ?_); rfl)
      | with_reducible first
        | refine T_seq ?_
        | refine T_reg ?_
        | refine T_draw ?_
        | refine T_skip ?_
        | refine T_exit ?_
        | refine T_block ?_
        | refine T_cond_t rfl ?_
        | refine T_cond_f rfl ?_
        | refine wdW_cons rfl ?_
        | (show wcall _ false (.lit (.func (.func 82) _ _)) _ _ _ _; refine wcall_fn (h82) rfl (by simp [plainL, plain, plainR_sk]) ?_)
        | (show wcallX _ false (.lit (.func (.func 82) _ _)) _ _ _ _; refine wcallX_fn (h82) rfl (by simp [plainL, plain, plainR, Int.toNat_natCast, Int.toNat_zero, plainR_sk, y0]) ?_)
        | (show wcall _ false (.lit (.func (.func 83) _ _)) _ _ _ _; refine wcall_fn (h83) rfl (by simp [plainL, plain, plainR, Int.toNat_natCast, Int.toNat_zero, plainR_sk, y0]) ?_)
        | (show wcallX _ false (.lit (.func (.func 83) _ _)) _ _ _ _; refine wcallX_fn (h83) rfl (by simp [plainL, plain]) ?_)
        | (show wcall _ false (.lit (.func (.func 47) _ _)) _ _ _ _; refine wcall_fn (h47) rfl (by simp [plainL, plain, plainR, Int.toNat_natCast, Int.toNat_zero, plainR_sk, y0]) ?_)
        | (show wcallX _ false (.lit (.func (.func 47) _ _)) _ _ _ _; refine wcallX_fn (h47) rfl (by simp [plainL, plain]) ?_)
        | ((first | refine T_cond rfl (fun hc => ?_) (fun hc => ?_) | refine wguard_split (fun hc => ?_) (fun hc => ?_) | refine wguardX_split (fun hc => ?_) (fun hc => ?_)) <;> have hd := hc <;> (try simp (disch := omega) only [wrapI] at hd) <;> have hs := hd <;> (try simp only [Bool.not_eq_true', Bool.not_eq_false', Bool.and_eq_true, Bool.and_eq_false_iff, Bool.or_eq_true, Bool.or_eq_false_iff, decide_eq_true_eq, decide_eq_false_iff_not, beq_iff_eq, bne_iff_ne, beq_eq_false_iff_ne, bne_eq_false_iff_eq, Bool.not_true, Bool.not_false, gt_iff_lt, ge_iff_le, Int.not_lt, Int.not_le, ne_eq, Decidable.not_not] at hd) <;> (try simp at hs))
        | refine T_ret ?_
        | refine wif_intro ?_ (fun hc => ?_)
        | refine And.intro ?_ ?_
        | intro hc
      | simp (maxSteps := 4000000) only [wops_nil, wops_cons, wstep_none, wrun_call, wrun_mv, wrun_bin, wrun_build, wrun_load, wrun_faddr, wrun_iaddrS, wrun_len, wrun_bslice, wrun_app, wrunX_mv, wrunX_build, wrunX_load, wrunX_faddr, wrunX_bslice, wrunX_app, wdW_nil, wstepX_none, wrunX_call, wop, aop, ev, look, put_some, writes, ores_some, ores_ite_none, ores_map, ores_bind, binV, thenK, blockK, intV, lenOf, elsOf, szOk, value, cut, hget, fillA, putCells, AV.parts, isOne, toLits, mkAgg, ofValue_int, List.flatten_cons, List.flatten_nil, rowsOf, List.map_cons, List.map_nil, List.length_cons, List.length_nil, List.getElem?_cons_zero, List.getElem?_cons_succ, List.set_cons_zero, List.set_cons_succ, List.take_succ_cons, List.take_zero, List.take_nil, List.drop_succ_cons, List.drop_zero, List.drop_nil, List.cons_append, List.nil_append, List.append_nil, List.replicate_zero, List.replicate_succ, List.getD_cons_zero, List.all_cons, List.all_nil, List.isEmpty_cons, List.length_append, Option.pure_def, Option.bind_eq_bind, Option.getD_some, Option.map_some, if_true, if_false, Nat.reduceEqDiff, Nat.reduceAdd, Nat.reduceSub, Nat.reduceMul, Nat.reduceLeDiff, Nat.add_zero, Nat.zero_add, Nat.sub_zero, Nat.zero_mul, Nat.mul_one, Nat.le_refl, reduceCtorEq, Bool.and_true, Bool.or_true, Bool.false_eq_true, eq_self, true_and, and_true, and_self, decide_true, beq_self_eq_true, freeze, lidsL, lids, List.flatMap_cons, List.flatMap_nil, List.all_cons, ren, Int.toNat_zero, *]
      | simp (disch := omega) only [wrapI]
      | (with_reducible show wcall _ false (.lit (.func (.func 82) _ _)) _ _ _ _; refine wcall_fn (h82) ?_ ?_ ?_; (next => simp [rfyL, rfy, hget, ints, take_rfy, Int.toNat_natCast, Int.toNat_zero, plainR_sk, y0]); (next => simp [plainL, plain, plainR, Int.toNat_natCast, Int.toNat_zero, plainR_sk, y0]))
      | (with_reducible show wcallX _ false (.lit (.func (.func 82) _ _)) _ _ _ _; refine wcallX_fn (h82) ?_ ?_ ?_; (next => simp [rfyL, rfy, hget, ints, take_rfy, Int.toNat_natCast, Int.toNat_zero, plainR_sk, y0]); (next => simp [plainL, plain, plainR, Int.toNat_natCast, Int.toNat_zero, plainR_sk, y0]))
      | (with_reducible show wcall _ false (.lit (.func (.func 83) _ _)) _ _ _ _; refine wcall_fn (h83) ?_ ?_ ?_; (next => simp [rfyL, rfy, hget, ints, take_rfy, Int.toNat_natCast, Int.toNat_zero, plainR_sk, y0]); (next => simp [plainL, plain, plainR, Int.toNat_natCast, Int.toNat_zero, plainR_sk, y0]))
      | (with_reducible show wcallX _ false (.lit (.func (.func 83) _ _)) _ _ _ _; refine wcallX_fn (h83) ?_ ?_ ?_; (next => simp [rfyL, rfy, hget, ints, take_rfy, Int.toNat_natCast, Int.toNat_zero, plainR_sk, y0]); (next => simp [plainL, plain, plainR, Int.toNat_natCast, Int.toNat_zero, plainR_sk, y0]))
      | (with_reducible show wcall _ false (.lit (.func (.func 47) _ _)) _ _ _ _; refine wcall_fn (h47) ?_ ?_ ?_; (next => simp [rfyL, rfy, hget, ints, take_rfy, Int.toNat_natCast, Int.toNat_zero, plainR_sk, y0]); (next => simp [plainL, plain, plainR, Int.toNat_natCast, Int.toNat_zero, plainR_sk, y0]))
      | (with_reducible show wcallX _ false (.lit (.func (.func 47) _ _)) _ _ _ _; refine wcallX_fn (h47) ?_ ?_ ?_; (next => simp [rfyL, rfy, hget, ints, take_rfy, Int.toNat_natCast, Int.toNat_zero, plainR_sk, y0]); (next => simp [plainL, plain, plainR, Int.toNat_natCast, Int.toNat_zero, plainR_sk, y0]))
      | (with_reducible refine wdW_cons ?_ ?_; (next => simp [chk, foot, compatB, argsOf, St.get, target, ev, look, lidsL, kind, AOp.isRaw, wids, tops, opds, topId]; done))
      | omega)
    all_goals first | exact f0.down _ | (simp [St.only, get_mk, look]; done)
  · obtain ⟨g5, g6, g7, g8⟩ := cells_sub (X := []) hN
    have hT' := hT hk0
    have hML : 1 + 2 * k - 1 < H.length := (List.getElem?_eq_some_iff.1 hT').1
    have f0 := PLift.up (fun a => I37.fin (H0 := [pB np mi den]) (F := H.set (1 + 2 * k - 1) .dead) (W := pwL l mi) (den := den) (k := k) (by simp [hN]) (fun i hi => by rw [List.getElem?_set_ne (by simp at hi; omega)]; exact hSub i hi) a)
    rw [e] at f0
    have g9 : ∀ Y, (H ++ Y)[1 + 2 * k - 1]? = some (.cells true false 2 (outR (pwL l mi) den k)) := fun Y => by rw [List.getElem?_append_left hML]; exact hT'
    have g10 : ∀ Y v, (H ++ Y).set (1 + 2 * k - 1) v = H.set (1 + 2 * k - 1) v ++ Y := fun Y v => List.set_append_left _ _ hML
    obtain ⟨g11, g12, g13, g14⟩ := cells_sub (X := []) (H := H.set (1 + 2 * k - 1) .dead) (N := 1 + 2 * k) (by simp [hN])
    have t1 : List.take k (outR (pwL l mi) den k) = outR (pwL l mi) den k := List.take_of_length_le (by omega)
    have e9 : 1 + 2 * (k + 1) - 1 = 1 + 2 * k + 1 := by omega
    have hk1 : k + 1 ≠ 0 := by omega
    have y2 : 0 ≠ 1 + 2 * k - 1 := by omega
    clear hSub hT e hb eW hS hP hsub0
    generalize (pwL l mi).getD k 0 / den = qv at *
    generalize ceil ((pwL l mi).getD k 0) den = cv at *
    generalize (pwL l mi).getD k 0 = wv at *
    unfold c41l0
    simp only [SL41, oS, hk0, if_false]
    generalize 1 + 2 * k - 1 = M at *
    generalize hNe : 1 + 2 * k = N at *
    replace hML := And.intro hML trivial
    replace hNe := And.intro hNe trivial
    replace e9 := And.intro e9 trivial
    repeat' (first
      | ((with_reducible refine T_calm ?_ ?_); rfl)
      | with_reducible first
        | refine T_seq ?_
        | refine T_reg ?_
        | refine T_draw ?_
        | refine T_skip ?_
        | refine T_exit ?_
        | refine T_block ?_
        | refine T_cond_t rfl ?_
        | refine T_cond_f rfl ?_
        | refine wdW_cons rfl ?_
        | (show wcall _ false (.lit (.func (.func 82) _ _)) _ _ _ _; refine wcall_fn (h82) rfl (by simp [plainL, plain, plainR_sk]) ?_)
        | (show wcallX _ false (.lit (.func (.func 82) _ _)) _ _ _ _; refine wcallX_fn (h82) rfl (by simp [plainL, plain, plainR, Int.toNat_natCast, Int.toNat_zero, plainR_sk, y0, y2]) ?_)
        | (show wcall _ false (.lit (.func (.func 83) _ _)) _ _ _ _; refine wcall_fn (h83) rfl (by simp [plainL, plain, plainR, Int.toNat_natCast, Int.toNat_zero, plainR_sk, y0, y2]) ?_)
        | (show wcallX _ false (.lit (.func (.func 83) _ _)) _ _ _ _; refine wcallX_fn (h83) rfl (by simp [plainL, plain]) ?_)
        | (show wcall _ false (.lit (.func (.func 47) _ _)) _ _ _ _; refine wcall_fn (h47) rfl (by simp [plainL, plain, plainR, Int.toNat_natCast, Int.toNat_zero, plainR_sk, y0, y2]) ?_)
        | (show wcallX _ false (.lit (.func (.func 47) _ _)) _ _ _ _; refine wcallX_fn (h47) rfl (by simp [plainL, plain]) ?_)
        | ((first | refine T_cond rfl (fun hc => ?_) (fun hc => ?_) | refine wguard_split (fun hc => ?_) (fun hc => ?_) | refine wguardX_split (fun hc => ?_) (fun hc => ?_)) <;> have hd := hc <;> (try simp (disch := omega) only [wrapI] at hd) <;> have hs := hd <;> (try simp only [Bool.not_eq_true', Bool.not_eq_false', Bool.and_eq_true, Bool.and_eq_false_iff, Bool.or_eq_true, Bool.or_eq_false_iff, decide_eq_true_eq, decide_eq_false_iff_not, beq_iff_eq, bne_iff_ne, beq_eq_false_iff_ne, bne_eq_false_iff_eq, Bool.not_true, Bool.not_false, gt_iff_lt, ge_iff_le, Int.not_lt, Int.not_le, ne_eq, Decidable.not_not] at hd) <;> (try simp at hs))
        | refine T_ret ?_
        | refine wif_intro ?_ (fun hc => ?_)
        | refine And.intro ?_ ?_
        | intro hc
      | simp (maxSteps := 4000000) only [wops_nil, wops_cons, wstep_none, wrun_call, wrun_mv, wrun_bin, wrun_build, wrun_load, wrun_faddr, wrun_iaddrS, wrun_len, wrun_bslice, wrun_app, wrunX_mv, wrunX_build, wrunX_load, wrunX_faddr, wrunX_bslice, wrunX_app, wdW_nil, wstepX_none, wrunX_call, wop, aop, ev, look, put_some, writes, ores_some, ores_ite_none, ores_map, ores_bind, binV, thenK, blockK, intV, lenOf, elsOf, szOk, value, cut, hget, fillA, putCells, AV.parts, isOne, toLits, mkAgg, ofValue_int, List.flatten_cons, List.flatten_nil, rowsOf, List.map_cons, List.map_nil, List.length_cons, List.length_nil, List.getElem?_cons_zero, List.getElem?_cons_succ, List.set_cons_zero, List.set_cons_succ, List.take_succ_cons, List.take_zero, List.take_nil, List.drop_succ_cons, List.drop_zero, List.drop_nil, List.cons_append, List.nil_append, List.append_nil, List.replicate_zero, List.replicate_succ, List.getD_cons_zero, List.all_cons, List.all_nil, List.isEmpty_cons, List.length_append, Option.pure_def, Option.bind_eq_bind, Option.getD_some, Option.map_some, if_true, if_false, Nat.reduceEqDiff, Nat.reduceAdd, Nat.reduceLeDiff, Nat.add_zero, Nat.zero_add, Nat.sub_zero, Nat.zero_mul, Nat.le_refl, reduceCtorEq, Bool.and_true, Bool.and_false, Bool.or_true, Bool.false_eq_true, eq_self, true_and, and_true, and_self, decide_true, beq_self_eq_true, freeze, lidsL, lids, List.flatMap_cons, List.flatMap_nil, List.all_cons, ren, Int.toNat_zero, *]
      | simp (disch := omega) only [wrapI]
      | (with_reducible show wcall _ false (.lit (.func (.func 82) _ _)) _ _ _ _; refine wcall_fn (h82) ?_ ?_ ?_; (next => simp [rfyL, rfy, hget, ints, take_rfy, Int.toNat_natCast, Int.toNat_zero, plainR_sk, y0, y2]); (next => simp [plainL, plain, plainR, Int.toNat_natCast, Int.toNat_zero, plainR_sk, y0, y2]))
      | (with_reducible show wcallX _ false (.lit (.func (.func 82) _ _)) _ _ _ _; refine wcallX_fn (h82) ?_ ?_ ?_; (next => simp [rfyL, rfy, hget, ints, take_rfy, Int.toNat_natCast, Int.toNat_zero, plainR_sk, y0, y2]); (next => simp [plainL, plain, plainR, Int.toNat_natCast, Int.toNat_zero, plainR_sk, y0, y2]))
      | (with_reducible show wcall _ false (.lit (.func (.func 83) _ _)) _ _ _ _; refine wcall_fn (h83) ?_ ?_ ?_; (next => simp [rfyL, rfy, hget, ints, take_rfy, Int.toNat_natCast, Int.toNat_zero, plainR_sk, y0, y2]); (next => simp [plainL, plain, plainR, Int.toNat_natCast, Int.toNat_zero, plainR_sk, y0, y2]))
      | (with_reducible show wcallX _ false (.lit (.func (.func 83) _ _)) _ _ _ _; refine wcallX_fn (h83) ?_ ?_ ?_; (next => simp [rfyL, rfy, hget, ints, take_rfy, Int.toNat_natCast, Int.toNat_zero, plainR_sk, y0, y2]); (next => simp [plainL, plain, plainR, Int.toNat_natCast, Int.toNat_zero, plainR_sk, y0, y2]))
      | (with_reducible show wcall _ false (.lit (.func (.func 47) _ _)) _ _ _ _; refine wcall_fn (h47) ?_ ?_ ?_; (next => simp [rfyL, rfy, hget, ints, take_rfy, Int.toNat_natCast, Int.toNat_zero, plainR_sk, y0, y2]); (next => simp [plainL, plain, plainR, Int.toNat_natCast, Int.toNat_zero, plainR_sk, y0, y2]))
      | (with_reducible show wcallX _ false (.lit (.func (.func 47) _ _)) _ _ _ _; refine wcallX_fn (h47) ?_ ?_ ?_; (next => simp [rfyL, rfy, hget, ints, take_rfy, Int.toNat_natCast, Int.toNat_zero, plainR_sk, y0, y2]); (next => simp [plainL, plain, plainR, Int.toNat_natCast, Int.toNat_zero, plainR_sk, y0, y2]))
      | (with_reducible refine wdW_cons ?_ ?_; (next => simp [chk, foot, compatB, argsOf, St.get, target, ev, look, lidsL, kind, AOp.isRaw, wids, tops, opds, topId]; done))
      | omega)
    all_goals first | exact f0.down _ | (simp [St.only, get_mk, look]; done)
set_option maxHeartbeats 8000000 in
theorem k41 {nil np : Bool} {l : List Sk} {mi : List Int} {den : Int} (hS : SOk l) (hP : POk l mi den) : Fn Try.prog 41 [sts nil l, plV np mi den] (.lsl 0 0 (l.getD 0 sk0).wr.length) [.cells true false 2 (outR (pwL l mi) den (l.getD 0 sk0).wr.length)] := by
  refine fn_of e41 ?_
  have hrow := PLift.up (fun K k hk H hJ => k41l (nil := nil) (np := np) (bb := 0) hS hP K (k := k) hk (H := H) hJ)
  have hll := skR_len l
  have hpos := hS.pos
  have hz40 := hS.zon
  have g0 := skR_get (l := l) (k := 0) hpos
  have hl0 : (0 : Int) < (l.length : Int) := by omega
  have hw0 : ((l.getD 0 sk0).wr.map fun x => [i64 x]).length = (l.getD 0 sk0).wr.length := by simp
  clear hS hP
  unfold c41
  repeat' (first
    | ((with_reducible refine T_calm ?_ ?_); rfl)
    | with_reducible first
      | refine T_seq ?_
      | refine T_reg ?_
      | refine T_draw ?_
      | refine T_skip ?_
      | refine T_exit ?_
      | refine T_block ?_
      | refine T_cond_t rfl ?_
      | refine T_cond_f rfl ?_
      | refine wdW_cons rfl ?_
      | ((first | refine T_cond rfl (fun hc => ?_) (fun hc => ?_) | refine wguard_split (fun hc => ?_) (fun hc => ?_) | refine wguardX_split (fun hc => ?_) (fun hc => ?_)) <;> have hd := hc <;> (try simp (disch := omega) only [wrapI] at hd) <;> have hs := hd <;> (try simp only [Bool.not_eq_true', Bool.not_eq_false', Bool.and_eq_true, Bool.and_eq_false_iff, Bool.or_eq_true, Bool.or_eq_false_iff, decide_eq_true_eq, decide_eq_false_iff_not, beq_iff_eq, bne_iff_ne, beq_eq_false_iff_ne, bne_eq_false_iff_eq, Bool.not_true, Bool.not_false, gt_iff_lt, ge_iff_le, Int.not_lt, Int.not_le, ne_eq, Decidable.not_not] at hd) <;> (try simp at hs))
      | refine T_ret ?_
      | refine leave_of (.inr rfl) _ rfl ?_
      | refine leave_of (.inl rfl) _ rfl ?_
      | refine leaveA_of (.inr rfl) _ rfl ?_
      | refine leaveA_of (.inl rfl) _ rfl ?_
      | refine wif_intro ?_ (fun hc => ?_)
      | refine And.intro ?_ ?_
      | intro hc
    | simp (maxSteps := 4000000) only [wops_nil, wops_cons, wstep_none, wrun_mv, wrun_box, wop, aop, ev, look, put_some, writes, ores_some, thenK, AV.parts, isOne, List.map_cons, List.map_nil, List.length_cons, List.length_nil, List.getElem?_cons_zero, List.set_cons_zero, List.nil_append, List.append_nil, List.replicate_zero, List.replicate_succ, List.zipIdx_cons, List.zipIdx_nil, List.all_cons, List.all_nil, if_true, if_false, Nat.reduceAdd, Nat.add_zero, Nat.zero_add, Nat.zero_ne_one, Bool.and_true, eq_self, true_and, and_self, List.all_cons, *]
    | simp (disch := omega) only [getD_ints, wrapI]
    | omega)
  refine T_forP [0, 3, 5, 6] (SL41 nil l) (l.getD 0 sk0).wr.length (I37 [pB np mi den] (pwL l mi) den) 0 ?_ ?_ (Nat.zero_le _) ?_
  · simp [St.only, get_mk, look]
  · exact ⟨rfl, fun i _ => rfl, fun h => (h rfl).elim⟩
  intro k H hk hJ
  by_cases hkn : k < (l.getD 0 sk0).wr.length
  · exact T_thenR (hrow.down _ k hkn H hJ) fun s' hs => ⟨hkn, hs.1, hs.2⟩
  · have hke : k = (l.getD 0 sk0).wr.length := by omega
    have hk0 : k ≠ 0 := by omega
    have ht := hJ.t hk0
    rw [show ([pB np mi den] : List Blk).length = 1 from rfl] at ht
    have htl := (List.getElem?_eq_some_iff.1 ht).1
    have hkk : decide ((k : Int) < ((l.getD 0 sk0).wr.length : Int)) = false := decide_eq_false (by omega)
    rw [← hke]
    rw [← hke] at hkk
    clear hJ hrow
    simp only [SL41, oS, hk0, if_false]
    generalize 1 + 2 * k - 1 = M at *
    rw [← hke] at hw0
    replace hke := PLift.up hke
    unfold c41l0
    repeat' (first
      | ((with_reducible refine T_calm ?_ ?_); rfl)
      | with_reducible first
        | refine T_seq ?_
        | refine T_reg ?_
        | refine T_draw ?_
        | refine T_skip ?_
        | refine T_exit ?_
        | refine T_block ?_
        | refine T_cond_t rfl ?_
        | refine T_cond_f rfl ?_
        | refine wdW_cons rfl ?_
        | ((first | refine T_cond rfl (fun hc => ?_) (fun hc => ?_) | refine wguard_split (fun hc => ?_) (fun hc => ?_) | refine wguardX_split (fun hc => ?_) (fun hc => ?_)) <;> have hd := hc <;> (try simp (disch := omega) only [wrapI] at hd) <;> have hs := hd <;> (try simp only [Bool.not_eq_true', Bool.not_eq_false', Bool.and_eq_true, Bool.and_eq_false_iff, Bool.or_eq_true, Bool.or_eq_false_iff, decide_eq_true_eq, decide_eq_false_iff_not, beq_iff_eq, bne_iff_ne, beq_eq_false_iff_ne, bne_eq_false_iff_eq, Bool.not_true, Bool.not_false, gt_iff_lt, ge_iff_le, Int.not_lt, Int.not_le, ne_eq, Decidable.not_not] at hd) <;> (try simp at hs))
        | refine T_ret ?_
        | refine wif_intro ?_ (fun hc => ?_)
        | refine And.intro ?_ ?_
        | intro hc
      | simp (maxSteps := 4000000) only [wops_nil, wops_cons, wstep_none, wrun_mv, wrun_bin, wrun_load, wrun_faddr, wrun_iaddrS, wrun_len, wop, aop, ev, look, put_some, writes, ores_some, ores_ite_none, ores_map, ores_bind, binV, thenK, blockK, intV, lenOf, value, cut, hget, mkAgg, List.length_cons, List.length_nil, List.take_succ_cons, List.take_nil, List.drop_succ_cons, List.drop_zero, List.append_nil, List.replicate_zero, Option.pure_def, Option.bind_eq_bind, Option.map_some, if_true, if_false, Nat.reduceEqDiff, Nat.add_zero, Nat.zero_add, reduceCtorEq, Bool.false_eq_true, eq_self, and_true, and_self, Int.toNat_zero, *]
      | simp (disch := omega) only [getD_ints, wrapI]
      | omega)
    refine leave_ids (.inr rfl) [.lsl M 0 k] [M] rfl (fun id hid => ?_) (by simp) ?_
    · simp only [List.mem_singleton] at hid; subst hid; exact htl
    · simp [ren, tupOf, keepρ, pos, hget, ht, renB, renR_outR]
end Go.Abs
