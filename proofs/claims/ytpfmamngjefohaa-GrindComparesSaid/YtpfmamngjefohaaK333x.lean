import Derived.Test.YtpfmamngjefohaaK332x
set_option linter.all false
set_option linter.unusedVariables false
set_option linter.unusedSimpArgs false
set_option linter.unusedSectionVars false
namespace Go.Abs
open Go.Proofs
/-! CheckPlan -/
structure DOk (n : Nat) (lo hi : List Int) : Prop where
  l1 : lo.length = n
  l2 : hi.length = n
  r1 : ∀ z, z < n → 0 ≤ lo.getD z 0 ∧ lo.getD z 0 ≤ 10000
  r2 : ∀ z, z < n → 0 ≤ hi.getD z 0 ∧ hi.getD z 0 ≤ 10000
  le : ∀ z, z < n → lo.getD z 0 ≤ hi.getD z 0
theorem dmE_ok {n : Nat} {lo hi : List Int} (h : dmE n lo hi = 0) : DOk n lo hi := by
  unfold dmE at h
  split at h
  · simp at h
  rename_i h1
  have each : ∀ z, z < n → (0 ≤ lo.getD z 0 ∧ lo.getD z 0 ≤ 10000) ∧ (0 ≤ hi.getD z 0 ∧ hi.getD z 0 ≤ 10000) ∧ lo.getD z 0 ≤ hi.getD z 0 := fun z hz => by
    have := fe_all h z hz
    unfold dEr at this
    split at this
    · simp at this
    rename_i g1
    split at this
    · simp at this
    rename_i g2
    unfold inD at g1
    simp only [Bool.not_eq_false, Bool.and_eq_true, decide_eq_true_eq] at g1
    simp only [decide_eq_true_eq] at g2
    omega
  simp only [Bool.or_eq_true, bne_iff_ne, not_or, Decidable.not_not] at h1
  exact ⟨by omega, by omega, fun z hz => (each z hz).1, fun z hz => (each z hz).2.1, fun z hz => (each z hz).2.2⟩
def badZ (W : List Int) (lo hi : List Int) (den : Int) (z : Nat) : Bool := !(decide (lo.getD z 0 * den ≤ W.getD z 0) && decide (W.getD z 0 ≤ hi.getD z 0 * den))
set_option maxHeartbeats 8000000 in
theorem k36l {np n1 n2 : Bool} {mi lo hi W : List Int} {den : Int} {n id : Nat} {o0 o1 o2 : Bool} {H : List Blk} (hD : DOk n lo hi) (hn : n ≤ 40) (hden : 1 ≤ den ∧ den ≤ 10000000) (hW : W.length = n)
    (h0 : H[0]? = some (.cells o0 false 2 [[ints n1 lo, ints n2 hi]])) (h1 : H[1]? = some (.cells o1 false 2 [[ints np mi, i64 den]])) (h2 : H[id]? = some (.cells o2 false 1 (W.map fun x => [i64 x]))) (K : Exit → St → Prop) {k : Nat} (hk : k < n)
    (hE : badZ W lo hi den k = true → ∀ τ : St, τ.get 6 = i64 k → τ.get 7 = i64 26 → K .ret τ) {bb : Nat} :
    T none Try.prog muts 57 bb c36l0 ⟨[(4, .loc 0 0 0), (5, .loc 1 0 0), (26, .lsl id 0 n), (27, i64 n), (28, i64 k)], H⟩ (thenK (fun s' => badZ W lo hi den k = false ∧ s'.heap = H ∧ (s'.only [4, 5, 26, 27, 28]).slots = [(4, .loc 0 0 0), (5, .loc 1 0 0), (26, .lsl id 0 n), (27, i64 n), (28, i64 ((k + 1 : Nat) : Int))]) K) := by
  have hll := (by simp : (lo.map fun x => [i64 x]).length = lo.length)
  have hlh := (by simp : (hi.map fun x => [i64 x]).length = hi.length)
  have hlw := (by simp : (W.map fun x => [i64 x]).length = W.length)
  have g1 : (lo.map fun x => [i64 x]).getD k [] = [i64 (lo.getD k 0)] := getD_ints (by rw [hD.l1]; exact hk)
  have g2 : (hi.map fun x => [i64 x]).getD k [] = [i64 (hi.getD k 0)] := getD_ints (by rw [hD.l2]; exact hk)
  have g3 : (W.map fun x => [i64 x]).getD k [] = [i64 (W.getD k 0)] := getD_ints (by omega)
  have hkl : (k : Int) < (lo.length : Int) := by rw [hD.l1]; omega
  have hkh : (k : Int) < (hi.length : Int) := by rw [hD.l2]; omega
  have hkw : (k : Int) < (W.length : Int) := by omega
  have hkn : (k : Int) < (n : Int) := by omega
  have b1 := mul_bd (hD.r1 k hk) (B := 10000000) (b := den) (by omega)
  have b2 := mul_bd (hD.r2 k hk) (B := 10000000) (b := den) (by omega)
  have ew1 : IntKind.i64.wrap (lo.getD k 0 * den) = lo.getD k 0 * den := wrapI (by omega) (by omega)
  have ew2 : IntKind.i64.wrap (hi.getD k 0 * den) = hi.getD k 0 * den := wrapI (by omega) (by omega)
  have h80 := k80 (W.getD k 0) (lo.getD k 0 * den) (hi.getD k 0 * den)
  have x0 := (List.getElem?_eq_some_iff.1 h0).1
  have x1 := (List.getElem?_eq_some_iff.1 h1).1
  have x2 := (List.getElem?_eq_some_iff.1 h2).1
  have eb : badZ W lo hi den k = !(decide (lo.getD k 0 * den ≤ W.getD k 0) && decide (W.getD k 0 ≤ hi.getD k 0 * den)) := rfl
  generalize badZ W lo hi den k = B at *
  clear hD b1 b2 hden
  cases a1 : (decide (lo.getD k 0 * den ≤ W.getD k 0) && decide (W.getD k 0 ≤ hi.getD k 0 * den)) with
  | true =>
    rw [a1] at h80 eb
    simp only [Bool.not_true] at eb
    subst eb
    clear hE a1
    generalize lo.getD k 0 = lv at *
    generalize hi.getD k 0 = hv at *
    generalize W.getD k 0 = wv at *
    unfold c36l0
    repeat' (first
      | ((with_reducible refine T_calm ?_ ?_); rfl)
      | with_reducible first
        | refine T_seq ?_
        | refine T_reg ?_
        | refine T_draw ?_
        | refine T_skip ?_
        | refine T_exit ?_
        | refine T_block ?_
        | refine T_cond_t rfl ?_
        | refine T_cond_f rfl ?_
        | refine wdW_cons rfl ?_
        | (show wcall _ false (.lit (.func (.func 80) _ _)) _ _ _ _; refine wcall_fn (h80) rfl (by simp [plainL, plain, plainR, Int.toNat_natCast, x0, x1, x2]) ?_)
        | (show wcallX _ false (.lit (.func (.func 80) _ _)) _ _ _ _; refine wcallX_fn (h80) rfl (by simp [plainL, plain]) ?_)
        | ((first | refine T_cond rfl (fun hc => ?_) (fun hc => ?_) | refine wguard_split (fun hc => ?_) (fun hc => ?_) | refine wguardX_split (fun hc => ?_) (fun hc => ?_)) <;> have hd := hc <;> (try simp (disch := omega) only [wrapI] at hd) <;> have hs := hd <;> (try simp only [Bool.not_eq_true', Bool.not_eq_false', Bool.and_eq_true, Bool.and_eq_false_iff, Bool.or_eq_true, Bool.or_eq_false_iff, decide_eq_true_eq, decide_eq_false_iff_not, beq_iff_eq, bne_iff_ne, beq_eq_false_iff_ne, bne_eq_false_iff_eq, Bool.not_true, Bool.not_false, gt_iff_lt, ge_iff_le, Int.not_lt, Int.not_le, ne_eq, Decidable.not_not] at hd) <;> (try simp at hs))
        | refine T_ret ?_
        | refine wif_intro ?_ (fun hc => ?_)
        | refine And.intro ?_ ?_
        | intro hc
      | simp (maxSteps := 4000000) only [wops_nil, wops_cons, wstep_none, wrun_mv, wrun_bin, wrun_not, wrun_load, wrun_faddr, wrun_iaddrS, wrunX_mv, wrunX_bin, wrunX_not, wrunX_load, wrunX_faddr, wrunX_iaddrS, wdW_nil, wstepX_none, wrunX_call, wop, aop, ev, look, put_some, writes, ores_some, ores_ite_none, binV, thenK, blockK, boolV, value, cut, hget, toLits, mkAgg, List.map_cons, List.map_nil, List.length_cons, List.length_nil, List.take_succ_cons, List.take_zero, List.take_nil, List.drop_succ_cons, List.drop_zero, List.append_nil, List.replicate_zero, List.getD_cons_zero, Option.getD_some, Option.map_some, if_true, if_false, Nat.reduceEqDiff, Nat.add_zero, Nat.zero_add, reduceCtorEq, Bool.not_true, Bool.false_eq_true, eq_self, true_and, and_true, and_self, decide_true, freeze, lidsL, lids, List.flatMap_cons, List.flatMap_nil, ren, Int.toNat_natCast, *]
      | simp (disch := omega) only [wrapI]
      | (with_reducible show wcall _ false (.lit (.func (.func 80) _ _)) _ _ _ _; refine wcall_fn (h80) ?_ ?_ ?_; (next => simp [rfyL, rfy, hget, ints, take_rfy, Int.toNat_natCast, x0, x1, x2]); (next => simp [plainL, plain, plainR, Int.toNat_natCast, x0, x1, x2]))
      | (with_reducible show wcallX _ false (.lit (.func (.func 80) _ _)) _ _ _ _; refine wcallX_fn (h80) ?_ ?_ ?_; (next => simp [rfyL, rfy, hget, ints, take_rfy, Int.toNat_natCast, x0, x1, x2]); (next => simp [plainL, plain, plainR, Int.toNat_natCast, x0, x1, x2]))
      | (with_reducible refine wdW_cons ?_ ?_; (next => simp [chk, foot, compatB, argsOf, St.get, target, ev, look, lidsL, hget, kind, AOp.isRaw, wids, wtops, tops, opds, topId, Int.toNat_natCast, x0, x1, x2]; done))
      | omega)
    all_goals first | rfl | (simp [St.only, get_mk, look]; done)
  | false =>
    rw [a1] at h80 eb
    have f := PLift.up (hE eb)
    clear hE a1 eb
    generalize lo.getD k 0 = lv at *
    generalize hi.getD k 0 = hv at *
    generalize W.getD k 0 = wv at *
    unfold c36l0
    repeat' (first
      | ((with_reducible refine T_calm ?_ ?_); rfl)
      | with_reducible first
        | refine T_seq ?_
        | refine T_reg ?_
        | refine T_draw ?_
        | refine T_skip ?_
        | refine T_exit ?_
        | refine T_block ?_
        | refine T_cond_t rfl ?_
        | refine T_cond_f rfl ?_
        | refine wdW_cons rfl ?_
        | (show wcall _ false (.lit (.func (.func 80) _ _)) _ _ _ _; refine wcall_fn (h80) rfl (by simp [plainL, plain, plainR, Int.toNat_natCast, x0, x1, x2]) ?_)
        | (show wcallX _ false (.lit (.func (.func 80) _ _)) _ _ _ _; refine wcallX_fn (h80) rfl (by simp [plainL, plain]) ?_)
        | ((first | refine T_cond rfl (fun hc => ?_) (fun hc => ?_) | refine wguard_split (fun hc => ?_) (fun hc => ?_) | refine wguardX_split (fun hc => ?_) (fun hc => ?_)) <;> have hd := hc <;> (try simp (disch := omega) only [wrapI] at hd) <;> have hs := hd <;> (try simp only [Bool.not_eq_true', Bool.not_eq_false', Bool.and_eq_true, Bool.and_eq_false_iff, Bool.or_eq_true, Bool.or_eq_false_iff, decide_eq_true_eq, decide_eq_false_iff_not, beq_iff_eq, bne_iff_ne, beq_eq_false_iff_ne, bne_eq_false_iff_eq, Bool.not_true, Bool.not_false, gt_iff_lt, ge_iff_le, Int.not_lt, Int.not_le, ne_eq, Decidable.not_not] at hd) <;> (try simp at hs))
        | refine T_ret ?_
        | refine wif_intro ?_ (fun hc => ?_)
        | refine And.intro ?_ ?_
        | intro hc
      | simp (maxSteps := 4000000) only [wops_nil, wops_cons, wstep_none, wrun_mv, wrun_bin, wrun_not, wrun_load, wrun_faddr, wrun_iaddrS, wrunX_mv, wrunX_bin, wrunX_not, wrunX_load, wrunX_faddr, wrunX_iaddrS, wdW_nil, wstepX_none, wrunX_call, wop, aop, ev, look, put_some, writes, ores_some, ores_ite_none, binV, thenK, blockK, boolV, value, cut, hget, toLits, mkAgg, List.map_cons, List.map_nil, List.length_cons, List.length_nil, List.take_succ_cons, List.take_zero, List.take_nil, List.drop_succ_cons, List.drop_zero, List.append_nil, List.replicate_zero, List.getD_cons_zero, Option.getD_some, Option.map_some, if_true, if_false, Nat.reduceEqDiff, Nat.add_zero, Nat.zero_add, reduceCtorEq, Bool.not_false, Bool.false_eq_true, eq_self, true_and, and_true, and_self, decide_true, freeze, lidsL, lids, List.flatMap_cons, List.flatMap_nil, ren, Int.toNat_natCast, *]
      | simp (disch := omega) only [getD_ints, wrapI]
      | (with_reducible show wcall _ false (.lit (.func (.func 80) _ _)) _ _ _ _; refine wcall_fn (h80) ?_ ?_ ?_; (next => simp [rfyL, rfy, hget, ints, take_rfy, Int.toNat_natCast, x0, x1, x2]); (next => simp [plainL, plain, plainR, Int.toNat_natCast, x0, x1, x2]))
      | (with_reducible show wcallX _ false (.lit (.func (.func 80) _ _)) _ _ _ _; refine wcallX_fn (h80) ?_ ?_ ?_; (next => simp [rfyL, rfy, hget, ints, take_rfy, Int.toNat_natCast, x0, x1, x2]); (next => simp [plainL, plain, plainR, Int.toNat_natCast, x0, x1, x2]))
      | (with_reducible refine wdW_cons ?_ ?_; (next => simp [chk, foot, compatB, argsOf, St.get, target, ev, look, lidsL, hget, kind, AOp.isRaw, wids, wtops, tops, opds, topId, Int.toNat_natCast, x0, x1, x2]; done))
      | omega)
    all_goals first | exact f.down _ rfl rfl
def ppE (l : List Sk) (lo hi mi : List Int) (den : Int) : Int := if sE l ≠ 0 then sE l else if dmE (l.getD 0 sk0).wr.length lo hi ≠ 0 then dmE (l.getD 0 sk0).wr.length lo hi else plE l mi den
theorem ppE_zero {l : List Sk} {lo hi mi : List Int} {den : Int} (h : ppE l lo hi mi den = 0) : sE l = 0 ∧ dmE (l.getD 0 sk0).wr.length lo hi = 0 ∧ plE l mi den = 0 := by
  unfold ppE at h
  by_cases g : sE l = 0
  · rw [if_neg (fun h => h g)] at h
    by_cases g' : dmE (l.getD 0 sk0).wr.length lo hi = 0
    · rw [if_neg (fun h => h g')] at h; exact ⟨g, g', h⟩
    · rw [if_pos g'] at h; exact (g' h).elim
  · rw [if_pos g] at h; exact (g h).elim
theorem first36 {b n1 n2 np : Bool} {m : Nat} {E : List (List AV)} {l : List Sk} {lo hi mi : List Int} {den : Int} (hV : StV l b m E) (hl : l.length < 1000000) (hlo : lo.length < 1000000) (hhi : hi.length < 1000000) (hmi : mi.length < 1000000) : ∀ (H : List Blk) (id x y z u v : Nat) (o nl o1 m1 o2 m2 o3 m3 o4 m4 o5 m5 : Bool), H[id]? = some (.cells o nl 1 [[.clo (.func 100) [] [.loc x 0 0]], [.clo (.func 105) [] [.loc y 0 0, .loc z 0 0]], [.clo (.func 106) [] [.loc v 0 0, .loc u 0 0]]]) → H[x]? = some (.cells o1 m1 1 [[.sl b m E]]) → H[y]? = some (.cells o2 m2 1 [[.sl b m E]]) → H[z]? = some (.cells o3 m3 2 [[ints n1 lo, ints n2 hi]]) → H[u]? = some (.cells o4 m4 1 [[.sl b m E]]) → H[v]? = some (.cells o5 m5 2 [[ints np mi, i64 den]]) →
      ACall Try.prog 69 [.lsl id 0 3] H fun r H' => r = i64 (ppE l lo hi mi den) ∧ Ext H H' := fun H id x y z u v o nl o1 m1 o2 m2 o3 m3 o4 m4 o5 m5 h1 h2 h3 h4 h5 h6 => by
  have := first3 h1 (k100 hV.p h2 hV.f) (e2 := dmE (l.getD 0 sk0).wr.length lo hi) (e3 := plE l mi den) (fun h0 => by
    obtain ⟨rfl, rfl⟩ := hV.g h0
    have hS := sE_ok h0
    exact k105 hS.pos (by have := hS.zon; omega) hlo hhi h3 h4) fun h0 _ => by
      obtain ⟨rfl, rfl⟩ := hV.g h0
      exact k106 hl hmi h5 h6
  exact this
set_option maxHeartbeats 8000000 in
theorem k36e {b n1 n2 np : Bool} {m : Nat} {E : List (List AV)} {l : List Sk} {lo hi mi : List Int} {den : Int} (hV : StV l b m E) (hl : l.length < 1000000) (hlo : lo.length < 1000000) (hhi : hi.length < 1000000) (hmi : mi.length < 1000000) (hne : ppE l lo hi mi den ≠ 0) : Fn Try.prog 36 [.sl b m E, dmV n1 lo n2 hi, plV np mi den] (.tup [i64 0, i64 (ppE l lo hi mi den)]) [] := by
  refine fn_of e36 ?_
  have h70 := k70 (b := b) (m := m) hV.p
  have h77 := k77 (b := b) (m := m) hV.p n1 n2 lo hi
  have h78 := k78 (b := b) (m := m) hV.p np mi den
  have hE := hV.p
  have hr := fun ρ => renR_plain ρ E hE
  have hcall := PLift.up (first36 (n1 := n1) (n2 := n2) (np := np) (den := den) hV hl hlo hhi hmi)
  have d0 : (ppE l lo hi mi den != 0) = true := by simp only [bne_iff_ne]; exact hne
  generalize ppE l lo hi mi den = R at *
  clear hV hne
  unfold c36
  repeat' (first
    | ((with_reducible refine T_calm ?_ ?_); rfl)
    | with_reducible first
      | refine T_seq ?_
      | refine T_reg ?_
      | refine T_draw ?_
      | refine T_skip ?_
      | refine T_exit ?_
      | refine T_block ?_
      | refine T_cond_t rfl ?_
      | refine T_cond_f rfl ?_
      | refine wdW_cons rfl ?_
      | (show wcall _ false (.lit (.func (.func 70) _ _)) _ _ _ _; refine wcall_fn (h70) rfl (by simp [plainL, plain, plainR, hE, hr, renR_ints]) ?_)
      | (show wcallX _ false (.lit (.func (.func 70) _ _)) _ _ _ _; refine wcallX_fn (h70) rfl (by simp [plainL, plain, hE]) ?_)
      | (show wcall _ false (.lit (.func (.func 77) _ _)) _ _ _ _; refine wcall_fn (h77) rfl (by simp [plainL, plain, plainR, hE, hr, renR_ints]) ?_)
      | (show wcallX _ false (.lit (.func (.func 77) _ _)) _ _ _ _; refine wcallX_fn (h77) rfl (by simp [plainL, plain, hE]) ?_)
      | (show wcall _ false (.lit (.func (.func 78) _ _)) _ _ _ _; refine wcall_fn (h78) rfl (by simp [plainL, plain, plainR, hE, hr, renR_ints]) ?_)
      | (show wcallX _ false (.lit (.func (.func 78) _ _)) _ _ _ _; refine wcallX_fn (h78) rfl (by simp [plainL, plain, hE]) ?_)
      | ((first | refine T_cond rfl (fun hc => ?_) (fun hc => ?_) | refine wguard_split (fun hc => ?_) (fun hc => ?_) | refine wguardX_split (fun hc => ?_) (fun hc => ?_)) <;> have hd := hc <;> (try simp (disch := omega) only [wrapI] at hd) <;> have hs := hd <;> (try simp only [Bool.not_eq_true', Bool.not_eq_false', Bool.and_eq_true, Bool.and_eq_false_iff, Bool.or_eq_true, Bool.or_eq_false_iff, decide_eq_true_eq, decide_eq_false_iff_not, beq_iff_eq, bne_iff_ne, beq_eq_false_iff_ne, bne_eq_false_iff_eq, Bool.not_true, Bool.not_false, gt_iff_lt, ge_iff_le, Int.not_lt, Int.not_le, ne_eq, Decidable.not_not] at hd) <;> (try simp at hs))
      | refine T_ret ?_
      | refine leave_of (.inr rfl) _ rfl ?_
      | refine leave_of (.inl rfl) _ rfl ?_
      | refine leaveA_of (.inr rfl) _ rfl ?_
      | refine leaveA_of (.inl rfl) _ rfl ?_
      | refine wif_intro ?_ (fun hc => ?_)
      | refine And.intro ?_ ?_
      | intro hc
    | simp (maxSteps := 4000000) only [wops_nil, wops_cons, wstep_none, wrun_mv, wrun_load, wrun_box, wrun_bslice, wrunX_mv, wrunX_load, wrunX_bslice, wstepX_none, wrunX_call, wop, aop, ev, look, put_some, writes, ores_some, thenK, value, cut, hget, fillA, putCells, AV.parts, isOne, toLits, mkAgg, List.flatten_cons, List.flatten_nil, rowsOf, List.map_cons, List.map_nil, List.length_cons, List.length_nil, List.getElem?_cons_zero, List.getElem?_cons_succ, List.set_cons_zero, List.set_cons_succ, List.take_succ_cons, List.take_zero, List.take_nil, List.drop_succ_cons, List.drop_zero, List.drop_nil, List.cons_append, List.nil_append, List.append_nil, List.replicate_zero, List.replicate_succ, List.getD_cons_zero, List.zipIdx_cons, List.zipIdx_nil, List.all_cons, List.all_nil, Option.getD_some, Option.map_some, if_true, if_false, Nat.reduceEqDiff, Nat.reduceAdd, Nat.reduceLeDiff, Nat.add_zero, Nat.zero_add, Nat.mul_one, Nat.le_refl, Nat.zero_ne_one, reduceCtorEq, Bool.and_true, eq_self, true_and, and_self, freeze, lidsL, lids, List.flatMap_cons, List.flatMap_nil, List.all_cons, ren, renL, renR, renB, shiftρ, renR_ints, renR_ints, *]
    | simp (disch := omega) only [getD_ints, wrapI]
    | (with_reducible show wcall _ false (.lit (.func (.func 70) _ _)) _ _ _ _; refine wcall_fn (h70) ?_ ?_ ?_; (next => simp [rfyL, rfy, hget, ints, take_rfy, hE, hr, renR_ints]); (next => simp [plainL, plain, plainR, hE, hr, renR_ints]))
    | (with_reducible show wcallX _ false (.lit (.func (.func 70) _ _)) _ _ _ _; refine wcallX_fn (h70) ?_ ?_ ?_; (next => simp [rfyL, rfy, hget, ints, take_rfy, hE, hr, renR_ints]); (next => simp [plainL, plain, plainR, hE, hr, renR_ints]))
    | (with_reducible show wcall _ false (.lit (.func (.func 77) _ _)) _ _ _ _; refine wcall_fn (h77) ?_ ?_ ?_; (next => simp [rfyL, rfy, hget, ints, take_rfy, hE, hr, renR_ints]); (next => simp [plainL, plain, plainR, hE, hr, renR_ints]))
    | (with_reducible show wcallX _ false (.lit (.func (.func 77) _ _)) _ _ _ _; refine wcallX_fn (h77) ?_ ?_ ?_; (next => simp [rfyL, rfy, hget, ints, take_rfy, hE, hr, renR_ints]); (next => simp [plainL, plain, plainR, hE, hr, renR_ints]))
    | (with_reducible show wcall _ false (.lit (.func (.func 78) _ _)) _ _ _ _; refine wcall_fn (h78) ?_ ?_ ?_; (next => simp [rfyL, rfy, hget, ints, take_rfy, hE, hr, renR_ints]); (next => simp [plainL, plain, plainR, hE, hr, renR_ints]))
    | (with_reducible show wcallX _ false (.lit (.func (.func 78) _ _)) _ _ _ _; refine wcallX_fn (h78) ?_ ?_ ?_; (next => simp [rfyL, rfy, hget, ints, take_rfy, hE, hr, renR_ints]); (next => simp [plainL, plain, plainR, hE, hr, renR_ints]))
    | omega)
  refine wcallX_raw (hcall.down _ 2 3 4 5 6 7 _ _ _ _ _ _ _ _ _ _ _ _ rfl rfl rfl rfl rfl rfl) ⟨_, _, rfl, Ext.refl _⟩ ?_
  rintro r H' ⟨rfl, _⟩
  clear hcall h70 h77 h78
  repeat' (first
    | ((with_reducible refine T_calm ?_ ?_); rfl)
    | with_reducible first
      | refine T_seq ?_
      | refine T_reg ?_
      | refine T_draw ?_
      | refine T_skip ?_
      | refine T_exit ?_
      | refine T_block ?_
      | refine T_cond_t rfl ?_
      | refine T_cond_f rfl ?_
      | refine wdW_cons rfl ?_
      | ((first | refine T_cond rfl (fun hc => ?_) (fun hc => ?_) | refine wguard_split (fun hc => ?_) (fun hc => ?_) | refine wguardX_split (fun hc => ?_) (fun hc => ?_)) <;> have hd := hc <;> (try simp (disch := omega) only [wrapI] at hd) <;> have hs := hd <;> (try simp only [Bool.not_eq_true', Bool.not_eq_false', Bool.and_eq_true, Bool.and_eq_false_iff, Bool.or_eq_true, Bool.or_eq_false_iff, decide_eq_true_eq, decide_eq_false_iff_not, beq_iff_eq, bne_iff_ne, beq_eq_false_iff_ne, bne_eq_false_iff_eq, Bool.not_true, Bool.not_false, gt_iff_lt, ge_iff_le, Int.not_lt, Int.not_le, ne_eq, Decidable.not_not] at hd) <;> (try simp at hs))
      | refine T_ret ?_
      | refine leave_of (.inr rfl) _ rfl ?_
      | refine leave_of (.inl rfl) _ rfl ?_
      | refine leaveA_of (.inr rfl) _ rfl ?_
      | refine leaveA_of (.inl rfl) _ rfl ?_
      | refine wif_intro ?_ (fun hc => ?_)
      | refine And.intro ?_ ?_
      | intro hc
    | simp (maxSteps := 4000000) only [wops_nil, wops_cons, wstep_none, wrun_mv, wrun_bin, wrunX_mv, wdW_nil, wstepX_none, get_mk, wop, aop, ev, look, put_some, writes, ores_some, binV, thenK, tupOf, List.append_nil, List.replicate_zero, Option.map_some, if_true, if_false, Nat.reduceEqDiff, reduceCtorEq, eq_self, ren, renL, *]
    | simp (disch := omega) only [getD_ints, wrapI]
    | omega)
  all_goals first | rfl
def fzP (n : Nat) (W lo hi : List Int) (den : Int) : Int := fstP (badZ W lo hi den) n
def cpE (l : List Sk) (lo hi mi : List Int) (den : Int) : Int := if ppE l lo hi mi den ≠ 0 then ppE l lo hi mi den else if fzP (l.getD 0 sk0).wr.length (pwL l mi) lo hi den = -1 then 0 else 26
def cpN (l : List Sk) (lo hi mi : List Int) (den : Int) : Int := if ppE l lo hi mi den ≠ 0 then 0 else if fzP (l.getD 0 sk0).wr.length (pwL l mi) lo hi den = -1 then tot mi mi.length else fzP (l.getD 0 sk0).wr.length (pwL l mi) lo hi den
set_option maxHeartbeats 8000000 in
theorem k36 {nil n1 n2 np : Bool} {l : List Sk} {lo hi mi : List Int} {den : Int} (hV : StV l nil 2 (skR l)) (hlo : lo.length < 1000000) (hhi : hi.length < 1000000) (hmi : mi.length < 1000000) (h0 : ppE l lo hi mi den = 0) : Fn Try.prog 36 [sts nil l, dmV n1 lo n2 hi, plV np mi den] (.tup [i64 (cpN l lo hi mi den), i64 (cpE l lo hi mi den)]) [] := by
  refine fn_of e36 ?_
  obtain ⟨z1, z2, z3⟩ := ppE_zero h0
  have hS := sE_ok z1
  have hD := dmE_ok z2
  have hP := plE_ok z3
  have hfew := hS.few
  have hz40 := hS.zon
  have h70 := k70 (b := nil) (m := 2) (plainR_sk l)
  have h77 := k77 (b := nil) (m := 2) (plainR_sk l) n1 n2 lo hi
  have h78 := k78 (b := nil) (m := 2) (plainR_sk l) np mi den
  have hcall := first36 (n1 := n1) (n2 := n2) (np := np) (den := den) hV (by omega) hlo hhi hmi
  rw [h0] at hcall
  have h79 := k79 nil np l mi den hS hP
  have h81 := k81 np mi (by have := hP.len; omega) hP.mn
  have eE : cpE l lo hi mi den = if fzP (l.getD 0 sk0).wr.length (pwL l mi) lo hi den = -1 then 0 else 26 := by unfold cpE; rw [if_neg (fun h => h h0)]
  have eN : cpN l lo hi mi den = if fzP (l.getD 0 sk0).wr.length (pwL l mi) lo hi den = -1 then tot mi mi.length else fzP (l.getD 0 sk0).wr.length (pwL l mi) lo hi den := by unfold cpN; rw [if_neg (fun h => h h0)]
  rw [eE, eN]
  have hWl : (pwL l mi).length = (l.getD 0 sk0).wr.length := fL_len _ _
  generalize pwL l mi = W at *
  have hrow := fun H id o0 o1 o2 h0 h1 h2 K k hk hE => k36l (np := np) (n1 := n1) (n2 := n2) (mi := mi) (id := id) (o0 := o0) (o1 := o1) (o2 := o2) (H := H) (bb := 0) hD (by omega) hP.den hWl h0 h1 h2 K (k := k) hk hE
  have hF1 : (∀ j, j < (l.getD 0 sk0).wr.length → badZ W lo hi den j = false) → fzP (l.getD 0 sk0).wr.length W lo hi den = -1 := fun h => fstP_no h
  have hF2 : ∀ k, k < (l.getD 0 sk0).wr.length → badZ W lo hi den k = true → (∀ j, j < k → badZ W lo hi den j = false) → fzP (l.getD 0 sk0).wr.length W lo hi den = k := fun k h1 h2 h3 => fstP_at h1 h2 h3
  generalize fzP (l.getD 0 sk0).wr.length W lo hi den = F at *
  generalize (l.getD 0 sk0).wr.length = n at *
  generalize tot mi mi.length = TT at *
  replace hcall := PLift.up hcall
  replace hrow := PLift.up hrow
  replace hF1 := PLift.up hF1
  replace hF2 := PLift.up hF2
  clear hV h0 z1 z2 z3 hS hD hP eE eN
  unfold c36
  repeat' (first
    | ((with_reducible refine T_calm ?_ ?_); rfl)
    | with_reducible first
      | refine T_seq ?_
      | refine T_reg ?_
      | refine T_draw ?_
      | refine T_skip ?_
      | refine T_exit ?_
      | refine T_block ?_
      | refine T_cond_t rfl ?_
      | refine T_cond_f rfl ?_
      | refine wdW_cons rfl ?_
      | (show wcall _ false (.lit (.func (.func 70) _ _)) _ _ _ _; refine wcall_fn (h70) rfl (by simp [plainL, plain, plainR, plainR_sk, renR_sk, renR_ints]) ?_)
      | (show wcallX _ false (.lit (.func (.func 70) _ _)) _ _ _ _; refine wcallX_fn (h70) rfl (by simp [plainL, plain, plainR_sk]) ?_)
      | (show wcall _ false (.lit (.func (.func 77) _ _)) _ _ _ _; refine wcall_fn (h77) rfl (by simp [plainL, plain, plainR, plainR_sk, renR_sk, renR_ints]) ?_)
      | (show wcallX _ false (.lit (.func (.func 77) _ _)) _ _ _ _; refine wcallX_fn (h77) rfl (by simp [plainL, plain, plainR_sk]) ?_)
      | (show wcall _ false (.lit (.func (.func 78) _ _)) _ _ _ _; refine wcall_fn (h78) rfl (by simp [plainL, plain, plainR, plainR_sk, renR_sk, renR_ints]) ?_)
      | (show wcallX _ false (.lit (.func (.func 78) _ _)) _ _ _ _; refine wcallX_fn (h78) rfl (by simp [plainL, plain, plainR_sk]) ?_)
      | ((first | refine T_cond rfl (fun hc => ?_) (fun hc => ?_) | refine wguard_split (fun hc => ?_) (fun hc => ?_) | refine wguardX_split (fun hc => ?_) (fun hc => ?_)) <;> have hd := hc <;> (try simp (disch := omega) only [wrapI] at hd) <;> have hs := hd <;> (try simp only [Bool.not_eq_true', Bool.not_eq_false', Bool.and_eq_true, Bool.and_eq_false_iff, Bool.or_eq_true, Bool.or_eq_false_iff, decide_eq_true_eq, decide_eq_false_iff_not, beq_iff_eq, bne_iff_ne, beq_eq_false_iff_ne, bne_eq_false_iff_eq, Bool.not_true, Bool.not_false, gt_iff_lt, ge_iff_le, Int.not_lt, Int.not_le, ne_eq, Decidable.not_not] at hd) <;> (try simp at hs))
      | refine T_ret ?_
      | refine leave_of (.inr rfl) _ rfl ?_
      | refine leave_of (.inl rfl) _ rfl ?_
      | refine leaveA_of (.inr rfl) _ rfl ?_
      | refine leaveA_of (.inl rfl) _ rfl ?_
      | refine wif_intro ?_ (fun hc => ?_)
      | refine And.intro ?_ ?_
      | intro hc
    | simp (maxSteps := 4000000) only [wops_nil, wops_cons, wstep_none, wrun_mv, wrun_load, wrun_box, wrun_bslice, wrunX_mv, wrunX_load, wrunX_bslice, wstepX_none, wrunX_call, wop, aop, ev, look, put_some, writes, ores_some, thenK, value, cut, hget, fillA, putCells, AV.parts, isOne, toLits, mkAgg, List.flatten_cons, List.flatten_nil, rowsOf, List.map_cons, List.map_nil, List.length_cons, List.length_nil, List.getElem?_cons_zero, List.getElem?_cons_succ, List.set_cons_zero, List.set_cons_succ, List.take_succ_cons, List.take_zero, List.take_nil, List.drop_succ_cons, List.drop_zero, List.drop_nil, List.cons_append, List.nil_append, List.append_nil, List.replicate_zero, List.replicate_succ, List.getD_cons_zero, List.zipIdx_cons, List.zipIdx_nil, List.all_cons, List.all_nil, Option.getD_some, Option.map_some, if_true, if_false, Nat.reduceEqDiff, Nat.reduceAdd, Nat.reduceLeDiff, Nat.add_zero, Nat.zero_add, Nat.mul_one, Nat.le_refl, Nat.zero_ne_one, reduceCtorEq, Bool.and_true, eq_self, true_and, and_self, Int.reduceNeg, freeze, lidsL, lids, List.flatMap_cons, List.flatMap_nil, List.all_cons, ren, renL, renR, renB, shiftρ, renR_ints, renR_sk, renR_ints, *]
    | simp (disch := omega) only [getD_ints, wrapI]
    | (with_reducible show wcall _ false (.lit (.func (.func 70) _ _)) _ _ _ _; refine wcall_fn (h70) ?_ ?_ ?_; (next => simp [rfyL, rfy, hget, ints, take_rfy, plainR_sk, renR_sk, renR_ints]); (next => simp [plainL, plain, plainR, plainR_sk, renR_sk, renR_ints]))
    | (with_reducible show wcallX _ false (.lit (.func (.func 70) _ _)) _ _ _ _; refine wcallX_fn (h70) ?_ ?_ ?_; (next => simp [rfyL, rfy, hget, ints, take_rfy, plainR_sk, renR_sk, renR_ints]); (next => simp [plainL, plain, plainR, plainR_sk, renR_sk, renR_ints]))
    | (with_reducible show wcall _ false (.lit (.func (.func 77) _ _)) _ _ _ _; refine wcall_fn (h77) ?_ ?_ ?_; (next => simp [rfyL, rfy, hget, ints, take_rfy, plainR_sk, renR_sk, renR_ints]); (next => simp [plainL, plain, plainR, plainR_sk, renR_sk, renR_ints]))
    | (with_reducible show wcallX _ false (.lit (.func (.func 77) _ _)) _ _ _ _; refine wcallX_fn (h77) ?_ ?_ ?_; (next => simp [rfyL, rfy, hget, ints, take_rfy, plainR_sk, renR_sk, renR_ints]); (next => simp [plainL, plain, plainR, plainR_sk, renR_sk, renR_ints]))
    | (with_reducible show wcall _ false (.lit (.func (.func 78) _ _)) _ _ _ _; refine wcall_fn (h78) ?_ ?_ ?_; (next => simp [rfyL, rfy, hget, ints, take_rfy, plainR_sk, renR_sk, renR_ints]); (next => simp [plainL, plain, plainR, plainR_sk, renR_sk, renR_ints]))
    | (with_reducible show wcallX _ false (.lit (.func (.func 78) _ _)) _ _ _ _; refine wcallX_fn (h78) ?_ ?_ ?_; (next => simp [rfyL, rfy, hget, ints, take_rfy, plainR_sk, renR_sk, renR_ints]); (next => simp [plainL, plain, plainR, plainR_sk, renR_sk, renR_ints]))
    | omega)
  refine wcallX_raw (hcall.down _ 2 3 4 5 6 7 _ _ _ _ _ _ _ _ _ _ _ _ rfl rfl rfl rfl rfl rfl) ⟨_, _, rfl, Ext.refl _⟩ ?_
  rintro r H' ⟨rfl, hx⟩
  obtain ⟨q0, g0⟩ := hx.cell (id := 0) rfl
  obtain ⟨q1, g1⟩ := hx.cell (id := 1) rfl
  clear hcall h70 h77 h78 hx
  obtain ⟨u1, u2, u3, u4⟩ := cells_sub (X := []) (H := H') rfl
  have a0 := at_in g0
  have a1 := at_in g1
  repeat' (first
    | ((with_reducible refine T_calm ?_ ?_); rfl)
    | with_reducible first
      | refine T_seq ?_
      | refine T_reg ?_
      | refine T_draw ?_
      | refine T_skip ?_
      | refine T_exit ?_
      | refine T_block ?_
      | refine T_cond_t rfl ?_
      | refine T_cond_f rfl ?_
      | refine wdW_cons rfl ?_
      | (show wcall _ false (.lit (.func (.func 79) _ _)) _ _ _ _; refine wcall_fn (h79) rfl (by simp [plainL, plain, plainR_sk]) ?_)
      | (show wcallX _ false (.lit (.func (.func 79) _ _)) _ _ _ _; refine wcallX_fn (h79) rfl (by simp [plainL, plain, plainR, plainR_sk, renR_ints]) ?_)
      | ((first | refine T_cond rfl (fun hc => ?_) (fun hc => ?_) | refine wguard_split (fun hc => ?_) (fun hc => ?_) | refine wguardX_split (fun hc => ?_) (fun hc => ?_)) <;> have hd := hc <;> (try simp (disch := omega) only [wrapI] at hd) <;> have hs := hd <;> (try simp only [Bool.not_eq_true', Bool.not_eq_false', Bool.and_eq_true, Bool.and_eq_false_iff, Bool.or_eq_true, Bool.or_eq_false_iff, decide_eq_true_eq, decide_eq_false_iff_not, beq_iff_eq, bne_iff_ne, beq_eq_false_iff_ne, bne_eq_false_iff_eq, Bool.not_true, Bool.not_false, gt_iff_lt, ge_iff_le, Int.not_lt, Int.not_le, ne_eq, Decidable.not_not] at hd) <;> (try simp at hs))
      | refine T_ret ?_
      | refine leave_of (.inr rfl) _ rfl ?_
      | refine leave_of (.inl rfl) _ rfl ?_
      | refine leaveA_of (.inr rfl) _ rfl ?_
      | refine leaveA_of (.inl rfl) _ rfl ?_
      | refine wif_intro ?_ (fun hc => ?_)
      | refine And.intro ?_ ?_
      | intro hc
    | simp (maxSteps := 4000000) only [wops_nil, wops_cons, wstep_none, wrun_call, wrun_mv, wrun_bin, wrun_load, wrun_len, wrunX_mv, wdW_nil, wstepX_none, wop, aop, ev, look, put_some, writes, ores_some, binV, thenK, intV, lenOf, value, cut, hget, toLits, mkAgg, List.map_cons, List.map_nil, List.length_cons, List.length_nil, List.getElem?_cons_zero, List.take_succ_cons, List.take_nil, List.drop_zero, List.append_nil, List.replicate_zero, List.getD_cons_zero, Option.pure_def, Option.bind_eq_bind, Option.getD_some, Option.map_some, Option.bind_some, if_true, if_false, Nat.reduceEqDiff, Nat.reduceAdd, Nat.zero_add, reduceCtorEq, eq_self, Int.reduceNeg, freeze, lidsL, lids, List.flatMap_cons, List.flatMap_nil, ren, renB, shiftρ, renR_ints, renR_ints, *]
    | simp (disch := omega) only [getD_ints, wrapI]
    | (with_reducible show wcall _ false (.lit (.func (.func 79) _ _)) _ _ _ _; refine wcall_fn (h79) ?_ ?_ ?_; (next => simp [rfyL, rfy, hget, ints, take_rfy, plainR_sk, renR_ints]); (next => simp [plainL, plain, plainR, plainR_sk, renR_ints]))
    | (with_reducible show wcallX _ false (.lit (.func (.func 79) _ _)) _ _ _ _; refine wcallX_fn (h79) ?_ ?_ ?_; (next => simp [rfyL, rfy, hget, ints, take_rfy, plainR_sk, renR_ints]); (next => simp [plainL, plain, plainR, plainR_sk, renR_ints]))
    | omega)
  refine T_forP [4, 5, 26, 27, 28] (fun k => [(4, .loc 0 0 0), (5, .loc 1 0 0), (26, .lsl H'.length 0 n), (27, i64 n), (28, i64 k)]) n (fun k H => H = H' ++ [.cells true false 1 (W.map fun x => [i64 x])] ∧ ∀ j, j < k → badZ W lo hi den j = false) 0 ?_ ⟨rfl, fun j hj => by omega⟩ (Nat.zero_le _) ?_
  · simp [St.only, get_mk, look]
  clear h79
  intro k H hk ⟨hHe, hI⟩
  subst hHe
  by_cases hkn : k < n
  · refine T_thenR (hrow.down _ H'.length _ _ _ (a0 _) (a1 _) (u1 _) _ k hkn fun hb τ t6 t7 => ?_) fun s' hs => ⟨hkn, ⟨hs.2.1, fun j hj => ?_⟩, hs.2.2⟩
    · have hFk := hF2.down k hkn hb hI
      have h8 : leave 0 [.tmp 6, .tmp 7] (fun r' H' => r' = .tup [i64 (if F = -1 then TT else F), i64 (if F = -1 then 0 else 26)] ∧ H' = []) .ret τ := leave_of (.inr rfl) [i64 k, i64 26] (by simp [resL, resAV, t6, t7]) ⟨by rw [hFk, if_neg (by omega), if_neg (by omega)]; rfl, rfl⟩
      exact h8
    · rcases Nat.lt_succ_iff_lt_or_eq.1 hj with h | rfl
      · exact hI j h
      · exact hs.1
  · have hke : k = n := by omega
    subst hke
    have hFk := hF1.down hI
    subst hFk
    have hkk : decide ((k : Int) < (k : Int)) = false := by simp
    clear hI hF1 hF2 hrow
    unfold c36l0
    repeat' (first
      | ((with_reducible refine T_calm ?_ ?_); rfl)
      | with_reducible first
        | refine T_seq ?_
        | refine T_reg ?_
        | refine T_draw ?_
        | refine T_skip ?_
        | refine T_exit ?_
        | refine T_block ?_
        | refine T_cond_t rfl ?_
        | refine T_cond_f rfl ?_
        | refine wdW_cons rfl ?_
        | (show wcall _ false (.lit (.func (.func 81) _ _)) _ _ _ _; refine wcall_fn (h81) rfl (by simp [plainL, plain]) ?_)
        | (show wcallX _ false (.lit (.func (.func 81) _ _)) _ _ _ _; refine wcallX_fn (h81) rfl (by simp [plainL, plain, plainR, Int.toNat_natCast]) ?_)
        | ((first | refine T_cond rfl (fun hc => ?_) (fun hc => ?_) | refine wguard_split (fun hc => ?_) (fun hc => ?_) | refine wguardX_split (fun hc => ?_) (fun hc => ?_)) <;> have hd := hc <;> (try simp (disch := omega) only [wrapI] at hd) <;> have hs := hd <;> (try simp only [Bool.not_eq_true', Bool.not_eq_false', Bool.and_eq_true, Bool.and_eq_false_iff, Bool.or_eq_true, Bool.or_eq_false_iff, decide_eq_true_eq, decide_eq_false_iff_not, beq_iff_eq, bne_iff_ne, beq_eq_false_iff_ne, bne_eq_false_iff_eq, Bool.not_true, Bool.not_false, gt_iff_lt, ge_iff_le, Int.not_lt, Int.not_le, ne_eq, Decidable.not_not] at hd) <;> (try simp at hs))
        | refine T_ret ?_
        | refine leave_of (.inr rfl) _ rfl ?_
        | refine leave_of (.inl rfl) _ rfl ?_
        | refine leaveA_of (.inr rfl) _ rfl ?_
        | refine leaveA_of (.inl rfl) _ rfl ?_
        | refine wif_intro ?_ (fun hc => ?_)
        | refine And.intro ?_ ?_
        | intro hc
      | simp (maxSteps := 4000000) only [wops_nil, wops_cons, wstep_none, wrun_call, wrun_mv, wrun_bin, wrun_load, wrun_faddr, get_mk, wop, aop, ev, look, put_some, writes, ores_some, binV, thenK, blockK, value, cut, hget, mkAgg, tupOf, List.map_cons, List.map_nil, List.length_cons, List.length_nil, List.take_succ_cons, List.take_zero, List.drop_zero, List.append_nil, List.replicate_zero, List.getD_cons_zero, List.length_append, Option.getD_some, Option.map_some, if_true, if_false, Nat.reduceEqDiff, Nat.add_zero, Nat.zero_add, reduceCtorEq, Bool.false_eq_true, eq_self, false_and, Int.reduceNeg, freeze, lidsL, lids, List.flatMap_cons, List.flatMap_nil, ren, renL, Int.toNat_natCast, *]
      | simp (disch := omega) only [getD_ints, wrapI]
      | (with_reducible show wcall _ false (.lit (.func (.func 81) _ _)) _ _ _ _; refine wcall_fn (h81) ?_ ?_ ?_; (next => simp [rfyL, rfy, hget, ints, take_rfy, Int.toNat_natCast]); (next => simp [plainL, plain, plainR, Int.toNat_natCast]))
      | (with_reducible show wcallX _ false (.lit (.func (.func 81) _ _)) _ _ _ _; refine wcallX_fn (h81) ?_ ?_ ?_; (next => simp [rfyL, rfy, hget, ints, take_rfy, Int.toNat_natCast]); (next => simp [plainL, plain, plainR, Int.toNat_natCast]))
      | omega)
    all_goals first | rfl
end Go.Abs
