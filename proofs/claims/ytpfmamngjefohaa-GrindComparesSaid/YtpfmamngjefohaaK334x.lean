import Derived.Test.YtpfmamngjefohaaK333x
set_option linter.all false
set_option linter.unusedVariables false
set_option linter.unusedSimpArgs false
set_option linter.unusedSectionVars false
namespace Go.Abs
open Go.Proofs
/-! CheckPlan of the reference -/
set_option maxHeartbeats 8000000 in
theorem k42l {nil np n1 n2 : Bool} {l : List Sk} {mi lo hi : List Int} {den : Int} (hS : SOk l) (hP : POk l mi den) (hD : DOk (l.getD 0 sk0).wr.length lo hi) (K : Exit → St → Prop) {k : Nat} (hk : k < (l.getD 0 sk0).wr.length)
    (hE : badZ (pwL l mi) lo hi den k = true → ∀ τ : St, τ.get 6 = i64 k → τ.get 7 = i64 26 → K .ret τ) {bb : Nat} :
    T none Try.prog muts 63 bb c42l0 ⟨[(0, sts nil l), (4, .loc 0 0 0), (5, .loc 1 0 0), (9, i64 k)], [.cells true false 2 [[ints n1 lo, ints n2 hi]], .cells true false 2 [[ints np mi, i64 den]]]⟩ (thenK (fun s' => badZ (pwL l mi) lo hi den k = false ∧ s'.heap = [.cells true false 2 [[ints n1 lo, ints n2 hi]], .cells true false 2 [[ints np mi, i64 den]]] ∧ (s'.only [0, 4, 5, 9]).slots = [(0, sts nil l), (4, .loc 0 0 0), (5, .loc 1 0 0), (9, i64 ((k + 1 : Nat) : Int))]) K) := by
  have hll := (by simp : (lo.map fun x => [i64 x]).length = lo.length)
  have hlh := (by simp : (hi.map fun x => [i64 x]).length = hi.length)
  have g1 : (lo.map fun x => [i64 x]).getD k [] = [i64 (lo.getD k 0)] := getD_ints (by rw [hD.l1]; exact hk)
  have g2 : (hi.map fun x => [i64 x]).getD k [] = [i64 (hi.getD k 0)] := getD_ints (by rw [hD.l2]; exact hk)
  have hkl : (k : Int) < (lo.length : Int) := by rw [hD.l1]; omega
  have hkh : (k : Int) < (hi.length : Int) := by rw [hD.l2]; omega
  have hden := hP.den
  have hz40 := hS.zon
  have hl40 : lo.length ≤ 40 := by rw [hD.l1]; omega
  have b1 := mul_bd (hD.r1 k hk) (B := 10000000) (b := den) (by omega)
  have b2 := mul_bd (hD.r2 k hk) (B := 10000000) (b := den) (by omega)
  have ew1 : IntKind.i64.wrap (lo.getD k 0 * den) = lo.getD k 0 * den := wrapI (by omega) (by omega)
  have ew2 : IntKind.i64.wrap (hi.getD k 0 * den) = hi.getD k 0 * den := wrapI (by omega) (by omega)
  have h82 := k82 nil np l mi den hS hP hk
  have eW : (pwL l mi).getD k 0 = pwz l mi l.length k := fL_get _ hk
  rw [← eW] at h82
  have h15 := k15 ((pwL l mi).getD k 0) (lo.getD k 0 * den) (hi.getD k 0 * den)
  have eb : badZ (pwL l mi) lo hi den k = !(decide (lo.getD k 0 * den ≤ (pwL l mi).getD k 0) && decide ((pwL l mi).getD k 0 ≤ hi.getD k 0 * den)) := rfl
  generalize badZ (pwL l mi) lo hi den k = B at *
  generalize (pwL l mi).getD k 0 = wv at *
  clear hD b1 b2 hden eW hS hP hz40 hk
  cases a1 : (decide (lo.getD k 0 * den ≤ wv) && decide (wv ≤ hi.getD k 0 * den)) with
  | true =>
    rw [a1] at h15 eb
    simp only [Bool.not_true] at eb
    subst eb
    clear hE a1
    generalize lo.getD k 0 = lv at *
    generalize hi.getD k 0 = hv at *
    unfold c42l0
    repeat' (first
      | ((with_reducible refine T_calm ?_ ?_); rfl)
      | with_reducible first
        | refine T_seq ?_
        | refine T_reg ?_
        | refine T_draw ?_
        | refine T_skip ?_
        | refine T_exit ?_
        | refine T_block ?_
        | refine T_cond_t rfl ?_
        | refine T_cond_f rfl ?_
        | refine wdW_cons rfl ?_
        | (show wcall _ false (.lit (.func (.func 82) _ _)) _ _ _ _; refine wcall_fn (h82) rfl (by simp [plainL, plain, plainR, Int.toNat_natCast, plainR_sk]) ?_)
        | (show wcallX _ false (.lit (.func (.func 82) _ _)) _ _ _ _; refine wcallX_fn (h82) rfl (by simp [plainL, plain, plainR_sk]) ?_)
        | (show wcall _ false (.lit (.func (.func 15) _ _)) _ _ _ _; refine wcall_fn (h15) rfl (by simp [plainL, plain, plainR, Int.toNat_natCast, plainR_sk]) ?_)
        | (show wcallX _ false (.lit (.func (.func 15) _ _)) _ _ _ _; refine wcallX_fn (h15) rfl (by simp [plainL, plain]) ?_)
        | ((first | refine T_cond rfl (fun hc => ?_) (fun hc => ?_) | refine wguard_split (fun hc => ?_) (fun hc => ?_) | refine wguardX_split (fun hc => ?_) (fun hc => ?_)) <;> have hd := hc <;> (try simp (disch := omega) only [wrapI] at hd) <;> have hs := hd <;> (try simp only [Bool.not_eq_true', Bool.not_eq_false', Bool.and_eq_true, Bool.and_eq_false_iff, Bool.or_eq_true, Bool.or_eq_false_iff, decide_eq_true_eq, decide_eq_false_iff_not, beq_iff_eq, bne_iff_ne, beq_eq_false_iff_ne, bne_eq_false_iff_eq, Bool.not_true, Bool.not_false, gt_iff_lt, ge_iff_le, Int.not_lt, Int.not_le, ne_eq, Decidable.not_not] at hd) <;> (try simp at hs))
        | refine T_ret ?_
        | refine wif_intro ?_ (fun hc => ?_)
        | refine And.intro ?_ ?_
        | intro hc
      | simp (maxSteps := 4000000) only [wops_nil, wops_cons, wstep_none, wrun_mv, wrun_bin, wrun_not, wrun_load, wrun_faddr, wrun_iaddrS, wrun_len, wrunX_mv, wrunX_bin, wrunX_not, wrunX_load, wrunX_faddr, wrunX_iaddrS, wdW_nil, wstepX_none, wrunX_call, wop, aop, ev, look, put_some, writes, ores_some, ores_ite_none, ores_map, ores_bind, binV, thenK, blockK, boolV, intV, lenOf, value, cut, hget, toLits, mkAgg, List.map_cons, List.map_nil, List.length_cons, List.length_nil, List.getElem?_cons_zero, List.getElem?_cons_succ, List.take_succ_cons, List.take_zero, List.take_nil, List.drop_succ_cons, List.drop_zero, List.append_nil, List.replicate_zero, List.getD_cons_zero, Option.pure_def, Option.bind_eq_bind, Option.getD_some, Option.map_some, if_true, if_false, Nat.reduceEqDiff, Nat.reduceAdd, Nat.add_zero, Nat.zero_add, reduceCtorEq, Bool.not_true, Bool.false_eq_true, eq_self, true_and, and_true, and_self, decide_true, freeze, lidsL, lids, List.flatMap_cons, List.flatMap_nil, ren, Int.toNat_natCast, *]
      | simp (disch := omega) only [wrapI]
      | (with_reducible show wcall _ false (.lit (.func (.func 82) _ _)) _ _ _ _; refine wcall_fn (h82) ?_ ?_ ?_; (next => simp [rfyL, rfy, hget, ints, take_rfy, Int.toNat_natCast, plainR_sk]); (next => simp [plainL, plain, plainR, Int.toNat_natCast, plainR_sk]))
      | (with_reducible show wcallX _ false (.lit (.func (.func 82) _ _)) _ _ _ _; refine wcallX_fn (h82) ?_ ?_ ?_; (next => simp [rfyL, rfy, hget, ints, take_rfy, Int.toNat_natCast, plainR_sk]); (next => simp [plainL, plain, plainR, Int.toNat_natCast, plainR_sk]))
      | (with_reducible show wcall _ false (.lit (.func (.func 15) _ _)) _ _ _ _; refine wcall_fn (h15) ?_ ?_ ?_; (next => simp [rfyL, rfy, hget, ints, take_rfy, Int.toNat_natCast, plainR_sk]); (next => simp [plainL, plain, plainR, Int.toNat_natCast, plainR_sk]))
      | (with_reducible show wcallX _ false (.lit (.func (.func 15) _ _)) _ _ _ _; refine wcallX_fn (h15) ?_ ?_ ?_; (next => simp [rfyL, rfy, hget, ints, take_rfy, Int.toNat_natCast, plainR_sk]); (next => simp [plainL, plain, plainR, Int.toNat_natCast, plainR_sk]))
      | (with_reducible refine wdW_cons ?_ ?_; (next => simp [chk, foot, compatB, argsOf, St.get, target, ev, look, lidsL, hget, kind, AOp.isRaw, wids, wtops, tops, opds, topId, Int.toNat_natCast, plainR_sk]; done))
      | omega)
    all_goals first | rfl | (simp [St.only, get_mk, look]; done)
  | false =>
    rw [a1] at h15 eb
    have f := PLift.up (hE eb)
    clear hE a1 eb
    generalize lo.getD k 0 = lv at *
    generalize hi.getD k 0 = hv at *
    unfold c42l0
    repeat' (first
      | ((with_reducible refine T_calm ?_ ?_); rfl)
      | with_reducible first
        | refine T_seq ?_
        | refine T_reg ?_
        | refine T_draw ?_
        | refine T_skip ?_
        | refine T_exit ?_
        | refine T_block ?_
        | refine T_cond_t rfl ?_
        | refine T_cond_f rfl ?_
        | refine wdW_cons rfl ?_
        | (show wcall _ false (.lit (.func (.func 82) _ _)) _ _ _ _; refine wcall_fn (h82) rfl (by simp [plainL, plain, plainR, Int.toNat_natCast, plainR_sk]) ?_)
        | (show wcallX _ false (.lit (.func (.func 82) _ _)) _ _ _ _; refine wcallX_fn (h82) rfl (by simp [plainL, plain, plainR_sk]) ?_)
        | (show wcall _ false (.lit (.func (.func 15) _ _)) _ _ _ _; refine wcall_fn (h15) rfl (by simp [plainL, plain, plainR, Int.toNat_natCast, plainR_sk]) ?_)
        | (show wcallX _ false (.lit (.func (.func 15) _ _)) _ _ _ _; refine wcallX_fn (h15) rfl (by simp [plainL, plain]) ?_)
        | ((first | refine T_cond rfl (fun hc => ?_) (fun hc => ?_) | refine wguard_split (fun hc => ?_) (fun hc => ?_) | refine wguardX_split (fun hc => ?_) (fun hc => ?_)) <;> have hd := hc <;> (try simp (disch := omega) only [wrapI] at hd) <;> have hs := hd <;> (try simp only [Bool.not_eq_true', Bool.not_eq_false', Bool.and_eq_true, Bool.and_eq_false_iff, Bool.or_eq_true, Bool.or_eq_false_iff, decide_eq_true_eq, decide_eq_false_iff_not, beq_iff_eq, bne_iff_ne, beq_eq_false_iff_ne, bne_eq_false_iff_eq, Bool.not_true, Bool.not_false, gt_iff_lt, ge_iff_le, Int.not_lt, Int.not_le, ne_eq, Decidable.not_not] at hd) <;> (try simp at hs))
        | refine T_ret ?_
        | refine wif_intro ?_ (fun hc => ?_)
        | refine And.intro ?_ ?_
        | intro hc
      | simp (maxSteps := 4000000) only [wops_nil, wops_cons, wstep_none, wrun_mv, wrun_bin, wrun_not, wrun_load, wrun_faddr, wrun_iaddrS, wrun_len, wrunX_mv, wrunX_bin, wrunX_not, wrunX_load, wrunX_faddr, wrunX_iaddrS, wdW_nil, wstepX_none, wrunX_call, wop, aop, ev, look, put_some, writes, ores_some, ores_ite_none, ores_map, ores_bind, binV, thenK, blockK, boolV, intV, lenOf, value, cut, hget, toLits, mkAgg, List.map_cons, List.map_nil, List.length_cons, List.length_nil, List.getElem?_cons_zero, List.getElem?_cons_succ, List.take_succ_cons, List.take_zero, List.take_nil, List.drop_succ_cons, List.drop_zero, List.append_nil, List.replicate_zero, List.getD_cons_zero, Option.pure_def, Option.bind_eq_bind, Option.getD_some, Option.map_some, if_true, if_false, Nat.reduceEqDiff, Nat.reduceAdd, Nat.add_zero, Nat.zero_add, reduceCtorEq, Bool.not_false, Bool.false_eq_true, eq_self, and_true, and_self, decide_true, freeze, lidsL, lids, List.flatMap_cons, List.flatMap_nil, ren, Int.toNat_natCast, *]
      | simp (disch := omega) only [getD_ints, wrapI]
      | (with_reducible show wcall _ false (.lit (.func (.func 82) _ _)) _ _ _ _; refine wcall_fn (h82) ?_ ?_ ?_; (next => simp [rfyL, rfy, hget, ints, take_rfy, Int.toNat_natCast, plainR_sk]); (next => simp [plainL, plain, plainR, Int.toNat_natCast, plainR_sk]))
      | (with_reducible show wcallX _ false (.lit (.func (.func 82) _ _)) _ _ _ _; refine wcallX_fn (h82) ?_ ?_ ?_; (next => simp [rfyL, rfy, hget, ints, take_rfy, Int.toNat_natCast, plainR_sk]); (next => simp [plainL, plain, plainR, Int.toNat_natCast, plainR_sk]))
      | (with_reducible show wcall _ false (.lit (.func (.func 15) _ _)) _ _ _ _; refine wcall_fn (h15) ?_ ?_ ?_; (next => simp [rfyL, rfy, hget, ints, take_rfy, Int.toNat_natCast, plainR_sk]); (next => simp [plainL, plain, plainR, Int.toNat_natCast, plainR_sk]))
      | (with_reducible show wcallX _ false (.lit (.func (.func 15) _ _)) _ _ _ _; refine wcallX_fn (h15) ?_ ?_ ?_; (next => simp [rfyL, rfy, hget, ints, take_rfy, Int.toNat_natCast, plainR_sk]); (next => simp [plainL, plain, plainR, Int.toNat_natCast, plainR_sk]))
      | (with_reducible refine wdW_cons ?_ ?_; (next => simp [chk, foot, compatB, argsOf, St.get, target, ev, look, lidsL, hget, kind, AOp.isRaw, wids, wtops, tops, opds, topId, Int.toNat_natCast, plainR_sk]; done))
      | omega)
    all_goals first | exact f.down _ rfl rfl
set_option maxHeartbeats 8000000 in
theorem k42in {np n1 n2 : Bool} {mi lo hi : List Int} {den : Int} (hl : mi.length ≤ 1000) (hm : ∀ k, k < mi.length → 0 ≤ mi.getD k 0 ∧ mi.getD k 0 ≤ 1000000000) (K : Exit → St → Prop) (hN : ∀ τ : St, (τ.only [10]).slots = [(10, i64 (tot mi mi.length))] → K (.exit 2) τ)
    {σ : St} (h0 : (σ.only [5, 10, 11]).slots = [(5, .loc 1 0 0), (10, i64 0), (11, i64 0)]) (hH : σ.heap = [.cells true false 2 [[ints n1 lo, ints n2 hi]], .cells true false 2 [[ints np mi, i64 den]]]) {bb : Nat} : T none Try.prog muts 63 bb (.loop c42l1) σ K := by
  have hml := (by simp : (mi.map fun x => [i64 x]).length = mi.length)
  have hb := PLift.up (tot_bd hm)
  have hh := PLift.up hm
  clear hm
  refine T_forP [5, 10, 11] (fun k => [(5, .loc 1 0 0), (10, i64 (tot mi k)), (11, i64 k)]) mi.length (fun z H => H = [.cells true false 2 [[ints n1 lo, ints n2 hi]], .cells true false 2 [[ints np mi, i64 den]]]) 0 (by rw [h0]; rfl) hH (Nat.zero_le _) ?_
  clear h0 hH
  intro z H hz hHe
  subst hHe
  by_cases hzn : z < mi.length
  · have g2 : (mi.map fun x => [i64 x]).getD z [] = [i64 (mi.getD z 0)] := getD_ints hzn
    have h1 := hb.down z (by omega)
    have h2 := hh.down z hzn
    have ew : IntKind.i64.wrap (tot mi z + mi.getD z 0) = tot mi (z + 1) := wrapI (by omega) (by omega)
    generalize tot mi (z + 1) = T2 at *
    generalize tot mi z = T1 at *
    generalize mi.getD z 0 = x at *
    clear hb hh h1 h2 hN
    unfold c42l1
    repeat' (first
      | ((with_reducible refine T_calm ?_ ?_); rfl)
      | with_reducible first
        | refine T_seq ?_
        | refine T_reg ?_
        | refine T_draw ?_
        | refine T_skip ?_
        | refine T_exit ?_
        | refine T_block ?_
        | refine T_cond_t rfl ?_
        | refine T_cond_f rfl ?_
        | refine wdW_cons rfl ?_
        | ((first | refine T_cond rfl (fun hc => ?_) (fun hc => ?_) | refine wguard_split (fun hc => ?_) (fun hc => ?_) | refine wguardX_split (fun hc => ?_) (fun hc => ?_)) <;> have hd := hc <;> (try simp (disch := omega) only [wrapI] at hd) <;> have hs := hd <;> (try simp only [decide_eq_true_eq, decide_eq_false_iff_not, Int.not_lt] at hd) <;> (try simp at hs))
        | refine T_ret ?_
        | refine wif_intro ?_ (fun hc => ?_)
        | refine And.intro ?_ ?_
        | intro hc
      | simp (maxSteps := 4000000) only [wops_nil, wops_cons, wstep_none, wrun_mv, wrun_bin, wrun_load, wrun_faddr, wrun_iaddrS, wrun_len, wop, aop, ev, look, put_some, writes, ores_some, ores_ite_none, ores_map, ores_bind, binV, thenK, blockK, intV, lenOf, value, cut, hget, mkAgg, List.length_cons, List.length_nil, List.getElem?_cons_zero, List.getElem?_cons_succ, List.take_succ_cons, List.take_zero, List.take_nil, List.drop_zero, List.append_nil, List.replicate_zero, List.getD_cons_zero, Option.pure_def, Option.bind_eq_bind, Option.getD_some, Option.map_some, if_true, if_false, Nat.reduceEqDiff, Nat.reduceAdd, Nat.add_zero, Nat.zero_add, reduceCtorEq, Bool.false_eq_true, eq_self, true_and, and_true, and_self, decide_true, Int.toNat_natCast, *]
      | simp (disch := omega) only [wrapI]
      | omega)
    all_goals first | rfl | (simp [St.only, get_mk, look]; done)
  · have hze : z = mi.length := by omega
    subst hze
    have f := PLift.up hN
    clear hb hh hN
    unfold c42l1
    repeat' (first
      | ((with_reducible refine T_calm ?_ ?_); rfl)
      | with_reducible first
        | refine T_seq ?_
        | refine T_reg ?_
        | refine T_draw ?_
        | refine T_skip ?_
        | refine T_exit ?_
        | refine T_block ?_
        | refine T_cond_t rfl ?_
        | refine T_cond_f rfl ?_
        | refine wdW_cons rfl ?_
        | ((first | refine T_cond rfl (fun hc => ?_) (fun hc => ?_) | refine wguard_split (fun hc => ?_) (fun hc => ?_) | refine wguardX_split (fun hc => ?_) (fun hc => ?_)) <;> have hd := hc <;> (try simp (disch := omega) only [wrapI] at hd) <;> have hs := hd <;> (try simp only [decide_eq_true_eq, decide_eq_false_iff_not, Int.not_lt] at hd) <;> (try simp at hs))
        | refine T_ret ?_
        | refine wif_intro ?_ (fun hc => ?_)
        | refine And.intro ?_ ?_
        | intro hc
      | simp (maxSteps := 4000000) only [wops_nil, wops_cons, wstep_none, wrun_mv, wrun_bin, wrun_load, wrun_faddr, wrun_len, wop, aop, ev, look, put_some, writes, ores_some, ores_map, ores_bind, binV, thenK, intV, lenOf, value, cut, hget, mkAgg, List.length_cons, List.length_nil, List.getElem?_cons_zero, List.getElem?_cons_succ, List.take_succ_cons, List.take_zero, List.drop_zero, List.append_nil, List.replicate_zero, List.getD_cons_zero, Option.pure_def, Option.bind_eq_bind, Option.getD_some, Option.map_some, if_true, if_false, Nat.reduceEqDiff, Nat.reduceAdd, Nat.add_zero, Nat.zero_add, reduceCtorEq, Bool.false_eq_true, eq_self, false_and, *]
      | simp (disch := omega) only [getD_ints, wrapI]
      | omega)
    all_goals first | exact f.down _ (by simp [St.only, get_mk, look])
set_option maxHeartbeats 8000000 in
theorem k42 {nil n1 n2 np : Bool} {l : List Sk} {lo hi mi : List Int} {den : Int} (hS : SOk l) (hD : DOk (l.getD 0 sk0).wr.length lo hi) (hmi : mi.length < 1000000) : Fn Try.prog 42 [sts nil l, dmV n1 lo n2 hi, plV np mi den] (.tup [i64 (if plE l mi den ≠ 0 then 0 else if fzP (l.getD 0 sk0).wr.length (pwL l mi) lo hi den = -1 then tot mi mi.length else fzP (l.getD 0 sk0).wr.length (pwL l mi) lo hi den), i64 (if plE l mi den ≠ 0 then plE l mi den else if fzP (l.getD 0 sk0).wr.length (pwL l mi) lo hi den = -1 then 0 else 26)]) [] := by
  refine fn_of e42 ?_
  have hfew := hS.few
  have h39 := k39 nil np l mi den (by omega) hmi
  have hll := (by simp : (lo.map fun x => [i64 x]).length = lo.length)
  by_cases h0 : plE l mi den = 0
  · have hz9 : ¬(plE l mi den ≠ 0) := fun h => h h0
    rw [if_neg hz9, if_neg hz9]
    clear hz9
    rw [h0] at h39
    have hP := plE_ok h0
    have hrow := fun K k hk hE => k42l (nil := nil) (np := np) (n1 := n1) (n2 := n2) (bb := 0) hS hP hD K (k := k) hk hE
    have hin := fun K hN σ h0 hH => k42in (np := np) (n1 := n1) (n2 := n2) (lo := lo) (hi := hi) (den := den) (mi := mi) (bb := 0) (by have := hP.len; omega) hP.mn K hN (σ := σ) h0 hH
    have hln := hD.l1
    have hF1 : (∀ j, j < (l.getD 0 sk0).wr.length → badZ (pwL l mi) lo hi den j = false) → fzP (l.getD 0 sk0).wr.length (pwL l mi) lo hi den = -1 := fun h => fstP_no h
    have hF2 : ∀ k, k < (l.getD 0 sk0).wr.length → badZ (pwL l mi) lo hi den k = true → (∀ j, j < k → badZ (pwL l mi) lo hi den j = false) → fzP (l.getD 0 sk0).wr.length (pwL l mi) lo hi den = k := fun k h1 h2 h3 => fstP_at h1 h2 h3
    generalize pwL l mi = W at *
    generalize fzP (l.getD 0 sk0).wr.length W lo hi den = F at *
    generalize tot mi mi.length = TT at *
    have hz40 := hS.zon
    generalize (l.getD 0 sk0).wr.length = n at *
    replace hrow := PLift.up hrow
    replace hin := PLift.up hin
    replace hF1 := PLift.up hF1
    replace hF2 := PLift.up hF2
    replace hln := PLift.up hln
    clear h0 hS hD hP
    unfold c42
    repeat' (first
      | ((with_reducible refine T_calm ?_ ?_); rfl)
      | with_reducible first
        | refine T_seq ?_
        | refine T_reg ?_
        | refine T_draw ?_
        | refine T_skip ?_
        | refine T_exit ?_
        | refine T_block ?_
        | refine T_cond_t rfl ?_
        | refine T_cond_f rfl ?_
        | refine wdW_cons rfl ?_
        | (show wcall _ false (.lit (.func (.func 39) _ _)) _ _ _ _; refine wcall_fn (h39) rfl (by simp [plainL, plain, plainR_sk]) ?_)
        | (show wcallX _ false (.lit (.func (.func 39) _ _)) _ _ _ _; refine wcallX_fn (h39) rfl (by simp [plainL, plain, plainR, plainR_sk]) ?_)
        | ((first | refine T_cond rfl (fun hc => ?_) (fun hc => ?_) | refine wguard_split (fun hc => ?_) (fun hc => ?_) | refine wguardX_split (fun hc => ?_) (fun hc => ?_)) <;> have hd := hc <;> (try simp (disch := omega) only [wrapI] at hd) <;> have hs := hd <;> (try simp only [Bool.not_eq_true', Bool.not_eq_false', Bool.and_eq_true, Bool.and_eq_false_iff, Bool.or_eq_true, Bool.or_eq_false_iff, decide_eq_true_eq, decide_eq_false_iff_not, beq_iff_eq, bne_iff_ne, beq_eq_false_iff_ne, bne_eq_false_iff_eq, Bool.not_true, Bool.not_false, gt_iff_lt, ge_iff_le, Int.not_lt, Int.not_le, ne_eq, Decidable.not_not] at hd) <;> (try simp at hs))
        | refine T_ret ?_
        | refine leave_of (.inr rfl) _ rfl ?_
        | refine leave_of (.inl rfl) _ rfl ?_
        | refine leaveA_of (.inr rfl) _ rfl ?_
        | refine leaveA_of (.inl rfl) _ rfl ?_
        | refine wif_intro ?_ (fun hc => ?_)
        | refine And.intro ?_ ?_
        | intro hc
      | simp (maxSteps := 4000000) only [wops_nil, wops_cons, wstep_none, wrun_call, wrun_mv, wrun_bin, wrun_load, wrun_box, wop, aop, ev, look, put_some, writes, ores_some, binV, thenK, value, cut, hget, AV.parts, isOne, toLits, mkAgg, List.map_cons, List.map_nil, List.length_cons, List.length_nil, List.getElem?_cons_zero, List.getElem?_cons_succ, List.set_cons_zero, List.set_cons_succ, List.take_succ_cons, List.take_nil, List.drop_zero, List.nil_append, List.append_nil, List.replicate_zero, List.replicate_succ, List.getD_cons_zero, List.zipIdx_cons, List.zipIdx_nil, List.all_cons, List.all_nil, Option.getD_some, Option.map_some, if_true, if_false, Nat.reduceEqDiff, Nat.reduceAdd, Nat.add_zero, Nat.zero_add, Nat.zero_ne_one, reduceCtorEq, Bool.and_true, eq_self, true_and, and_self, Int.reduceNeg, freeze, lidsL, lids, List.flatMap_cons, List.flatMap_nil, List.all_cons, ren, *]
      | simp (disch := omega) only [getD_ints, wrapI]
      | (with_reducible show wcall _ false (.lit (.func (.func 39) _ _)) _ _ _ _; refine wcall_fn (h39) ?_ ?_ ?_; (next => simp [rfyL, rfy, hget, ints, take_rfy, plainR_sk]); (next => simp [plainL, plain, plainR, plainR_sk]))
      | (with_reducible show wcallX _ false (.lit (.func (.func 39) _ _)) _ _ _ _; refine wcallX_fn (h39) ?_ ?_ ?_; (next => simp [rfyL, rfy, hget, ints, take_rfy, plainR_sk]); (next => simp [plainL, plain, plainR, plainR_sk]))
      | omega)
    refine T_forP [0, 4, 5, 9] (fun k => [(0, sts nil l), (4, .loc 0 0 0), (5, .loc 1 0 0), (9, i64 k)]) n (fun k H => H = [.cells true false 2 [[ints n1 lo, ints n2 hi]], .cells true false 2 [[ints np mi, i64 den]]] ∧ ∀ j, j < k → badZ W lo hi den j = false) 0 ?_ ⟨rfl, fun j hj => by omega⟩ (Nat.zero_le _) ?_
    · simp [St.only, get_mk, look]
    clear h39
    intro k H hk ⟨hHe, hI⟩
    subst hHe
    by_cases hkn : k < n
    · refine T_thenR (hrow.down _ k hkn fun hb τ t6 t7 => ?_) fun s' hs => ⟨hkn, ⟨hs.2.1, fun j hj => ?_⟩, hs.2.2⟩
      · have hFk := hF2.down k hkn hb hI
        have h8 : leave 0 [.tmp 6, .tmp 7] (fun r' H' => r' = .tup [i64 (if F = -1 then TT else F), i64 (if F = -1 then 0 else 26)] ∧ H' = []) .ret τ := leave_of (.inr rfl) [i64 k, i64 26] (by simp [resL, resAV, t6, t7]) ⟨by rw [hFk, if_neg (by omega), if_neg (by omega)]; rfl, rfl⟩
        exact h8
      · rcases Nat.lt_succ_iff_lt_or_eq.1 hj with h | rfl
        · exact hI j h
        · exact hs.1
    · have hke : k = n := by omega
      subst hke
      have hFk := hF1.down hI
      subst hFk
      rw [if_pos rfl, if_pos rfl]
      have hkk : decide ((k : Int) < (lo.length : Int)) = false := by rw [hln.down]; simp
      clear hI hF1 hF2 hrow hln
      unfold c42l0
      repeat' (first
        | ((with_reducible refine T_calm ?_ ?_); rfl)
        | with_reducible first
          | refine T_seq ?_
          | refine T_reg ?_
          | refine T_draw ?_
          | refine T_skip ?_
          | refine T_exit ?_
          | refine T_block ?_
          | refine T_cond_t rfl ?_
          | refine T_cond_f rfl ?_
          | refine wdW_cons rfl ?_
          | ((first | refine T_cond rfl (fun hc => ?_) (fun hc => ?_) | refine wguard_split (fun hc => ?_) (fun hc => ?_) | refine wguardX_split (fun hc => ?_) (fun hc => ?_)) <;> have hd := hc <;> (try simp (disch := omega) only [wrapI] at hd) <;> have hs := hd <;> (try simp only [Bool.not_eq_true', Bool.not_eq_false', Bool.and_eq_true, Bool.and_eq_false_iff, Bool.or_eq_true, Bool.or_eq_false_iff, decide_eq_true_eq, decide_eq_false_iff_not, beq_iff_eq, bne_iff_ne, beq_eq_false_iff_ne, bne_eq_false_iff_eq, Bool.not_true, Bool.not_false, gt_iff_lt, ge_iff_le, Int.not_lt, Int.not_le, ne_eq, Decidable.not_not] at hd) <;> (try simp at hs))
          | refine T_ret ?_
          | refine leave_of (.inr rfl) _ rfl ?_
          | refine leave_of (.inl rfl) _ rfl ?_
          | refine leaveA_of (.inr rfl) _ rfl ?_
          | refine leaveA_of (.inl rfl) _ rfl ?_
          | refine wif_intro ?_ (fun hc => ?_)
          | refine And.intro ?_ ?_
          | intro hc
        | simp (maxSteps := 4000000) only [wops_nil, wops_cons, wstep_none, wrun_mv, wrun_bin, wrun_load, wrun_faddr, wrun_len, wop, aop, ev, look, put_some, writes, ores_some, ores_map, ores_bind, binV, thenK, blockK, intV, lenOf, value, cut, hget, mkAgg, List.length_cons, List.length_nil, List.getElem?_cons_zero, List.take_succ_cons, List.take_zero, List.drop_zero, List.append_nil, List.replicate_zero, List.getD_cons_zero, Option.pure_def, Option.bind_eq_bind, Option.getD_some, Option.map_some, if_true, if_false, Nat.reduceEqDiff, Nat.reduceAdd, Nat.add_zero, Nat.zero_add, reduceCtorEq, Bool.false_eq_true, eq_self, false_and, *]
        | simp (disch := omega) only [getD_ints, wrapI]
        | omega)
      refine hin.down _ ?_ _ ?_ rfl
      · intro τ t1
        simp only [blockK, thenK, reduceIte]
        refine T_onlyU [10] (S := ⟨[(10, i64 TT)], τ.heap⟩) (by show (⟨(τ.only [10]).slots, τ.heap⟩ : St) = _; rw [t1]) ?_
        clear hin
        repeat' (first
          | ((with_reducible refine T_calm ?_ ?_); rfl)
          | with_reducible first
            | refine T_seq ?_
            | refine T_reg ?_
            | refine T_draw ?_
            | refine T_skip ?_
            | refine T_exit ?_
            | refine T_block ?_
            | refine T_cond_t rfl ?_
            | refine T_cond_f rfl ?_
            | refine wdW_cons rfl ?_
            | ((first | refine T_cond rfl (fun hc => ?_) (fun hc => ?_) | refine wguard_split (fun hc => ?_) (fun hc => ?_) | refine wguardX_split (fun hc => ?_) (fun hc => ?_)) <;> have hd := hc <;> (try simp (disch := omega) only [wrapI] at hd) <;> have hs := hd <;> (try simp only [Bool.not_eq_true', Bool.not_eq_false', Bool.and_eq_true, Bool.and_eq_false_iff, Bool.or_eq_true, Bool.or_eq_false_iff, decide_eq_true_eq, decide_eq_false_iff_not, beq_iff_eq, bne_iff_ne, beq_eq_false_iff_ne, bne_eq_false_iff_eq, Bool.not_true, Bool.not_false, gt_iff_lt, ge_iff_le, Int.not_lt, Int.not_le, ne_eq, Decidable.not_not] at hd) <;> (try simp at hs))
            | refine T_ret ?_
            | refine leave_of (.inr rfl) _ rfl ?_
            | refine leave_of (.inl rfl) _ rfl ?_
            | refine leaveA_of (.inr rfl) _ rfl ?_
            | refine leaveA_of (.inl rfl) _ rfl ?_
            | refine wif_intro ?_ (fun hc => ?_)
            | refine And.intro ?_ ?_
            | intro hc
          | simp (maxSteps := 4000000) only [wops_nil, wops_cons, wstep_none, wrun_mv, get_mk, wop, aop, ev, look, put_some, writes, ores_some, thenK, tupOf, List.append_nil, List.replicate_zero, if_true, if_false, Nat.reduceEqDiff, eq_self, ren, renL, *]
          | simp (disch := omega) only [getD_ints, wrapI]
          | omega)
        all_goals first | rfl
      · simp [St.only, get_mk, look]
  · rw [if_pos h0, if_pos h0]
    have d0 : (plE l mi den != 0) = true := by simp only [bne_iff_ne]; exact h0
    generalize plE l mi den = R at *
    clear h0 hS hD
    unfold c42
    repeat' (first
      | ((with_reducible refine T_calm ?_ ?_); rfl)
      | with_reducible first
        | refine T_seq ?_
        | refine T_reg ?_
        | refine T_draw ?_
        | refine T_skip ?_
        | refine T_exit ?_
        | refine T_block ?_
        | refine T_cond_t rfl ?_
        | refine T_cond_f rfl ?_
        | refine wdW_cons rfl ?_
        | (show wcall _ false (.lit (.func (.func 39) _ _)) _ _ _ _; refine wcall_fn (h39) rfl (by simp [plainL, plain, plainR_sk]) ?_)
        | (show wcallX _ false (.lit (.func (.func 39) _ _)) _ _ _ _; refine wcallX_fn (h39) rfl (by simp [plainL, plain, plainR, plainR_sk]) ?_)
        | ((first | refine T_cond rfl (fun hc => ?_) (fun hc => ?_) | refine wguard_split (fun hc => ?_) (fun hc => ?_) | refine wguardX_split (fun hc => ?_) (fun hc => ?_)) <;> have hd := hc <;> (try simp (disch := omega) only [wrapI] at hd) <;> have hs := hd <;> (try simp only [Bool.not_eq_true', Bool.not_eq_false', Bool.and_eq_true, Bool.and_eq_false_iff, Bool.or_eq_true, Bool.or_eq_false_iff, decide_eq_true_eq, decide_eq_false_iff_not, beq_iff_eq, bne_iff_ne, beq_eq_false_iff_ne, bne_eq_false_iff_eq, Bool.not_true, Bool.not_false, gt_iff_lt, ge_iff_le, Int.not_lt, Int.not_le, ne_eq, Decidable.not_not] at hd) <;> (try simp at hs))
        | refine T_ret ?_
        | refine leave_of (.inr rfl) _ rfl ?_
        | refine leave_of (.inl rfl) _ rfl ?_
        | refine leaveA_of (.inr rfl) _ rfl ?_
        | refine leaveA_of (.inl rfl) _ rfl ?_
        | refine wif_intro ?_ (fun hc => ?_)
        | refine And.intro ?_ ?_
        | intro hc
      | simp (maxSteps := 4000000) only [wops_nil, wops_cons, wstep_none, wrun_call, wrun_mv, wrun_bin, wrun_load, wrun_box, get_mk, wop, aop, ev, look, put_some, writes, ores_some, binV, thenK, value, cut, hget, AV.parts, isOne, toLits, mkAgg, tupOf, List.map_cons, List.map_nil, List.length_cons, List.length_nil, List.getElem?_cons_zero, List.getElem?_cons_succ, List.set_cons_zero, List.set_cons_succ, List.take_succ_cons, List.take_nil, List.drop_zero, List.nil_append, List.append_nil, List.replicate_zero, List.replicate_succ, List.getD_cons_zero, List.zipIdx_cons, List.zipIdx_nil, List.all_cons, List.all_nil, Option.getD_some, Option.map_some, if_true, if_false, Nat.reduceEqDiff, Nat.reduceAdd, Nat.add_zero, Nat.zero_add, Nat.zero_ne_one, reduceCtorEq, Bool.and_true, eq_self, true_and, and_self, freeze, lidsL, lids, List.flatMap_cons, List.flatMap_nil, List.all_cons, ren, renL, *]
      | simp (disch := omega) only [getD_ints, wrapI]
      | (with_reducible show wcall _ false (.lit (.func (.func 39) _ _)) _ _ _ _; refine wcall_fn (h39) ?_ ?_ ?_; (next => simp [rfyL, rfy, hget, ints, take_rfy, plainR_sk]); (next => simp [plainL, plain, plainR, plainR_sk]))
      | (with_reducible show wcallX _ false (.lit (.func (.func 39) _ _)) _ _ _ _; refine wcallX_fn (h39) ?_ ?_ ?_; (next => simp [rfyL, rfy, hget, ints, take_rfy, plainR_sk]); (next => simp [plainL, plain, plainR, plainR_sk]))
      | omega)
    all_goals first | rfl
end Go.Abs
