import Derived.Test.YtpfmamngjefohaaK33x
set_option linter.all false
set_option linter.unusedVariables false
set_option linter.unusedSimpArgs false
set_option linter.unusedSectionVars false
namespace Go.Abs
open Go.Proofs
set_option maxHeartbeats 8000000 in
theorem k66c {nil : Bool} {l : List Gr} {d want : Int} {f : Int → Pol} {n k : Nat} {m2 : Int} (hl : l.length < 1000000) (hk : k < l.length) (hR : GOk l) (hd : 0 ≤ d ∧ d ≤ 1000000) (hn : n < 1000000) (hf : ∀ e, 0 ≤ e ∧ e ≤ 1000000 → PBd n (f e)) (hlt : ¬(l.getD k gr0).dm ≥ d) 
    (h66 : Fn Try.prog 66 [gts nil l, i64 (l.getD k gr0).dm, i64 want] (.agg [.sl true 0 [], i64 m2, bl true]) []) (hfn : f (l.getD k gr0).dm = some ([], m2)) (K : Exit → St → Prop) :
    T none Try.prog muts 50 0 c66l0 (S66 nil l d want f k) (thenK (R66 nil l d want f k) K) := by
  have hll := gR_len l
  have g1 := gR_get hk
  have d1 : decide ((l.getD k gr0).dm ≥ d) = false := decide_eq_false hlt
  have hr := hR k hk
  have h84 := k84 (l.getD k gr0) d (by omega) (by omega)
  have hcb := ceil_b (n := d) (d := (l.getD k gr0).rt) hd.1 hr.2.1
  have hmb := (hf _ hr.1 _ hfn).1
  have hqb := (hf _ hr.1 _ hfn).2
  dsimp only at hmb hqb
  have ew : IntKind.i64.wrap (m2 + ceil d (l.getD k gr0).rt) = m2 + ceil d (l.getD k gr0).rt := wrapI (by omega) (by omega)
  have hob := bsf_bd hR hd hf k (by omega)
  have eo : bsf l f d (k + 1) = bpick (some ((k : Int) :: [], m2 + ceil d (l.getD k gr0).rt)) (bsf l f d k) := by
    show bpick (bcand l f d k) (bsf l f d k) = _
    unfold bcand; rw [if_neg hlt, hfn]; rfl
  unfold R66 S66
  rw [eo]
  clear eo hlt hfn hf hR
  generalize bsf l f d k = o at *
  cases o with
  | none =>
    have h98 := k98z false ((k : Int) :: []) (m2 + ceil d (l.getD k gr0).rt) true
    have eP : bpick (some ((k : Int) :: [], m2 + ceil d (l.getD k gr0).rt)) none = some ((k : Int) :: [], m2 + ceil d (l.getD k gr0).rt) := rfl
    rw [eP]
    clear hob eP
    unfold S66h S66s
    unfold c66l0
    repeat' (first
      | ((with_reducible refine T_calm ?_ ?_); rfl)
      | with_reducible first
        | refine T_seq ?_
        | refine T_reg ?_
        | refine T_draw ?_
        | refine T_skip ?_
        | refine T_exit ?_
        | refine T_block ?_
        | refine T_cond_t rfl ?_
        | refine T_cond_f rfl ?_
        | refine wdW_cons rfl ?_
        | (show wcall _ false (.lit (.func (.func 66) _ _)) _ _ _ _; refine wcall_fn (h66) rfl (by simp [plainL, plain, plainR_gR]) ?_)
        | (show wcallX _ false (.lit (.func (.func 66) _ _)) _ _ _ _; refine wcallX_fn (h66) rfl (by simp [plainL, plain, plainR, Int.toNat_natCast, plainR_gR, freeze1, iR_take, iR_rfy, iR_lids]) ?_)
        | (show wcall _ false (.lit (.func (.func 84) _ _)) _ _ _ _; refine wcall_fn (h84) rfl (by simp [plainL, plain, plainR, Int.toNat_natCast, plainR_gR, freeze1, iR_take, iR_rfy, iR_lids]) ?_)
        | (show wcallX _ false (.lit (.func (.func 84) _ _)) _ _ _ _; refine wcallX_fn (h84) rfl (by simp [plainL, plain]) ?_)
        | (show wcall _ false (.lit (.func (.func 98) _ _)) _ _ _ _; refine wcall_fn (h98) rfl (by simp [plainL, plain, plainR]) ?_)
        | (show wcallX _ false (.lit (.func (.func 98) _ _)) _ _ _ _; refine wcallX_fn (h98) rfl (by simp [plainL, plain, plainR, Int.toNat_natCast, plainR_gR, freeze1, iR_take, iR_rfy, iR_lids]) ?_)
        | ((first | refine T_cond rfl (fun hc => ?_) (fun hc => ?_) | refine wguard_split (fun hc => ?_) (fun hc => ?_) | refine wguardX_split (fun hc => ?_) (fun hc => ?_)) <;> have hd := hc <;> (try simp (disch := omega) only [wrapI] at hd) <;> have hs := hd <;> (try simp only [decide_eq_true_eq, decide_eq_false_iff_not, Int.not_lt] at hd) <;> (try simp at hs))
        | refine T_ret ?_
        | refine leave_of (.inr rfl) _ rfl ?_
        | refine leave_of (.inl rfl) _ rfl ?_
        | refine leaveA_of (.inr rfl) _ rfl ?_
        | refine leaveA_of (.inl rfl) _ rfl ?_
        | refine wif_intro ?_ (fun hc => ?_)
        | refine And.intro ?_ ?_
        | intro hc
      | simp (maxSteps := 4000000) only [wops_nil, wops_cons, wstep_none, wrun_call, wrun_mv, wrun_bin, wrun_load, wrun_store, wrun_faddr, wrun_iaddrS, wrun_alloc, wrun_bslice, wrun_app, wrunX_mv, wrunX_bin, wrunX_load, wrunX_store, wrunX_faddr, wdW_nil, wstepX_none, wrunX_call, wop, aop, ev, look, put_some, put_none, writes, ores_some, ores_ite_none, binV, thenK, blockK, elsOf, szOk, value, cut, hget, fillA, putCells, AV.parts, isOne, toLits, mkAgg, ofValue_int, ofValue_str, List.flatten_cons, List.flatten_nil, rowsOf, List.map_cons, List.map_nil, List.length_cons, List.length_nil, List.getElem?_cons_zero, List.getElem?_cons_succ, List.set_cons_zero, List.set_cons_succ, List.take_succ_cons, List.take_zero, List.take_nil, List.drop_succ_cons, List.drop_zero, List.drop_nil, List.cons_append, List.nil_append, List.append_nil, List.append_assoc, List.replicate_zero, List.replicate_succ, List.getD_cons_zero, List.all_cons, List.all_nil, List.isEmpty_nil, Option.getD_some, Option.map_some, if_true, if_false, Nat.reduceEqDiff, Nat.reduceAdd, Nat.reduceMul, Nat.reduceLeDiff, Nat.reduceLT, Nat.reduceBEq, Nat.add_zero, Nat.zero_add, Nat.sub_zero, Nat.mul_one, Nat.le_refl, Nat.zero_ne_one, reduceCtorEq, Bool.and_true, Bool.or_false, Bool.false_eq_true, eq_self, true_and, and_true, and_self, decide_true, freeze, lidsL, lids, List.flatMap_cons, List.flatMap_nil, List.all_cons, ren, renL, renR, Int.toNat_natCast, freeze1, *]
      | simp (disch := omega) only [wrapI]
      | (with_reducible show wcall _ false (.lit (.func (.func 66) _ _)) _ _ _ _; refine wcall_fn (h66) ?_ ?_ ?_; (next => simp [rfyL, rfy, hget, ints, take_rfy, Int.toNat_natCast, plainR_gR, freeze1, iR_take, iR_rfy, iR_lids]); (next => simp [plainL, plain, plainR, Int.toNat_natCast, plainR_gR, freeze1, iR_take, iR_rfy, iR_lids]))
      | (with_reducible show wcallX _ false (.lit (.func (.func 66) _ _)) _ _ _ _; refine wcallX_fn (h66) ?_ ?_ ?_; (next => simp [rfyL, rfy, hget, ints, take_rfy, Int.toNat_natCast, plainR_gR, freeze1, iR_take, iR_rfy, iR_lids]); (next => simp [plainL, plain, plainR, Int.toNat_natCast, plainR_gR, freeze1, iR_take, iR_rfy, iR_lids]))
      | (with_reducible show wcall _ false (.lit (.func (.func 84) _ _)) _ _ _ _; refine wcall_fn (h84) ?_ ?_ ?_; (next => simp [rfyL, rfy, hget, ints, take_rfy, Int.toNat_natCast, plainR_gR, freeze1, iR_take, iR_rfy, iR_lids]); (next => simp [plainL, plain, plainR, Int.toNat_natCast, plainR_gR, freeze1, iR_take, iR_rfy, iR_lids]))
      | (with_reducible show wcallX _ false (.lit (.func (.func 84) _ _)) _ _ _ _; refine wcallX_fn (h84) ?_ ?_ ?_; (next => simp [rfyL, rfy, hget, ints, take_rfy, Int.toNat_natCast, plainR_gR, freeze1, iR_take, iR_rfy, iR_lids]); (next => simp [plainL, plain, plainR, Int.toNat_natCast, plainR_gR, freeze1, iR_take, iR_rfy, iR_lids]))
      | (with_reducible show wcall _ false (.lit (.func (.func 98) _ _)) _ _ _ _; refine wcall_fn (h98) ?_ ?_ ?_; (next => simp [rfyL, rfy, hget, ints, take_rfy, Int.toNat_natCast, plainR_gR, freeze1, iR_take, iR_rfy, iR_lids]); (next => simp [plainL, plain, plainR, Int.toNat_natCast, plainR_gR, freeze1, iR_take, iR_rfy, iR_lids]))
      | (with_reducible show wcallX _ false (.lit (.func (.func 98) _ _)) _ _ _ _; refine wcallX_fn (h98) ?_ ?_ ?_; (next => simp [rfyL, rfy, hget, ints, take_rfy, Int.toNat_natCast, plainR_gR, freeze1, iR_take, iR_rfy, iR_lids]); (next => simp [plainL, plain, plainR, Int.toNat_natCast, plainR_gR, freeze1, iR_take, iR_rfy, iR_lids]))
      | omega)
    all_goals first | (refine ⟨[0, 1, 3], by simp, by simp, ?_⟩; simp [St.keep, get_mk, look, ren, renL, renR, renB, renO, keepρ, pos, hget, renR_gR]; done) | (refine ⟨[0, 1, 4], by simp, by simp, ?_⟩; simp [St.keep, get_mk, look, ren, renL, renR, renB, renO, keepρ, pos, hget, renR_gR]; done) | (refine ⟨[0, 1, 5], by simp, by simp, ?_⟩; simp [St.keep, get_mk, look, ren, renL, renR, renB, renO, keepρ, pos, hget, renR_gR]; done) | (refine ⟨[0, 1, 6], by simp, by simp, ?_⟩; simp [St.keep, get_mk, look, ren, renL, renR, renB, renO, keepρ, pos, hget, renR_ints, renR_gR]; done) | (refine ⟨[0, 1, 7], by simp, by simp, ?_⟩; simp [St.keep, get_mk, look, ren, renL, renR, renB, renO, keepρ, pos, hget, renR_ints, renR_gR]; done) | (refine ⟨[0, 1, 8], by simp, by simp, ?_⟩; simp [St.keep, get_mk, look, ren, renL, renR, renB, renO, keepρ, pos, hget, renR_ints, renR_gR]; done) | (refine ⟨[0, 1, 9], by simp, by simp, ?_⟩; simp [St.keep, get_mk, look, ren, renL, renR, renB, renO, keepρ, pos, hget, renR_ints, renR_gR]; done)
  | some x =>
    obtain ⟨p, m⟩ := x
    have hpl : (p.map fun x => [i64 x]).length = p.length := by simp
    have hp1 := (hob _ rfl).2
    have h98 := k98 false false ((k : Int) :: []) p (m2 + ceil d (l.getD k gr0).rt) m true true (by simp; try omega) (by simp at hp1; omega)
    have eB : bef2 ((k : Int) :: []) (m2 + ceil d (l.getD k gr0).rt) true p m true = befB ((k : Int) :: []) (m2 + ceil d (l.getD k gr0).rt) p m := rfl
    rw [eB] at h98
    have eP : bpick (some ((k : Int) :: [], m2 + ceil d (l.getD k gr0).rt)) (some (p, m)) = if befB ((k : Int) :: []) (m2 + ceil d (l.getD k gr0).rt) p m = true then some ((k : Int) :: [], m2 + ceil d (l.getD k gr0).rt) else some (p, m) := rfl
    rw [eP]
    clear hob eB eP
    cases hb : befB ((k : Int) :: []) (m2 + ceil d (l.getD k gr0).rt) p m with
    | false =>
      rw [hb] at h98
      rw [if_neg (by simp)]
      clear hb
      unfold S66h S66s
      unfold c66l0
      repeat' (first
        | ((with_reducible refine T_calm ?_ ?_); rfl)
        | with_reducible first
          | refine T_seq ?_
          | refine T_reg ?_
          | refine T_draw ?_
          | refine T_skip ?_
          | refine T_exit ?_
          | refine T_block ?_
          | refine T_cond_t rfl ?_
          | refine T_cond_f rfl ?_
          | refine wdW_cons rfl ?_
          | (show wcall _ false (.lit (.func (.func 66) _ _)) _ _ _ _; refine wcall_fn (h66) rfl (by simp [plainL, plain, plainR_gR]) ?_)
          | (show wcallX _ false (.lit (.func (.func 66) _ _)) _ _ _ _; refine wcallX_fn (h66) rfl (by simp [plainL, plain, plainR, Int.toNat_natCast, plainR_gR, freeze1, iR_take, iR_rfy, iR_lids]) ?_)
          | (show wcall _ false (.lit (.func (.func 84) _ _)) _ _ _ _; refine wcall_fn (h84) rfl (by simp [plainL, plain, plainR, Int.toNat_natCast, plainR_gR, freeze1, iR_take, iR_rfy, iR_lids]) ?_)
          | (show wcallX _ false (.lit (.func (.func 84) _ _)) _ _ _ _; refine wcallX_fn (h84) rfl (by simp [plainL, plain]) ?_)
          | (show wcall _ false (.lit (.func (.func 98) _ _)) _ _ _ _; refine wcall_fn (h98) rfl (by simp [plainL, plain, plainR]) ?_)
          | (show wcallX _ false (.lit (.func (.func 98) _ _)) _ _ _ _; refine wcallX_fn (h98) rfl (by simp [plainL, plain, plainR, Int.toNat_natCast, plainR_gR, freeze1, iR_take, iR_rfy, iR_lids]) ?_)
          | ((first | refine T_cond rfl (fun hc => ?_) (fun hc => ?_) | refine wguard_split (fun hc => ?_) (fun hc => ?_) | refine wguardX_split (fun hc => ?_) (fun hc => ?_)) <;> have hd := hc <;> (try simp (disch := omega) only [wrapI] at hd) <;> have hs := hd <;> (try simp only [decide_eq_true_eq, decide_eq_false_iff_not, Int.not_lt] at hd) <;> (try simp at hs))
          | refine T_ret ?_
          | refine leave_of (.inr rfl) _ rfl ?_
          | refine leave_of (.inl rfl) _ rfl ?_
          | refine leaveA_of (.inr rfl) _ rfl ?_
          | refine leaveA_of (.inl rfl) _ rfl ?_
          | refine wif_intro ?_ (fun hc => ?_)
          | refine And.intro ?_ ?_
          | intro hc
        | simp (maxSteps := 4000000) only [wops_nil, wops_cons, wstep_none, wrun_call, wrun_mv, wrun_bin, wrun_load, wrun_store, wrun_faddr, wrun_iaddrS, wrun_alloc, wrun_bslice, wrun_app, wrunX_mv, wrunX_bin, wrunX_load, wrunX_store, wrunX_faddr, wdW_nil, wstepX_none, wrunX_call, wop, aop, ev, look, put_some, put_none, writes, ores_some, ores_ite_none, binV, thenK, blockK, elsOf, szOk, value, cut, hget, fillA, putCells, AV.parts, isOne, toLits, mkAgg, ofValue_int, ofValue_str, List.flatten_cons, List.flatten_nil, rowsOf, List.map_cons, List.map_nil, List.length_cons, List.length_nil, List.getElem?_cons_zero, List.getElem?_cons_succ, List.set_cons_zero, List.set_cons_succ, List.take_succ_cons, List.take_zero, List.take_nil, List.drop_succ_cons, List.drop_zero, List.drop_nil, List.cons_append, List.nil_append, List.append_nil, List.append_assoc, List.replicate_zero, List.replicate_succ, List.getD_cons_zero, List.all_cons, List.all_nil, List.isEmpty_nil, Option.getD_some, Option.map_some, if_true, if_false, Nat.reduceEqDiff, Nat.reduceAdd, Nat.reduceMul, Nat.reduceLeDiff, Nat.reduceLT, Nat.reduceBEq, Nat.add_zero, Nat.zero_add, Nat.sub_zero, Nat.mul_one, Nat.le_refl, Nat.zero_ne_one, reduceCtorEq, Bool.and_true, Bool.or_false, Bool.false_eq_true, eq_self, true_and, and_true, and_self, decide_true, freeze, lidsL, lids, List.flatMap_cons, List.flatMap_nil, List.all_cons, ren, renL, renR, Int.toNat_natCast, freeze1, iR_take, iR_lids, *]
        | simp (disch := omega) only [wrapI]
        | (with_reducible show wcall _ false (.lit (.func (.func 66) _ _)) _ _ _ _; refine wcall_fn (h66) ?_ ?_ ?_; (next => simp [rfyL, rfy, hget, ints, take_rfy, Int.toNat_natCast, plainR_gR, freeze1, iR_take, iR_rfy, iR_lids]); (next => simp [plainL, plain, plainR, Int.toNat_natCast, plainR_gR, freeze1, iR_take, iR_rfy, iR_lids]))
        | (with_reducible show wcallX _ false (.lit (.func (.func 66) _ _)) _ _ _ _; refine wcallX_fn (h66) ?_ ?_ ?_; (next => simp [rfyL, rfy, hget, ints, take_rfy, Int.toNat_natCast, plainR_gR, freeze1, iR_take, iR_rfy, iR_lids]); (next => simp [plainL, plain, plainR, Int.toNat_natCast, plainR_gR, freeze1, iR_take, iR_rfy, iR_lids]))
        | (with_reducible show wcall _ false (.lit (.func (.func 84) _ _)) _ _ _ _; refine wcall_fn (h84) ?_ ?_ ?_; (next => simp [rfyL, rfy, hget, ints, take_rfy, Int.toNat_natCast, plainR_gR, freeze1, iR_take, iR_rfy, iR_lids]); (next => simp [plainL, plain, plainR, Int.toNat_natCast, plainR_gR, freeze1, iR_take, iR_rfy, iR_lids]))
        | (with_reducible show wcallX _ false (.lit (.func (.func 84) _ _)) _ _ _ _; refine wcallX_fn (h84) ?_ ?_ ?_; (next => simp [rfyL, rfy, hget, ints, take_rfy, Int.toNat_natCast, plainR_gR, freeze1, iR_take, iR_rfy, iR_lids]); (next => simp [plainL, plain, plainR, Int.toNat_natCast, plainR_gR, freeze1, iR_take, iR_rfy, iR_lids]))
        | (with_reducible show wcall _ false (.lit (.func (.func 98) _ _)) _ _ _ _; refine wcall_fn (h98) ?_ ?_ ?_; (next => simp [rfyL, rfy, hget, ints, iR_take]); (next => simp [plainL, plain, plainR]))
        | (with_reducible show wcallX _ false (.lit (.func (.func 98) _ _)) _ _ _ _; refine wcallX_fn (h98) ?_ ?_ ?_; (next => simp [rfyL, rfy, hget, ints, take_rfy, Int.toNat_natCast, plainR_gR, freeze1, iR_take, iR_rfy, iR_lids]); (next => simp [plainL, plain, plainR, Int.toNat_natCast, plainR_gR, freeze1, iR_take, iR_rfy, iR_lids]))
        | omega)
      all_goals first | (refine ⟨[0, 1, 2], by simp, by simp, ?_⟩; simp [St.keep, get_mk, look, ren, renL, renR, renB, renO, keepρ, pos, hget, renR_ints, renR_gR]; done)
    | true =>
      rw [hb] at h98
      rw [if_pos rfl]
      clear hb
      unfold S66h S66s
      unfold c66l0
      repeat' (first
        | ((with_reducible refine T_calm ?_ ?_); rfl)
        | with_reducible first
          | refine T_seq ?_
          | refine T_reg ?_
          | refine T_draw ?_
          | refine T_skip ?_
          | refine T_exit ?_
          | refine T_block ?_
          | refine T_cond_t rfl ?_
          | refine T_cond_f rfl ?_
          | refine wdW_cons rfl ?_
          | (show wcall _ false (.lit (.func (.func 66) _ _)) _ _ _ _; refine wcall_fn (h66) rfl (by simp [plainL, plain, plainR_gR]) ?_)
          | (show wcallX _ false (.lit (.func (.func 66) _ _)) _ _ _ _; refine wcallX_fn (h66) rfl (by simp [plainL, plain, plainR, Int.toNat_natCast, plainR_gR, freeze1, iR_take, iR_rfy, iR_lids]) ?_)
          | (show wcall _ false (.lit (.func (.func 84) _ _)) _ _ _ _; refine wcall_fn (h84) rfl (by simp [plainL, plain, plainR, Int.toNat_natCast, plainR_gR, freeze1, iR_take, iR_rfy, iR_lids]) ?_)
          | (show wcallX _ false (.lit (.func (.func 84) _ _)) _ _ _ _; refine wcallX_fn (h84) rfl (by simp [plainL, plain]) ?_)
          | (show wcall _ false (.lit (.func (.func 98) _ _)) _ _ _ _; refine wcall_fn (h98) rfl (by simp [plainL, plain, plainR]) ?_)
          | (show wcallX _ false (.lit (.func (.func 98) _ _)) _ _ _ _; refine wcallX_fn (h98) rfl (by simp [plainL, plain, plainR, Int.toNat_natCast, plainR_gR, freeze1, iR_take, iR_rfy, iR_lids]) ?_)
          | ((first | refine T_cond rfl (fun hc => ?_) (fun hc => ?_) | refine wguard_split (fun hc => ?_) (fun hc => ?_) | refine wguardX_split (fun hc => ?_) (fun hc => ?_)) <;> have hd := hc <;> (try simp (disch := omega) only [wrapI] at hd) <;> have hs := hd <;> (try simp only [decide_eq_true_eq, decide_eq_false_iff_not, Int.not_lt] at hd) <;> (try simp at hs))
          | refine T_ret ?_
          | refine leave_of (.inr rfl) _ rfl ?_
          | refine leave_of (.inl rfl) _ rfl ?_
          | refine leaveA_of (.inr rfl) _ rfl ?_
          | refine leaveA_of (.inl rfl) _ rfl ?_
          | refine wif_intro ?_ (fun hc => ?_)
          | refine And.intro ?_ ?_
          | intro hc
        | simp (maxSteps := 4000000) only [wops_nil, wops_cons, wstep_none, wrun_call, wrun_mv, wrun_bin, wrun_load, wrun_store, wrun_faddr, wrun_iaddrS, wrun_alloc, wrun_bslice, wrun_app, wrunX_mv, wrunX_bin, wrunX_load, wrunX_store, wrunX_faddr, wdW_nil, wstepX_none, wrunX_call, wop, aop, ev, look, put_some, put_none, writes, ores_some, ores_ite_none, binV, thenK, blockK, elsOf, szOk, value, cut, hget, fillA, putCells, AV.parts, isOne, toLits, mkAgg, ofValue_int, ofValue_str, List.flatten_cons, List.flatten_nil, rowsOf, List.map_cons, List.map_nil, List.length_cons, List.length_nil, List.getElem?_cons_zero, List.getElem?_cons_succ, List.set_cons_zero, List.set_cons_succ, List.take_succ_cons, List.take_zero, List.take_nil, List.drop_succ_cons, List.drop_zero, List.drop_nil, List.cons_append, List.nil_append, List.append_nil, List.append_assoc, List.replicate_zero, List.replicate_succ, List.getD_cons_zero, List.all_cons, List.all_nil, List.isEmpty_nil, Option.getD_some, Option.map_some, if_true, if_false, Nat.reduceEqDiff, Nat.reduceAdd, Nat.reduceMul, Nat.reduceLeDiff, Nat.reduceLT, Nat.reduceBEq, Nat.add_zero, Nat.zero_add, Nat.sub_zero, Nat.mul_one, Nat.le_refl, Nat.zero_ne_one, reduceCtorEq, Bool.and_true, Bool.or_false, Bool.false_eq_true, eq_self, true_and, and_true, and_self, decide_true, freeze, lidsL, lids, List.flatMap_cons, List.flatMap_nil, List.all_cons, ren, renL, renR, Int.toNat_natCast, freeze1, iR_take, iR_lids, *]
        | simp (disch := omega) only [wrapI]
        | (with_reducible show wcall _ false (.lit (.func (.func 66) _ _)) _ _ _ _; refine wcall_fn (h66) ?_ ?_ ?_; (next => simp [rfyL, rfy, hget, ints, take_rfy, Int.toNat_natCast, plainR_gR, freeze1, iR_take, iR_rfy, iR_lids]); (next => simp [plainL, plain, plainR, Int.toNat_natCast, plainR_gR, freeze1, iR_take, iR_rfy, iR_lids]))
        | (with_reducible show wcallX _ false (.lit (.func (.func 66) _ _)) _ _ _ _; refine wcallX_fn (h66) ?_ ?_ ?_; (next => simp [rfyL, rfy, hget, ints, take_rfy, Int.toNat_natCast, plainR_gR, freeze1, iR_take, iR_rfy, iR_lids]); (next => simp [plainL, plain, plainR, Int.toNat_natCast, plainR_gR, freeze1, iR_take, iR_rfy, iR_lids]))
        | (with_reducible show wcall _ false (.lit (.func (.func 84) _ _)) _ _ _ _; refine wcall_fn (h84) ?_ ?_ ?_; (next => simp [rfyL, rfy, hget, ints, take_rfy, Int.toNat_natCast, plainR_gR, freeze1, iR_take, iR_rfy, iR_lids]); (next => simp [plainL, plain, plainR, Int.toNat_natCast, plainR_gR, freeze1, iR_take, iR_rfy, iR_lids]))
        | (with_reducible show wcallX _ false (.lit (.func (.func 84) _ _)) _ _ _ _; refine wcallX_fn (h84) ?_ ?_ ?_; (next => simp [rfyL, rfy, hget, ints, take_rfy, Int.toNat_natCast, plainR_gR, freeze1, iR_take, iR_rfy, iR_lids]); (next => simp [plainL, plain, plainR, Int.toNat_natCast, plainR_gR, freeze1, iR_take, iR_rfy, iR_lids]))
        | (with_reducible show wcall _ false (.lit (.func (.func 98) _ _)) _ _ _ _; refine wcall_fn (h98) ?_ ?_ ?_; (next => simp [rfyL, rfy, hget, ints, iR_take]); (next => simp [plainL, plain, plainR]))
        | (with_reducible show wcallX _ false (.lit (.func (.func 98) _ _)) _ _ _ _; refine wcallX_fn (h98) ?_ ?_ ?_; (next => simp [rfyL, rfy, hget, ints, take_rfy, Int.toNat_natCast, plainR_gR, freeze1, iR_take, iR_rfy, iR_lids]); (next => simp [plainL, plain, plainR, Int.toNat_natCast, plainR_gR, freeze1, iR_take, iR_rfy, iR_lids]))
        | omega)
      all_goals first | (refine ⟨[0, 1, 3], by simp, by simp, ?_⟩; simp [St.keep, get_mk, look, ren, renL, renR, renB, renO, keepρ, pos, hget, renR_gR]; done) | (refine ⟨[0, 1, 4], by simp, by simp, ?_⟩; simp [St.keep, get_mk, look, ren, renL, renR, renB, renO, keepρ, pos, hget, renR_gR]; done) | (refine ⟨[0, 1, 5], by simp, by simp, ?_⟩; simp [St.keep, get_mk, look, ren, renL, renR, renB, renO, keepρ, pos, hget, renR_gR]; done) | (refine ⟨[0, 1, 6], by simp, by simp, ?_⟩; simp [St.keep, get_mk, look, ren, renL, renR, renB, renO, keepρ, pos, hget, renR_gR]; done) | (refine ⟨[0, 1, 7], by simp, by simp, ?_⟩; simp [St.keep, get_mk, look, ren, renL, renR, renB, renO, keepρ, pos, hget, renR_ints, renR_gR]; done) | (refine ⟨[0, 1, 8], by simp, by simp, ?_⟩; simp [St.keep, get_mk, look, ren, renL, renR, renB, renO, keepρ, pos, hget, renR_ints, renR_gR]; done) | (refine ⟨[0, 1, 9], by simp, by simp, ?_⟩; simp [St.keep, get_mk, look, ren, renL, renR, renB, renO, keepρ, pos, hget, renR_ints, renR_gR]; done)
end Go.Abs
