import Derived.Test.YtpfmamngjefohaaK348x
set_option linter.all false
set_option linter.unusedVariables false
set_option linter.unusedSimpArgs false
set_option linter.unusedSectionVars false
namespace Go.Abs
open Go.Proofs
/-! CheckProof and CheckRefusal -/
def wpE (l : List Sk) (dlo dhi lo hi : List Int) (den : Int) : Int := if sE l ≠ 0 then sE l else if dmE (l.getD 0 sk0).wr.length dlo dhi ≠ 0 then dmE (l.getD 0 sk0).wr.length dlo dhi else wgE (l.getD 0 sk0).wr.length lo hi den
theorem wpE_zero {l : List Sk} {dlo dhi lo hi : List Int} {den : Int} (h : wpE l dlo dhi lo hi den = 0) : sE l = 0 ∧ dmE (l.getD 0 sk0).wr.length dlo dhi = 0 ∧ wgE (l.getD 0 sk0).wr.length lo hi den = 0 := by
  unfold wpE at h
  by_cases g : sE l = 0
  · rw [if_neg (fun h => h g)] at h
    by_cases g' : dmE (l.getD 0 sk0).wr.length dlo dhi = 0
    · rw [if_neg (fun h => h g')] at h; exact ⟨g, g', h⟩
    · rw [if_pos g'] at h; exact (g' h).elim
  · rw [if_pos g] at h; exact (g h).elim
theorem first48 {b d1 d2 n1 n2 : Bool} {m : Nat} {E : List (List AV)} {l : List Sk} {dlo dhi lo hi : List Int} {den : Int} (hV : StV l b m E) (hlo : dlo.length < 1000000) (hhi : dhi.length < 1000000) : ∀ (H : List Blk) (id x y z u v : Nat) (o nl o1 m1 o2 m2 o3 m3 o4 m4 o5 m5 : Bool), H[id]? = some (.cells o nl 1 [[.clo (.func 100) [] [.loc x 0 0]], [.clo (.func 105) [] [.loc y 0 0, .loc z 0 0]], [.clo (.func 110) [] [.loc u 0 0, .loc v 0 0]]]) → H[x]? = some (.cells o1 m1 1 [[.sl b m E]]) → H[y]? = some (.cells o2 m2 1 [[.sl b m E]]) → H[z]? = some (.cells o3 m3 2 [[ints d1 dlo, ints d2 dhi]]) → H[u]? = some (.cells o4 m4 1 [[.sl b m E]]) → H[v]? = some (.cells o5 m5 3 [[ints n1 lo, ints n2 hi, i64 den]]) →
      ACall Try.prog 69 [.lsl id 0 3] H fun r H' => r = i64 (wpE l dlo dhi lo hi den) ∧ Ext H H' := fun H id x y z u v o nl o1 m1 o2 m2 o3 m3 o4 m4 o5 m5 h1 h2 h3 h4 h5 h6 => by
  have := first3 h1 (k100 hV.p h2 hV.f) (e2 := dmE (l.getD 0 sk0).wr.length dlo dhi) (e3 := wgE (l.getD 0 sk0).wr.length lo hi den) (fun h0 => by
    obtain ⟨rfl, rfl⟩ := hV.g h0
    have hS := sE_ok h0
    exact k105 hS.pos (by have := hS.zon; omega) hlo hhi h3 h4) fun h0 _ => by
      obtain ⟨rfl, rfl⟩ := hV.g h0
      have hS := sE_ok h0
      exact k110 hS.pos (by have := hS.zon; omega) h5 h6
  exact this
set_option maxHeartbeats 8000000 in
theorem k48e {b d1 d2 n1 n2 : Bool} {m : Nat} {E : List (List AV)} {l : List Sk} {dlo dhi lo hi : List Int} {den : Int} (hV : StV l b m E) (hlo : dlo.length < 1000000) (hhi : dhi.length < 1000000) (hne : wpE l dlo dhi lo hi den ≠ 0) : Fn Try.prog 48 [.sl b m E, dmV d1 dlo d2 dhi, wgV n1 lo n2 hi den] (.tup [i64 0, i64 (wpE l dlo dhi lo hi den)]) [] := by
  refine fn_of e48 ?_
  have h70 := k70 (b := b) (m := m) hV.p
  have h77 := k77 (b := b) (m := m) hV.p d1 d2 dlo dhi
  have h88 := k88 (b := b) (m := m) hV.p n1 n2 lo hi den
  have hE := hV.p
  have hr := fun ρ => renR_plain ρ E hE
  have hcall := PLift.up (first48 (d1 := d1) (d2 := d2) (n1 := n1) (n2 := n2) (lo := lo) (hi := hi) (den := den) hV hlo hhi)
  have d0 : (wpE l dlo dhi lo hi den != 0) = true := by simp only [bne_iff_ne]; exact hne
  generalize wpE l dlo dhi lo hi den = R at *
  clear hV hne
  unfold c48
  repeat' (first
    | ((with_reducible refine T_calm ?_ ?_); rfl)
    | with_reducible first
      | refine T_seq ?_
      | refine T_reg ?_
      | refine T_draw ?_
      | refine T_skip ?_
      | refine T_exit ?_
      | refine T_block ?_
      | refine T_cond_t rfl ?_
      | refine T_cond_f rfl ?_
      | refine wdW_cons rfl ?_
      | (show wcall _ false (.lit (.func (.func 70) _ _)) _ _ _ _; refine wcall_fn (h70) rfl (by simp [plainL, plain, plainR, hE, hr, renR_ints]) ?_)
      | (show wcallX _ false (.lit (.func (.func 70) _ _)) _ _ _ _; refine wcallX_fn (h70) rfl (by simp [plainL, plain, hE]) ?_)
      | (show wcall _ false (.lit (.func (.func 77) _ _)) _ _ _ _; refine wcall_fn (h77) rfl (by simp [plainL, plain, plainR, hE, hr, renR_ints]) ?_)
      | (show wcallX _ false (.lit (.func (.func 77) _ _)) _ _ _ _; refine wcallX_fn (h77) rfl (by simp [plainL, plain, hE]) ?_)
      | (show wcall _ false (.lit (.func (.func 88) _ _)) _ _ _ _; refine wcall_fn (h88) rfl (by simp [plainL, plain, plainR, hE, hr, renR_ints]) ?_)
      | (show wcallX _ false (.lit (.func (.func 88) _ _)) _ _ _ _; refine wcallX_fn (h88) rfl (by simp [plainL, plain, hE]) ?_)
      | ((first | refine T_cond rfl (fun hc => ?_) (fun hc => ?_) | refine wguard_split (fun hc => ?_) (fun hc => ?_) | refine wguardX_split (fun hc => ?_) (fun hc => ?_)) <;> have hd := hc <;> (try simp (disch := omega) only [wrapI] at hd) <;> have hs := hd <;> (try simp only [Bool.not_eq_true', Bool.not_eq_false', Bool.and_eq_true, Bool.and_eq_false_iff, Bool.or_eq_true, Bool.or_eq_false_iff, decide_eq_true_eq, decide_eq_false_iff_not, beq_iff_eq, bne_iff_ne, beq_eq_false_iff_ne, bne_eq_false_iff_eq, Bool.not_true, Bool.not_false, gt_iff_lt, ge_iff_le, Int.not_lt, Int.not_le, ne_eq, Decidable.not_not] at hd) <;> (try simp at hs))
      | refine T_ret ?_
      | refine leave_of (.inr rfl) _ rfl ?_
      | refine leave_of (.inl rfl) _ rfl ?_
      | refine leaveA_of (.inr rfl) _ rfl ?_
      | refine leaveA_of (.inl rfl) _ rfl ?_
      | refine wif_intro ?_ (fun hc => ?_)
      | refine And.intro ?_ ?_
      | intro hc
    | simp (maxSteps := 4000000) only [wops_nil, wops_cons, wstep_none, wrun_mv, wrun_load, wrun_box, wrun_bslice, wrunX_mv, wrunX_load, wrunX_bslice, wstepX_none, wrunX_call, wop, aop, ev, look, put_some, writes, ores_some, thenK, value, cut, hget, fillA, putCells, AV.parts, isOne, toLits, mkAgg, List.flatten_cons, List.flatten_nil, rowsOf, List.map_cons, List.map_nil, List.length_cons, List.length_nil, List.getElem?_cons_zero, List.getElem?_cons_succ, List.set_cons_zero, List.set_cons_succ, List.take_succ_cons, List.take_zero, List.take_nil, List.drop_succ_cons, List.drop_zero, List.drop_nil, List.cons_append, List.nil_append, List.append_nil, List.replicate_zero, List.replicate_succ, List.getD_cons_zero, List.zipIdx_cons, List.zipIdx_nil, List.all_cons, List.all_nil, Option.getD_some, Option.map_some, if_true, if_false, Nat.reduceEqDiff, Nat.reduceAdd, Nat.reduceLeDiff, Nat.add_zero, Nat.zero_add, Nat.mul_one, Nat.le_refl, Nat.zero_ne_one, reduceCtorEq, Bool.and_true, eq_self, true_and, and_self, freeze, lidsL, lids, List.flatMap_cons, List.flatMap_nil, List.all_cons, ren, renL, renR, renB, shiftρ, renR_ints, renR_ints, *]
    | simp (disch := omega) only [getD_ints, wrapI]
    | (with_reducible show wcall _ false (.lit (.func (.func 70) _ _)) _ _ _ _; refine wcall_fn (h70) ?_ ?_ ?_; (next => simp [rfyL, rfy, hget, ints, take_rfy, hE, hr, renR_ints]); (next => simp [plainL, plain, plainR, hE, hr, renR_ints]))
    | (with_reducible show wcallX _ false (.lit (.func (.func 70) _ _)) _ _ _ _; refine wcallX_fn (h70) ?_ ?_ ?_; (next => simp [rfyL, rfy, hget, ints, take_rfy, hE, hr, renR_ints]); (next => simp [plainL, plain, plainR, hE, hr, renR_ints]))
    | (with_reducible show wcall _ false (.lit (.func (.func 77) _ _)) _ _ _ _; refine wcall_fn (h77) ?_ ?_ ?_; (next => simp [rfyL, rfy, hget, ints, take_rfy, hE, hr, renR_ints]); (next => simp [plainL, plain, plainR, hE, hr, renR_ints]))
    | (with_reducible show wcallX _ false (.lit (.func (.func 77) _ _)) _ _ _ _; refine wcallX_fn (h77) ?_ ?_ ?_; (next => simp [rfyL, rfy, hget, ints, take_rfy, hE, hr, renR_ints]); (next => simp [plainL, plain, plainR, hE, hr, renR_ints]))
    | (with_reducible show wcall _ false (.lit (.func (.func 88) _ _)) _ _ _ _; refine wcall_fn (h88) ?_ ?_ ?_; (next => simp [rfyL, rfy, hget, ints, take_rfy, hE, hr, renR_ints]); (next => simp [plainL, plain, plainR, hE, hr, renR_ints]))
    | (with_reducible show wcallX _ false (.lit (.func (.func 88) _ _)) _ _ _ _; refine wcallX_fn (h88) ?_ ?_ ?_; (next => simp [rfyL, rfy, hget, ints, take_rfy, hE, hr, renR_ints]); (next => simp [plainL, plain, plainR, hE, hr, renR_ints]))
    | omega)
  refine wcallX_raw (hcall.down _ 2 3 4 5 6 7 _ _ _ _ _ _ _ _ _ _ _ _ rfl rfl rfl rfl rfl rfl) ⟨_, _, rfl, Ext.refl _⟩ ?_
  rintro r H' ⟨rfl, _⟩
  clear hcall h70 h77 h88
  repeat' (first
    | ((with_reducible refine T_calm ?_ ?_); rfl)
    | with_reducible first
      | refine T_seq ?_
      | refine T_reg ?_
      | refine T_draw ?_
      | refine T_skip ?_
      | refine T_exit ?_
      | refine T_block ?_
      | refine T_cond_t rfl ?_
      | refine T_cond_f rfl ?_
      | refine wdW_cons rfl ?_
      | ((first | refine T_cond rfl (fun hc => ?_) (fun hc => ?_) | refine wguard_split (fun hc => ?_) (fun hc => ?_) | refine wguardX_split (fun hc => ?_) (fun hc => ?_)) <;> have hd := hc <;> (try simp (disch := omega) only [wrapI] at hd) <;> have hs := hd <;> (try simp only [Bool.not_eq_true', Bool.not_eq_false', Bool.and_eq_true, Bool.and_eq_false_iff, Bool.or_eq_true, Bool.or_eq_false_iff, decide_eq_true_eq, decide_eq_false_iff_not, beq_iff_eq, bne_iff_ne, beq_eq_false_iff_ne, bne_eq_false_iff_eq, Bool.not_true, Bool.not_false, gt_iff_lt, ge_iff_le, Int.not_lt, Int.not_le, ne_eq, Decidable.not_not] at hd) <;> (try simp at hs))
      | refine T_ret ?_
      | refine leave_of (.inr rfl) _ rfl ?_
      | refine leave_of (.inl rfl) _ rfl ?_
      | refine leaveA_of (.inr rfl) _ rfl ?_
      | refine leaveA_of (.inl rfl) _ rfl ?_
      | refine wif_intro ?_ (fun hc => ?_)
      | refine And.intro ?_ ?_
      | intro hc
    | simp (maxSteps := 4000000) only [wops_nil, wops_cons, wstep_none, wrun_mv, wrun_bin, wrunX_mv, wdW_nil, wstepX_none, get_mk, wop, aop, ev, look, put_some, writes, ores_some, binV, thenK, tupOf, List.append_nil, List.replicate_zero, Option.map_some, if_true, if_false, Nat.reduceEqDiff, reduceCtorEq, eq_self, ren, renL, *]
    | simp (disch := omega) only [getD_ints, wrapI]
    | omega)
  all_goals first | rfl
def pfB (l : List Sk) (lo hi : List Int) (den : Int) : Bool := plB l lo hi (l.getD 0 sk0).wr.length den
def pfT (l : List Sk) (dlo dhi lo hi : List Int) : Int := bnd dlo dhi lo hi (l.getD 0 sk0).wr.length
set_option maxHeartbeats 8000000 in
theorem k48 {nil d1 d2 n1 n2 : Bool} {l : List Sk} {dlo dhi lo hi : List Int} {den : Int} (hV : StV l nil 2 (skR l)) (hlo : dlo.length < 1000000) (hhi : dhi.length < 1000000) (h0 : wpE l dlo dhi lo hi den = 0) : Fn Try.prog 48 [sts nil l, dmV d1 dlo d2 dhi, wgV n1 lo n2 hi den] (.tup [i64 (if pfB l lo hi den = true then pfT l dlo dhi lo hi else 0), i64 (if pfB l lo hi den = true then 0 else 22)]) [] := by
  refine fn_of e48 ?_
  obtain ⟨z1, z2, z3⟩ := wpE_zero h0
  have hS := sE_ok z1
  have hD := dmE_ok z2
  have hW := wgE_ok z3
  have hz40 := hS.zon
  have h70 := k70 (b := nil) (m := 2) (plainR_sk l)
  have h77 := k77 (b := nil) (m := 2) (plainR_sk l) d1 d2 dlo dhi
  have h88 := k88 (b := nil) (m := 2) (plainR_sk l) n1 n2 lo hi den
  have hcall := first48 (d1 := d1) (d2 := d2) (n1 := n1) (n2 := n2) (lo := lo) (hi := hi) (den := den) hV hlo hhi
  rw [h0] at hcall
  have h89 := k89 nil n1 n2 l lo hi den den hS hW
  have h90 := k90 d1 d2 n1 n2 dlo dhi lo hi den (l.getD 0 sk0).wr.length (by omega) hD hW
  change Fn Try.prog 89 _ (bl (pfB l lo hi den)) [] at h89
  change Fn Try.prog 90 _ (i64 (pfT l dlo dhi lo hi)) [] at h90
  generalize pfT l dlo dhi lo hi = TT at *
  replace hcall := PLift.up hcall
  have b1 := hS.few
  clear hV h0 z1 z2 z3 hS hD hW
  cases a1 : pfB l lo hi den with
  | true =>
    rw [a1] at h89
    rw [if_pos rfl, if_pos rfl]
    clear a1
    unfold c48
    repeat' (first
      | ((with_reducible refine T_calm ?_ ?_); rfl)
      | with_reducible first
        | refine T_seq ?_
        | refine T_reg ?_
        | refine T_draw ?_
        | refine T_skip ?_
        | refine T_exit ?_
        | refine T_block ?_
        | refine T_cond_t rfl ?_
        | refine T_cond_f rfl ?_
        | refine wdW_cons rfl ?_
        | (show wcall _ false (.lit (.func (.func 70) _ _)) _ _ _ _; refine wcall_fn (h70) rfl (by simp [plainL, plain, plainR, plainR_sk, renR_sk, renR_ints]) ?_)
        | (show wcallX _ false (.lit (.func (.func 70) _ _)) _ _ _ _; refine wcallX_fn (h70) rfl (by simp [plainL, plain, plainR_sk]) ?_)
        | (show wcall _ false (.lit (.func (.func 77) _ _)) _ _ _ _; refine wcall_fn (h77) rfl (by simp [plainL, plain, plainR, plainR_sk, renR_sk, renR_ints]) ?_)
        | (show wcallX _ false (.lit (.func (.func 77) _ _)) _ _ _ _; refine wcallX_fn (h77) rfl (by simp [plainL, plain, plainR_sk]) ?_)
        | (show wcall _ false (.lit (.func (.func 88) _ _)) _ _ _ _; refine wcall_fn (h88) rfl (by simp [plainL, plain, plainR, plainR_sk, renR_sk, renR_ints]) ?_)
        | (show wcallX _ false (.lit (.func (.func 88) _ _)) _ _ _ _; refine wcallX_fn (h88) rfl (by simp [plainL, plain, plainR_sk]) ?_)
        | ((first | refine T_cond rfl (fun hc => ?_) (fun hc => ?_) | refine wguard_split (fun hc => ?_) (fun hc => ?_) | refine wguardX_split (fun hc => ?_) (fun hc => ?_)) <;> have hd := hc <;> (try simp (disch := omega) only [wrapI] at hd) <;> have hs := hd <;> (try simp only [Bool.not_eq_true', Bool.not_eq_false', Bool.and_eq_true, Bool.and_eq_false_iff, Bool.or_eq_true, Bool.or_eq_false_iff, decide_eq_true_eq, decide_eq_false_iff_not, beq_iff_eq, bne_iff_ne, beq_eq_false_iff_ne, bne_eq_false_iff_eq, Bool.not_true, Bool.not_false, gt_iff_lt, ge_iff_le, Int.not_lt, Int.not_le, ne_eq, Decidable.not_not] at hd) <;> (try simp at hs))
        | refine T_ret ?_
        | refine leave_of (.inr rfl) _ rfl ?_
        | refine leave_of (.inl rfl) _ rfl ?_
        | refine leaveA_of (.inr rfl) _ rfl ?_
        | refine leaveA_of (.inl rfl) _ rfl ?_
        | refine wif_intro ?_ (fun hc => ?_)
        | refine And.intro ?_ ?_
        | intro hc
      | simp (maxSteps := 4000000) only [wops_nil, wops_cons, wstep_none, wrun_mv, wrun_load, wrun_box, wrun_bslice, wrunX_mv, wrunX_load, wrunX_bslice, wstepX_none, wrunX_call, wop, aop, ev, look, put_some, writes, ores_some, thenK, value, cut, hget, fillA, putCells, AV.parts, isOne, toLits, mkAgg, List.flatten_cons, List.flatten_nil, rowsOf, List.map_cons, List.map_nil, List.length_cons, List.length_nil, List.getElem?_cons_zero, List.getElem?_cons_succ, List.set_cons_zero, List.set_cons_succ, List.take_succ_cons, List.take_zero, List.take_nil, List.drop_succ_cons, List.drop_zero, List.drop_nil, List.cons_append, List.nil_append, List.append_nil, List.replicate_zero, List.replicate_succ, List.getD_cons_zero, List.zipIdx_cons, List.zipIdx_nil, List.all_cons, List.all_nil, Option.getD_some, Option.map_some, if_true, if_false, Nat.reduceEqDiff, Nat.reduceAdd, Nat.reduceLeDiff, Nat.add_zero, Nat.zero_add, Nat.mul_one, Nat.le_refl, Nat.zero_ne_one, reduceCtorEq, Bool.and_true, eq_self, true_and, and_self, freeze, lidsL, lids, List.flatMap_cons, List.flatMap_nil, List.all_cons, ren, renL, renR, renB, shiftρ, renR_ints, renR_sk, renR_ints, *]
      | simp (disch := omega) only [getD_ints, wrapI]
      | (with_reducible show wcall _ false (.lit (.func (.func 70) _ _)) _ _ _ _; refine wcall_fn (h70) ?_ ?_ ?_; (next => simp [rfyL, rfy, hget, ints, take_rfy, plainR_sk, renR_sk, renR_ints]); (next => simp [plainL, plain, plainR, plainR_sk, renR_sk, renR_ints]))
      | (with_reducible show wcallX _ false (.lit (.func (.func 70) _ _)) _ _ _ _; refine wcallX_fn (h70) ?_ ?_ ?_; (next => simp [rfyL, rfy, hget, ints, take_rfy, plainR_sk, renR_sk, renR_ints]); (next => simp [plainL, plain, plainR, plainR_sk, renR_sk, renR_ints]))
      | (with_reducible show wcall _ false (.lit (.func (.func 77) _ _)) _ _ _ _; refine wcall_fn (h77) ?_ ?_ ?_; (next => simp [rfyL, rfy, hget, ints, take_rfy, plainR_sk, renR_sk, renR_ints]); (next => simp [plainL, plain, plainR, plainR_sk, renR_sk, renR_ints]))
      | (with_reducible show wcallX _ false (.lit (.func (.func 77) _ _)) _ _ _ _; refine wcallX_fn (h77) ?_ ?_ ?_; (next => simp [rfyL, rfy, hget, ints, take_rfy, plainR_sk, renR_sk, renR_ints]); (next => simp [plainL, plain, plainR, plainR_sk, renR_sk, renR_ints]))
      | (with_reducible show wcall _ false (.lit (.func (.func 88) _ _)) _ _ _ _; refine wcall_fn (h88) ?_ ?_ ?_; (next => simp [rfyL, rfy, hget, ints, take_rfy, plainR_sk, renR_sk, renR_ints]); (next => simp [plainL, plain, plainR, plainR_sk, renR_sk, renR_ints]))
      | (with_reducible show wcallX _ false (.lit (.func (.func 88) _ _)) _ _ _ _; refine wcallX_fn (h88) ?_ ?_ ?_; (next => simp [rfyL, rfy, hget, ints, take_rfy, plainR_sk, renR_sk, renR_ints]); (next => simp [plainL, plain, plainR, plainR_sk, renR_sk, renR_ints]))
      | omega)
    refine wcallX_raw (hcall.down _ 2 3 4 5 6 7 _ _ _ _ _ _ _ _ _ _ _ _ rfl rfl rfl rfl rfl rfl) ⟨_, _, rfl, Ext.refl _⟩ ?_
    rintro r H' ⟨rfl, hx⟩
    obtain ⟨q0, g0⟩ := hx.cell (id := 0) rfl
    obtain ⟨q1, g1⟩ := hx.cell (id := 1) rfl
    clear hcall h70 h77 h88 hx
    repeat' (first
      | ((with_reducible refine T_calm ?_ ?_); rfl)
      | with_reducible first
        | refine T_seq ?_
        | refine T_reg ?_
        | refine T_draw ?_
        | refine T_skip ?_
        | refine T_exit ?_
        | refine T_block ?_
        | refine T_cond_t rfl ?_
        | refine T_cond_f rfl ?_
        | refine wdW_cons rfl ?_
        | (show wcall _ false (.lit (.func (.func 89) _ _)) _ _ _ _; refine wcall_fn (h89) rfl (by simp [plainL, plain, plainR_sk]) ?_)
        | (show wcallX _ false (.lit (.func (.func 89) _ _)) _ _ _ _; refine wcallX_fn (h89) rfl (by simp [plainL, plain, plainR, plainR_sk, renR_ints]) ?_)
        | (show wcall _ false (.lit (.func (.func 90) _ _)) _ _ _ _; refine wcall_fn (h90) rfl (by simp [plainL, plain]) ?_)
        | (show wcallX _ false (.lit (.func (.func 90) _ _)) _ _ _ _; refine wcallX_fn (h90) rfl (by simp [plainL, plain, plainR, plainR_sk, renR_ints]) ?_)
        | ((first | refine T_cond rfl (fun hc => ?_) (fun hc => ?_) | refine wguard_split (fun hc => ?_) (fun hc => ?_) | refine wguardX_split (fun hc => ?_) (fun hc => ?_)) <;> have hd := hc <;> (try simp (disch := omega) only [wrapI] at hd) <;> have hs := hd <;> (try simp only [Bool.not_eq_true', Bool.not_eq_false', Bool.and_eq_true, Bool.and_eq_false_iff, Bool.or_eq_true, Bool.or_eq_false_iff, decide_eq_true_eq, decide_eq_false_iff_not, beq_iff_eq, bne_iff_ne, beq_eq_false_iff_ne, bne_eq_false_iff_eq, Bool.not_true, Bool.not_false, gt_iff_lt, ge_iff_le, Int.not_lt, Int.not_le, ne_eq, Decidable.not_not] at hd) <;> (try simp at hs))
        | refine T_ret ?_
        | refine leave_of (.inr rfl) _ rfl ?_
        | refine leave_of (.inl rfl) _ rfl ?_
        | refine leaveA_of (.inr rfl) _ rfl ?_
        | refine leaveA_of (.inl rfl) _ rfl ?_
        | refine wif_intro ?_ (fun hc => ?_)
        | refine And.intro ?_ ?_
        | intro hc
      | simp (maxSteps := 4000000) only [wops_nil, wops_cons, wstep_none, wrun_call, wrun_mv, wrun_bin, wrun_not, wrun_load, wrun_faddr, wrunX_mv, wdW_nil, wstepX_none, get_mk, wop, aop, ev, look, put_some, writes, ores_some, binV, thenK, boolV, value, cut, hget, toLits, mkAgg, tupOf, List.map_cons, List.map_nil, List.length_cons, List.length_nil, List.take_succ_cons, List.take_nil, List.drop_succ_cons, List.drop_zero, List.append_nil, List.replicate_zero, List.getD_cons_zero, Option.getD_some, Option.map_some, if_true, if_false, Nat.reduceEqDiff, Nat.reduceAdd, Nat.zero_add, reduceCtorEq, Bool.not_true, Bool.false_eq_true, eq_self, freeze, lidsL, lids, List.flatMap_cons, List.flatMap_nil, ren, renL, *]
      | simp (disch := omega) only [getD_ints, wrapI]
      | (with_reducible show wcall _ false (.lit (.func (.func 89) _ _)) _ _ _ _; refine wcall_fn (h89) ?_ ?_ ?_; (next => simp [rfyL, rfy, hget, ints, take_rfy, plainR_sk, renR_ints]); (next => simp [plainL, plain, plainR, plainR_sk, renR_ints]))
      | (with_reducible show wcallX _ false (.lit (.func (.func 89) _ _)) _ _ _ _; refine wcallX_fn (h89) ?_ ?_ ?_; (next => simp [rfyL, rfy, hget, ints, take_rfy, plainR_sk, renR_ints]); (next => simp [plainL, plain, plainR, plainR_sk, renR_ints]))
      | (with_reducible show wcall _ false (.lit (.func (.func 90) _ _)) _ _ _ _; refine wcall_fn (h90) ?_ ?_ ?_; (next => simp [rfyL, rfy, hget, ints, take_rfy, plainR_sk, renR_ints]); (next => simp [plainL, plain, plainR, plainR_sk, renR_ints]))
      | (with_reducible show wcallX _ false (.lit (.func (.func 90) _ _)) _ _ _ _; refine wcallX_fn (h90) ?_ ?_ ?_; (next => simp [rfyL, rfy, hget, ints, take_rfy, plainR_sk, renR_ints]); (next => simp [plainL, plain, plainR, plainR_sk, renR_ints]))
      | omega)
    all_goals first | rfl
  | false =>
    rw [a1] at h89
    rw [if_neg (by simp), if_neg (by simp)]
    clear a1 h90
    unfold c48
    repeat' (first
      | ((with_reducible refine T_calm ?_ ?_); rfl)
      | with_reducible first
        | refine T_seq ?_
        | refine T_reg ?_
        | refine T_draw ?_
        | refine T_skip ?_
        | refine T_exit ?_
        | refine T_block ?_
        | refine T_cond_t rfl ?_
        | refine T_cond_f rfl ?_
        | refine wdW_cons rfl ?_
        | (show wcall _ false (.lit (.func (.func 70) _ _)) _ _ _ _; refine wcall_fn (h70) rfl (by simp [plainL, plain, plainR, plainR_sk, renR_sk, renR_ints]) ?_)
        | (show wcallX _ false (.lit (.func (.func 70) _ _)) _ _ _ _; refine wcallX_fn (h70) rfl (by simp [plainL, plain, plainR_sk]) ?_)
        | (show wcall _ false (.lit (.func (.func 77) _ _)) _ _ _ _; refine wcall_fn (h77) rfl (by simp [plainL, plain, plainR, plainR_sk, renR_sk, renR_ints]) ?_)
        | (show wcallX _ false (.lit (.func (.func 77) _ _)) _ _ _ _; refine wcallX_fn (h77) rfl (by simp [plainL, plain, plainR_sk]) ?_)
        | (show wcall _ false (.lit (.func (.func 88) _ _)) _ _ _ _; refine wcall_fn (h88) rfl (by simp [plainL, plain, plainR, plainR_sk, renR_sk, renR_ints]) ?_)
        | (show wcallX _ false (.lit (.func (.func 88) _ _)) _ _ _ _; refine wcallX_fn (h88) rfl (by simp [plainL, plain, plainR_sk]) ?_)
        | ((first | refine T_cond rfl (fun hc => ?_) (fun hc => ?_) | refine wguard_split (fun hc => ?_) (fun hc => ?_) | refine wguardX_split (fun hc => ?_) (fun hc => ?_)) <;> have hd := hc <;> (try simp (disch := omega) only [wrapI] at hd) <;> have hs := hd <;> (try simp only [Bool.not_eq_true', Bool.not_eq_false', Bool.and_eq_true, Bool.and_eq_false_iff, Bool.or_eq_true, Bool.or_eq_false_iff, decide_eq_true_eq, decide_eq_false_iff_not, beq_iff_eq, bne_iff_ne, beq_eq_false_iff_ne, bne_eq_false_iff_eq, Bool.not_true, Bool.not_false, gt_iff_lt, ge_iff_le, Int.not_lt, Int.not_le, ne_eq, Decidable.not_not] at hd) <;> (try simp at hs))
        | refine T_ret ?_
        | refine leave_of (.inr rfl) _ rfl ?_
        | refine leave_of (.inl rfl) _ rfl ?_
        | refine leaveA_of (.inr rfl) _ rfl ?_
        | refine leaveA_of (.inl rfl) _ rfl ?_
        | refine wif_intro ?_ (fun hc => ?_)
        | refine And.intro ?_ ?_
        | intro hc
      | simp (maxSteps := 4000000) only [wops_nil, wops_cons, wstep_none, wrun_mv, wrun_load, wrun_box, wrun_bslice, wrunX_mv, wrunX_load, wrunX_bslice, wstepX_none, wrunX_call, wop, aop, ev, look, put_some, writes, ores_some, thenK, value, cut, hget, fillA, putCells, AV.parts, isOne, toLits, mkAgg, List.flatten_cons, List.flatten_nil, rowsOf, List.map_cons, List.map_nil, List.length_cons, List.length_nil, List.getElem?_cons_zero, List.getElem?_cons_succ, List.set_cons_zero, List.set_cons_succ, List.take_succ_cons, List.take_zero, List.take_nil, List.drop_succ_cons, List.drop_zero, List.drop_nil, List.cons_append, List.nil_append, List.append_nil, List.replicate_zero, List.replicate_succ, List.getD_cons_zero, List.zipIdx_cons, List.zipIdx_nil, List.all_cons, List.all_nil, Option.getD_some, Option.map_some, if_true, if_false, Nat.reduceEqDiff, Nat.reduceAdd, Nat.reduceLeDiff, Nat.add_zero, Nat.zero_add, Nat.mul_one, Nat.le_refl, Nat.zero_ne_one, reduceCtorEq, Bool.and_true, eq_self, true_and, and_self, freeze, lidsL, lids, List.flatMap_cons, List.flatMap_nil, List.all_cons, ren, renL, renR, renB, shiftρ, renR_ints, renR_sk, renR_ints, *]
      | simp (disch := omega) only [getD_ints, wrapI]
      | (with_reducible show wcall _ false (.lit (.func (.func 70) _ _)) _ _ _ _; refine wcall_fn (h70) ?_ ?_ ?_; (next => simp [rfyL, rfy, hget, ints, take_rfy, plainR_sk, renR_sk, renR_ints]); (next => simp [plainL, plain, plainR, plainR_sk, renR_sk, renR_ints]))
      | (with_reducible show wcallX _ false (.lit (.func (.func 70) _ _)) _ _ _ _; refine wcallX_fn (h70) ?_ ?_ ?_; (next => simp [rfyL, rfy, hget, ints, take_rfy, plainR_sk, renR_sk, renR_ints]); (next => simp [plainL, plain, plainR, plainR_sk, renR_sk, renR_ints]))
      | (with_reducible show wcall _ false (.lit (.func (.func 77) _ _)) _ _ _ _; refine wcall_fn (h77) ?_ ?_ ?_; (next => simp [rfyL, rfy, hget, ints, take_rfy, plainR_sk, renR_sk, renR_ints]); (next => simp [plainL, plain, plainR, plainR_sk, renR_sk, renR_ints]))
      | (with_reducible show wcallX _ false (.lit (.func (.func 77) _ _)) _ _ _ _; refine wcallX_fn (h77) ?_ ?_ ?_; (next => simp [rfyL, rfy, hget, ints, take_rfy, plainR_sk, renR_sk, renR_ints]); (next => simp [plainL, plain, plainR, plainR_sk, renR_sk, renR_ints]))
      | (with_reducible show wcall _ false (.lit (.func (.func 88) _ _)) _ _ _ _; refine wcall_fn (h88) ?_ ?_ ?_; (next => simp [rfyL, rfy, hget, ints, take_rfy, plainR_sk, renR_sk, renR_ints]); (next => simp [plainL, plain, plainR, plainR_sk, renR_sk, renR_ints]))
      | (with_reducible show wcallX _ false (.lit (.func (.func 88) _ _)) _ _ _ _; refine wcallX_fn (h88) ?_ ?_ ?_; (next => simp [rfyL, rfy, hget, ints, take_rfy, plainR_sk, renR_sk, renR_ints]); (next => simp [plainL, plain, plainR, plainR_sk, renR_sk, renR_ints]))
      | omega)
    refine wcallX_raw (hcall.down _ 2 3 4 5 6 7 _ _ _ _ _ _ _ _ _ _ _ _ rfl rfl rfl rfl rfl rfl) ⟨_, _, rfl, Ext.refl _⟩ ?_
    rintro r H' ⟨rfl, hx⟩
    obtain ⟨q0, g0⟩ := hx.cell (id := 0) rfl
    obtain ⟨q1, g1⟩ := hx.cell (id := 1) rfl
    clear hcall h70 h77 h88 hx
    repeat' (first
      | ((with_reducible refine T_calm ?_ ?_); rfl)
      | with_reducible first
        | refine T_seq ?_
        | refine T_reg ?_
        | refine T_draw ?_
        | refine T_skip ?_
        | refine T_exit ?_
        | refine T_block ?_
        | refine T_cond_t rfl ?_
        | refine T_cond_f rfl ?_
        | refine wdW_cons rfl ?_
        | (show wcall _ false (.lit (.func (.func 89) _ _)) _ _ _ _; refine wcall_fn (h89) rfl (by simp [plainL, plain, plainR_sk]) ?_)
        | (show wcallX _ false (.lit (.func (.func 89) _ _)) _ _ _ _; refine wcallX_fn (h89) rfl (by simp [plainL, plain, plainR, plainR_sk, renR_ints]) ?_)
        | ((first | refine T_cond rfl (fun hc => ?_) (fun hc => ?_) | refine wguard_split (fun hc => ?_) (fun hc => ?_) | refine wguardX_split (fun hc => ?_) (fun hc => ?_)) <;> have hd := hc <;> (try simp (disch := omega) only [wrapI] at hd) <;> have hs := hd <;> (try simp only [Bool.not_eq_true', Bool.not_eq_false', Bool.and_eq_true, Bool.and_eq_false_iff, Bool.or_eq_true, Bool.or_eq_false_iff, decide_eq_true_eq, decide_eq_false_iff_not, beq_iff_eq, bne_iff_ne, beq_eq_false_iff_ne, bne_eq_false_iff_eq, Bool.not_true, Bool.not_false, gt_iff_lt, ge_iff_le, Int.not_lt, Int.not_le, ne_eq, Decidable.not_not] at hd) <;> (try simp at hs))
        | refine T_ret ?_
        | refine leave_of (.inr rfl) _ rfl ?_
        | refine leave_of (.inl rfl) _ rfl ?_
        | refine leaveA_of (.inr rfl) _ rfl ?_
        | refine leaveA_of (.inl rfl) _ rfl ?_
        | refine wif_intro ?_ (fun hc => ?_)
        | refine And.intro ?_ ?_
        | intro hc
      | simp (maxSteps := 4000000) only [wops_nil, wops_cons, wstep_none, wrun_call, wrun_mv, wrun_bin, wrun_not, wrun_load, wrun_faddr, wrunX_mv, wdW_nil, wstepX_none, get_mk, wop, aop, ev, look, put_some, writes, ores_some, binV, thenK, boolV, value, cut, hget, toLits, mkAgg, tupOf, List.map_cons, List.map_nil, List.length_cons, List.length_nil, List.take_succ_cons, List.take_nil, List.drop_succ_cons, List.drop_zero, List.append_nil, List.replicate_zero, List.getD_cons_zero, Option.getD_some, Option.map_some, if_true, if_false, Nat.reduceEqDiff, Nat.reduceAdd, Nat.zero_add, reduceCtorEq, Bool.not_false, Bool.false_eq_true, eq_self, freeze, lidsL, lids, List.flatMap_cons, List.flatMap_nil, ren, renL, *]
      | simp (disch := omega) only [getD_ints, wrapI]
      | (with_reducible show wcall _ false (.lit (.func (.func 89) _ _)) _ _ _ _; refine wcall_fn (h89) ?_ ?_ ?_; (next => simp [rfyL, rfy, hget, ints, take_rfy, plainR_sk, renR_ints]); (next => simp [plainL, plain, plainR, plainR_sk, renR_ints]))
      | (with_reducible show wcallX _ false (.lit (.func (.func 89) _ _)) _ _ _ _; refine wcallX_fn (h89) ?_ ?_ ?_; (next => simp [rfyL, rfy, hget, ints, take_rfy, plainR_sk, renR_ints]); (next => simp [plainL, plain, plainR, plainR_sk, renR_ints]))
      | omega)
    all_goals first | rfl
end Go.Abs
