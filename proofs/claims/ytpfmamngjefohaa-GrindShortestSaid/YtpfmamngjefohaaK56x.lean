import Derived.Test.YtpfmamngjefohaaK55
set_option linter.all false
set_option linter.unusedVariables false
set_option linter.unusedSimpArgs false
set_option linter.unusedSectionVars false
namespace Go.Abs
open Go.Proofs
/-! try: one round -/
def trK (l : List Gr) (f : Nat → Pol → Pol) (d : Int) : Nat → Pol → Pol
  | 0, o => o
  | k + 1, o => if (l.getD k gr0).dm < d then f k (trK l f d k o) else trK l f d k o
def tr (l : List Gr) (w : Int) : Nat → Int → List Int → Int → Pol → Pol
  | 0, d, q, m, o => trL q m d w o
  | n + 1, d, q, m, o => trK l (fun k o' => tr l w n (l.getD k gr0).dm (q ++ [(k : Int)]) (m + ceil d (l.getD k gr0).rt) o') d l.length (trL q m d w o)
theorem iR_nolid (h : Nat → Blk) (d n : Nat) (q : List Int) (v : Nat) : (∀ x, x ∈ List.take n (q.map fun x => [i64 x]) → ∀ y, y ∈ x → ¬v ∈ lids h d y) = True := by
  refine eq_true fun x hx y hy => ?_
  obtain ⟨z, _, rfl⟩ := List.mem_map.1 (List.mem_of_mem_take hx)
  simp only [List.mem_singleton] at hy
  subst hy
  rw [lids0]
  simp
theorem SB_ex {id : Nat} {H : List Blk} (hid : id < H.length) (o : Pol) : ∃ H', SB id o H' ∧ Kp id H H' := by
  cases o with
  | none => exact ⟨H.set id (.cells true false 3 [[.sl true 0 [], i64 0, bl false]]), List.getElem?_set_self hid, Kp.set id H _⟩
  | some x =>
    obtain ⟨p, M⟩ := x
    obtain ⟨u1, u2, u3, u4⟩ := cells_sub (X := []) (H := H) rfl
    refine ⟨(H ++ [Blk.cells true false 1 (p.map fun x => [i64 x])]).set id (.cells true false 3 [[.lsl H.length 0 p.length, i64 M, bl true]]), ⟨H.length, true, List.getElem?_set_self (by rw [List.length_append]; omega), ?_⟩, (Kp.app id H _).trans (Kp.set id _ _)⟩
    show ((H ++ _).set id _)[H.length]? = _
    rw [List.getElem?_set_ne (show id ≠ H.length by omega), u1]; rfl
/-- what a call of try does -/
def IH94 (id : Nat) (nil : Bool) (l : List Gr) (w : Int) (n : Nat) (d : Int) : Prop := ∀ (H : List Blk) (j : Nat) (q : List Int) (m : Int) (o : Pol), q.length + n < 3000000 → 0 ≤ m ∧ m + 1000000 * (n : Int) ≤ 4000000000000000000 → SB id o H → RowAt j q H → j ≠ id →
  ACall Try.prog 94 [.loc id 0 0, gts nil l, .lsl j 0 q.length, i64 m, i64 d, i64 w] H fun _ H' => SB id (tr l w n d q m o) H' ∧ Kp id H H'
abbrev SL94k (id j : Nat) (nil : Bool) (l : List Gr) (q : List Int) (m d w : Int) (k : Nat) : List (Nat × AV) := [(0, .loc id 0 0), (1, gts nil l), (2, .lsl j 0 q.length), (3, i64 m), (4, i64 d), (5, i64 w), (13, i64 k)]
set_option maxHeartbeats 8000000 in
theorem k94skip {b id j : Nat} {nil : Bool} {l : List Gr} {q : List Int} {m d w : Int} {k : Nat} {H : List Blk} (hl : l.length < 1000000) (hk : k < l.length) (hlt : ¬(l.getD k gr0).dm < d) (K : Exit → St → Prop) :
    T none Try.prog muts 115 b c94l0 ⟨SL94k id j nil l q m d w k, H⟩ (thenK (fun s' => s'.heap = H ∧ (s'.only [0, 1, 2, 3, 4, 5, 13]).slots = SL94k id j nil l q m d w (k + 1)) K) := by
  have hll := gR_len l
  have g1 := gR_get hk
  have d1 : decide ((l.getD k gr0).dm < d) = false := decide_eq_false hlt
  clear hlt
  unfold c94l0
  repeat' (first
    | ((with_reducible refine T_calm ?_ ?_); rfl)
    | with_reducible first
      | refine T_seq ?_
      | refine T_reg ?_
      | refine T_draw ?_
      | refine T_skip ?_
      | refine T_exit ?_
      | refine T_block ?_
      | refine T_cond_t rfl ?_
      | refine T_cond_f rfl ?_
      | refine wdW_cons rfl ?_
      | ((first | refine T_cond rfl (fun hc => ?_) (fun hc => ?_) | refine wguard_split (fun hc => ?_) (fun hc => ?_) | refine wguardX_split (fun hc => ?_) (fun hc => ?_)) <;> have hd := hc <;> (try simp (disch := omega) only [wrapI] at hd) <;> have hs := hd <;> (try simp only [decide_eq_true_eq, decide_eq_false_iff_not, Int.not_lt] at hd) <;> (try simp at hs))
      | refine T_ret ?_
      | refine wif_intro ?_ (fun hc => ?_)
      | refine And.intro ?_ ?_
      | intro hc
    | simp (maxSteps := 4000000) only [wops_nil, wops_cons, wstep_none, wrun_mv, wrun_bin, wrun_load, wrun_faddr, wrun_iaddrS, wrun_len, wop, aop, ev, look, put_some, writes, ores_some, ores_ite_none, ores_map, ores_bind, binV, thenK, blockK, intV, lenOf, value, cut, hget, mkAgg, List.length_cons, List.length_nil, List.take_succ_cons, List.take_zero, List.drop_succ_cons, List.drop_zero, List.append_nil, List.replicate_zero, Option.pure_def, Option.bind_eq_bind, Option.map_some, if_true, if_false, Nat.reduceEqDiff, Nat.zero_add, Nat.zero_ne_one, reduceCtorEq, Bool.false_eq_true, eq_self, true_and, and_true, and_self, decide_true, Int.toNat_natCast, *]
    | simp (disch := omega) only [wrapI]
    | omega)
  all_goals first | rfl | (simp [St.only, get_mk, look]; done)
set_option maxHeartbeats 8000000 in
theorem k94go {b id j : Nat} {nil : Bool} {l : List Gr} {q : List Int} {m d w : Int} {n k : Nat} {o : Pol} {H : List Blk} (hl : l.length < 1000000) (hk : k < l.length) (hR : GOk l) (hd0 : 0 ≤ d ∧ d ≤ 1000000) (hlt : (l.getD k gr0).dm < d) (hq : q.length + (n + 1) < 3000000) (hm : 0 ≤ m ∧ m + 1000000 * ((n : Int) + 1) ≤ 4000000000000000000)
    (hI : IH94 id nil l w n (l.getD k gr0).dm) (hsb : SB id o H) (hj : H[j]? = some (.cells false false 1 (q.map fun x => [i64 x]))) (hne : j ≠ id) (hid : id < H.length) (K : Exit → St → Prop) :
    T none Try.prog muts 115 b c94l0 ⟨SL94k id j nil l q m d w k, H⟩ (thenK (fun s' => (SB id (tr l w n (l.getD k gr0).dm (q ++ [(k : Int)]) (m + ceil d (l.getD k gr0).rt) o) s'.heap ∧ Kp id H s'.heap) ∧ (s'.only [0, 1, 2, 3, 4, 5, 13]).slots = SL94k id j nil l q m d w (k + 1)) K) := by
  have hll := gR_len l
  have g1 := gR_get hk
  have hr := hR k hk
  have d1 : decide ((l.getD k gr0).dm < d) = true := decide_eq_true hlt
  have h53 := k53b false q (by omega)
  have hql : (q.map fun x => [i64 x]).length = q.length := by simp
  have h47 := k47 d (l.getD k gr0).rt (by omega) (by omega)
  have hcb := ceil_b (n := d) (d := (l.getD k gr0).rt) hd0.1 hr.2.1
  have ew : IntKind.i64.wrap (m + ceil d (l.getD k gr0).rt) = m + ceil d (l.getD k gr0).rt := wrapI (by omega) (by omega)
  have l1 := (List.getElem?_eq_some_iff.1 hj).1
  obtain ⟨u1, u2, u3, u4⟩ := cells_sub (X := []) (H := H) rfl
  have a1 := at_in hj
  have fz := fun X : List Blk => freeze1_no (at_in hj X)
  have hcall : ∀ X : List Blk, X[1]? = some (.cells true false 1 (((q ++ [(k : Int)]).map fun x => [i64 x]))) → ACall Try.prog 94 [.loc id 0 0, gts nil l, .lsl (H.length + 1) 0 (q.length + 1), i64 (m + ceil d (l.getD k gr0).rt), i64 (l.getD k gr0).dm, i64 w] (H ++ X) fun _ H' => SB id (tr l w n (l.getD k gr0).dm (q ++ [(k : Int)]) (m + ceil d (l.getD k gr0).rt) o) H' ∧ Kp id H H' := fun X hX => by
    have h1 := hI (H ++ X) (H.length + 1) (q ++ [(k : Int)]) (m + ceil d (l.getD k gr0).rt) o (by simp; omega) (by constructor <;> omega) ?_ ⟨true, by rw [u2]; exact hX⟩ (by omega)
    · rw [List.length_append, List.length_singleton] at h1
      exact h1.mono fun r H' h => ⟨h.1, (Kp.app id H X).trans h.2⟩
    · cases o with
      | none => exact at_in hsb X
      | some x => obtain ⟨i, bi, g2, g3⟩ := hsb; exact ⟨i, bi, at_in g2 X, at_in g3 X⟩
  generalize tr l w n (l.getD k gr0).dm (q ++ [(k : Int)]) (m + ceil d (l.getD k gr0).rt) o = o' at *
  have x1 : H.length ≠ j := by omega
  have x2 : j ≠ H.length := by omega
  have x3 : H.length + 1 ≠ j := by omega
  have x4 : j ≠ H.length + 1 := by omega
  have x5 : H.length < H.length + 2 := by omega
  have x6 : H.length + 1 < H.length + 2 := by omega
  have x7 : j < H.length + 2 := by omega
  have x8 : id ≠ H.length := by omega
  have x9 : id ≠ H.length + 1 := by omega
  have hex := PLift.up (SB_ex hid o')
  replace hcall := PLift.up hcall
  clear hlt hI hsb
  unfold c94l0
  repeat' (first
    | ((with_reducible refine T_calm ?_ ?_); rfl)
    | with_reducible first
      | refine T_seq ?_
      | refine T_reg ?_
      | refine T_draw ?_
      | refine T_skip ?_
      | refine T_exit ?_
      | refine T_block ?_
      | refine T_cond_t rfl ?_
      | refine T_cond_f rfl ?_
      | refine wdW_cons rfl ?_
      | (show wcall _ false (.lit (.func (.func 53) _ _)) _ _ _ _; refine wcall_fn (h53) rfl (by simp [plainL, plain, plainR, Int.toNat_natCast, plainR_gR, iR_take, iR_rfy, iR_lids, hj, a1, fz, x1, x2, x3, x4, x5, x6, iR_nolid, lids0, lids]) ?_)
      | (show wcallX _ false (.lit (.func (.func 53) _ _)) _ _ _ _; refine wcallX_fn (h53) rfl (by simp [plainL, plain]) ?_)
      | (show wcall _ false (.lit (.func (.func 47) _ _)) _ _ _ _; refine wcall_fn (h47) rfl (by simp [plainL, plain, plainR, Int.toNat_natCast, plainR_gR, iR_take, iR_rfy, iR_lids, hj, a1, fz, x1, x2, x3, x4, x5, x6, iR_nolid, lids0, lids]) ?_)
      | (show wcallX _ false (.lit (.func (.func 47) _ _)) _ _ _ _; refine wcallX_fn (h47) rfl (by simp [plainL, plain]) ?_)
      | ((first | refine T_cond rfl (fun hc => ?_) (fun hc => ?_) | refine wguard_split (fun hc => ?_) (fun hc => ?_) | refine wguardX_split (fun hc => ?_) (fun hc => ?_)) <;> have hd := hc <;> (try simp (disch := omega) only [wrapI] at hd) <;> have hs := hd <;> (try simp only [decide_eq_true_eq, decide_eq_false_iff_not, Int.not_lt] at hd) <;> (try simp at hs))
      | refine T_ret ?_
      | refine wif_intro ?_ (fun hc => ?_)
      | refine And.intro ?_ ?_
      | intro hc
    | simp (maxSteps := 4000000) only [wops_nil, wops_cons, wstep_none, wrun_mv, wrun_bin, wrun_load, wrun_faddr, wrun_iaddrS, wrun_len, wrun_bslice, wrun_app, wrunX_mv, wrunX_bin, wrunX_load, wrunX_faddr, wrunX_iaddrS, wrunX_bslice, wrunX_app, wstepX_none, wrunX_call, wop, aop, ev, look, put_some, writes, ores_some, ores_ite_none, ores_map, ores_bind, binV, thenK, intV, lenOf, elsOf, szOk, value, cut, hget, fillA, putCells, AV.parts, isOne, toLits, mkAgg, List.flatten_cons, List.flatten_nil, rowsOf, List.map_cons, List.map_nil, List.length_cons, List.length_nil, List.getElem?_cons_zero, List.getElem?_cons_succ, List.set_cons_zero, List.set_cons_succ, List.take_succ_cons, List.take_zero, List.take_nil, List.drop_succ_cons, List.drop_zero, List.drop_nil, List.cons_append, List.nil_append, List.append_nil, List.append_assoc, List.replicate_zero, List.replicate_succ, List.all_cons, List.all_nil, List.isEmpty_cons, List.length_append, Option.pure_def, Option.bind_eq_bind, Option.getD_some, Option.map_some, if_true, if_false, Nat.reduceEqDiff, Nat.reduceAdd, Nat.add_zero, Nat.zero_add, Nat.sub_zero, Nat.mul_one, Nat.le_refl, Nat.zero_ne_one, reduceCtorEq, Bool.and_true, Bool.and_false, Bool.or_true, Bool.false_eq_true, eq_self, true_and, and_true, and_self, decide_true, beq_self_eq_true, freeze, lidsL, lids, List.flatMap_cons, List.flatMap_nil, List.all_cons, ren, renB, shiftρ, renR_ints, Int.toNat_natCast, iR_take, iR_lids, lids, *]
    | simp (disch := omega) only [getD_ints, wrapI]
    | (with_reducible show wcall _ false (.lit (.func (.func 53) _ _)) _ _ _ _; refine wcall_fn (h53) ?_ ?_ ?_; (next => simp [rfyL, rfy, hget, ints, take_rfy, Int.toNat_natCast, plainR_gR, iR_take, iR_rfy, iR_lids, hj, a1, fz, x1, x2, x3, x4, x5, x6, iR_nolid, lids0, lids]); (next => simp [plainL, plain, plainR, Int.toNat_natCast, plainR_gR, iR_take, iR_rfy, iR_lids, hj, a1, fz, x1, x2, x3, x4, x5, x6, iR_nolid, lids0, lids]))
    | (with_reducible show wcallX _ false (.lit (.func (.func 53) _ _)) _ _ _ _; refine wcallX_fn (h53) ?_ ?_ ?_; (next => simp [rfyL, rfy, hget, ints, iR_take, a1]); (next => simp [plainL, plain]))
    | (with_reducible show wcall _ false (.lit (.func (.func 47) _ _)) _ _ _ _; refine wcall_fn (h47) ?_ ?_ ?_; (next => simp [rfyL, rfy, hget, ints, take_rfy, Int.toNat_natCast, plainR_gR, iR_take, iR_rfy, iR_lids, hj, a1, fz, x1, x2, x3, x4, x5, x6, iR_nolid, lids0, lids]); (next => simp [plainL, plain, plainR, Int.toNat_natCast, plainR_gR, iR_take, iR_rfy, iR_lids, hj, a1, fz, x1, x2, x3, x4, x5, x6, iR_nolid, lids0, lids]))
    | (with_reducible show wcallX _ false (.lit (.func (.func 47) _ _)) _ _ _ _; refine wcallX_fn (h47) ?_ ?_ ?_; (next => simp [rfyL, rfy, hget, ints, take_rfy, Int.toNat_natCast, plainR_gR, iR_take, iR_rfy, iR_lids, hj, a1, fz, x1, x2, x3, x4, x5, x6, iR_nolid, lids0, lids]); (next => simp [plainL, plain, plainR, Int.toNat_natCast, plainR_gR, iR_take, iR_rfy, iR_lids, hj, a1, fz, x1, x2, x3, x4, x5, x6, iR_nolid, lids0, lids]))
    | (with_reducible refine wdW_cons ?_ ?_; (next => simp [chk, foot, compatB, argsOf, St.get, target, ev, look, lidsL, hget, kind, AOp.isRaw, wids, iR_take, iR_lids, a1, x1, x5, lids]; done))
    | omega)
  refine wcallX_raw (hcall.down _ ?_) ?_ ?_
  · simp
  · obtain ⟨H', hH⟩ := hex.down
    exact ⟨(AV.lit (.bool true)), H', hH⟩
  · intro r H' hQ
    replace hQ := PLift.up hQ
    clear hcall hex hj a1 fz u1 u2 u3 u4 l1 h53 h47
    repeat' (first
      | ((with_reducible refine T_calm ?_ ?_); rfl)
      | with_reducible first
        | refine T_seq ?_
        | refine T_reg ?_
        | refine T_draw ?_
        | refine T_skip ?_
        | refine T_exit ?_
        | refine T_block ?_
        | refine T_cond_t rfl ?_
        | refine T_cond_f rfl ?_
        | refine wdW_cons rfl ?_
        | ((first | refine T_cond rfl (fun hc => ?_) (fun hc => ?_) | refine wguard_split (fun hc => ?_) (fun hc => ?_) | refine wguardX_split (fun hc => ?_) (fun hc => ?_)) <;> have hd := hc <;> (try simp (disch := omega) only [wrapI] at hd) <;> have hs := hd <;> (try simp only [Bool.not_eq_true', Bool.not_eq_false', Bool.and_eq_true, Bool.and_eq_false_iff, Bool.or_eq_true, Bool.or_eq_false_iff, decide_eq_true_eq, decide_eq_false_iff_not, beq_iff_eq, bne_iff_ne, beq_eq_false_iff_ne, bne_eq_false_iff_eq, Bool.not_true, Bool.not_false, gt_iff_lt, ge_iff_le, Int.not_lt, Int.not_le, ne_eq, Decidable.not_not] at hd) <;> (try simp at hs))
        | refine T_ret ?_
        | refine wif_intro ?_ (fun hc => ?_)
        | refine And.intro ?_ ?_
        | intro hc
      | simp (maxSteps := 4000000) only [wops_nil, wops_cons, wstep_none, wrun_mv, wrun_bin, wdW_nil, wop, aop, ev, look, put_some, writes, ores_some, binV, thenK, blockK, List.append_nil, List.replicate_zero, Option.map_some, if_true, if_false, Nat.reduceEqDiff, reduceCtorEq, eq_self, *]
      | simp (disch := omega) only [wrapI]
      | omega)
    all_goals first | exact hQ.down | exact hQ.down.1 | exact hQ.down.2 | (simp [St.only, get_mk, look]; done)
end Go.Abs
