import Derived.Test.YtodheeifecoebaaK231x
set_option linter.all false
set_option linter.unusedVariables false
set_option linter.unusedSimpArgs false
set_option linter.unusedSectionVars false
namespace Go.Abs
open Go.Proofs
theorem T_keep2 {P : Program} {muts : List FuncId} {N : Nat} {σ S : St} {K : Exit → St → Prop} {md : Option Nat} {ac : ACode} (ts ids : List Nat) (g2 : ∀ id ∈ ids, 0 ≤ id ∧ id < σ.heap.length) (g3 : ids.Nodup) (h : σ.keep 0 ts ids = S) (hT : T md P muts N 0 ac S K) : T md P muts N 0 ac σ K :=
  T_weak (weak_keep (ts := ts) (Nat.zero_le _) g2 g3) (by rw [h]; exact hT)
/-- sums of products of the terms, and with the heights -/
def fP (rows : List (Bool × List Int)) (n i j : Nat) : Int := dotN (rowN rows i).2 (rowN rows j).2 n
def fQ (rows : List (Bool × List Int)) (h : List Int) (i : Nat) : Int := dotN (rowN rows i).2 h h.length
def fN (rows : List (Bool × List Int)) (h : List Int) : List Int :=
  if rows.length = 2 then [fQ rows h 0 * fP rows h.length 1 1 - fQ rows h 1 * fP rows h.length 0 1, fQ rows h 1 * fP rows h.length 0 0 - fQ rows h 0 * fP rows h.length 0 1] else [fQ rows h 0]
def fD (rows : List (Bool × List Int)) (h : List Int) : Int :=
  if rows.length = 2 then fP rows h.length 0 0 * fP rows h.length 1 1 - fP rows h.length 0 1 * fP rows h.length 0 1 else fP rows h.length 0 0
structure FtOk (rows : List (Bool × List Int)) (h : List Int) : Prop where
  hn : 1 ≤ h.length ∧ h.length ≤ 20
  hk : 1 ≤ rows.length ∧ rows.length ≤ 2
  hr : ∀ t, t < rows.length → (rowN rows t).2.length = h.length
  hb : ∀ t i, t < rows.length → i < h.length → -100 ≤ (rowN rows t).2.getD i 0 ∧ (rowN rows t).2.getD i 0 ≤ 100
  hh : ∀ i, i < h.length → -5000 ≤ h.getD i 0 ∧ h.getD i 0 ≤ 5000
theorem any_out {B : Int} {xs : List Int} (h : xs.any (outB B) = false) {i : Nat} (hi : i < xs.length) : -B ≤ xs.getD i 0 ∧ xs.getD i 0 ≤ B := by
  rw [List.any_eq_false] at h
  have h7 := h (xs.getD i 0) (by
    rw [List.getD_eq_getElem?_getD, List.getElem?_eq_getElem hi]
    exact List.getElem_mem _)
  unfold outB at h7
  simp only [Bool.not_eq_true', Bool.not_eq_false, Bool.and_eq_true, decide_eq_true_eq] at h7
  exact h7
theorem checkF_ok {rows : List (Bool × List Int)} {h : List Int} (hc : checkF rows h = 0) : FtOk rows h := by
  unfold checkF at hc
  split at hc
  · simp at hc
  rename_i h1
  split at hc
  · simp at hc
  rename_i h2
  split at hc
  · simp at hc
  rename_i h3
  split at hc
  · simp at hc
  rename_i h4
  split at hc
  · simp at hc
  rename_i h5
  simp only [Bool.not_eq_true] at h3 h4 h5
  have hrow : ∀ t, t < rows.length → (rowN rows t).2.length = h.length := fun t ht => by
    have := any_rowN h3 ht
    simp only [bne_eq_false_iff_eq] at this
    omega
  exact ⟨by omega, by omega, hrow, fun t i ht hi => any_out (any_rowN h4 ht) (by rw [hrow t ht]; exact hi), fun i hi => any_out h5 hi⟩
section
variable {nil hn : Bool} {rows : List (Bool × List Int)} {h : List Int}
theorem FtOk.P (o : FtOk rows h) {i j : Nat} (hi : i < rows.length) (hj : j < rows.length) (b1 b2 : Bool) :
    Fn Try.prog 136 [ints b1 (rowN rows i).2, ints b2 (rowN rows j).2] (i64 (fP rows h.length i j)) [] ∧ Fn Try.prog 140 [ints b1 (rowN rows i).2, ints b2 (rowN rows j).2] (i64 (fP rows h.length i j)) [] ∧ -200000 ≤ fP rows h.length i j ∧ fP rows h.length i j ≤ 200000 := by
  have l1 := o.hr i hi
  have l2 := o.hr j hj
  have hn := o.hn
  have hb := fun k (hk : k < (rowN rows i).2.length) => mul_bd (o.hb i k hi (by omega)) (o.hb j k hj (by omega)) (by omega)
  have a := k136 (n1 := b1) (n2 := b2) (xs := (rowN rows i).2) (ys := (rowN rows j).2) (by omega) (by omega) (fun k hk => by have := hb k hk; omega)
  have b := k140 (n1 := b1) (n2 := b2) (xs := (rowN rows i).2) (ys := (rowN rows j).2) (by omega) (by omega) (fun k hk => by have := hb k hk; omega)
  have c := dot_bd (xs := (rowN rows i).2) (ys := (rowN rows j).2) (A := 100) (B := 100) (by omega) h.length (fun k hk => o.hb i k hi hk) (fun k hk => o.hb j k hj hk)
  rw [l1] at a b
  unfold fP
  exact ⟨a, b, by omega, by omega⟩
theorem FtOk.Q (o : FtOk rows h) {i : Nat} (hi : i < rows.length) (b1 b2 : Bool) :
    Fn Try.prog 136 [ints b1 (rowN rows i).2, ints b2 h] (i64 (fQ rows h i)) [] ∧ Fn Try.prog 140 [ints b1 (rowN rows i).2, ints b2 h] (i64 (fQ rows h i)) [] ∧ -10000000 ≤ fQ rows h i ∧ fQ rows h i ≤ 10000000 := by
  have l1 := o.hr i hi
  have hn := o.hn
  have hb := fun k (hk : k < (rowN rows i).2.length) => mul_bd (o.hb i k hi (by omega)) (o.hh k (by omega)) (by omega)
  have a := k136 (n1 := b1) (n2 := b2) (xs := (rowN rows i).2) (ys := h) (by omega) (by omega) (fun k hk => by have := hb k hk; omega)
  have b := k140 (n1 := b1) (n2 := b2) (xs := (rowN rows i).2) (ys := h) (by omega) (by omega) (fun k hk => by have := hb k hk; omega)
  have c := dot_bd (xs := (rowN rows i).2) (ys := h) (A := 100) (B := 5000) (by omega) h.length (fun k hk => o.hb i k hi hk) (fun k hk => o.hh k hk)
  rw [l1] at a b
  unfold fQ
  exact ⟨a, b, by omega, by omega⟩
theorem FtOk.N (o : FtOk rows h) : (fN rows h).length = rows.length ∧ ∀ k, k < (fN rows h).length → -10000000000000 ≤ (fN rows h).getD k 0 ∧ (fN rows h).getD k 0 ≤ 10000000000000 := by
  have hk := o.hk
  by_cases h2 : rows.length = 2
  · obtain ⟨_, _, q0⟩ := o.Q (i := 0) (by omega) false false
    obtain ⟨_, _, q1⟩ := o.Q (i := 1) (by omega) false false
    obtain ⟨_, _, p00⟩ := o.P (i := 0) (j := 0) (by omega) (by omega) false false
    obtain ⟨_, _, p11⟩ := o.P (i := 1) (j := 1) (by omega) (by omega) false false
    obtain ⟨_, _, p01⟩ := o.P (i := 0) (j := 1) (by omega) (by omega) false false
    have m1 := mul_bd (x := fQ rows h 0) (y := fP rows h.length 1 1) (A := 10000000) (B := 200000) q0 p11 (by omega)
    have m2 := mul_bd (x := fQ rows h 1) (y := fP rows h.length 0 1) (A := 10000000) (B := 200000) q1 p01 (by omega)
    have m3 := mul_bd (x := fQ rows h 1) (y := fP rows h.length 0 0) (A := 10000000) (B := 200000) q1 p00 (by omega)
    have m4 := mul_bd (x := fQ rows h 0) (y := fP rows h.length 0 1) (A := 10000000) (B := 200000) q0 p01 (by omega)
    unfold fN
    rw [if_pos h2]
    refine ⟨by simp [h2], fun k hk => ?_⟩
    match k, hk with
    | 0, _ => simp; omega
    | 1, _ => simp; omega
  · obtain ⟨_, _, q0⟩ := o.Q (i := 0) (by omega) false false
    unfold fN
    rw [if_neg h2]
    refine ⟨by simp; omega, fun k hk => ?_⟩
    match k, hk with
    | 0, _ => simp; omega
theorem FtOk.D (o : FtOk rows h) : -100000000000 ≤ fD rows h ∧ fD rows h ≤ 100000000000 := by
  have hk := o.hk
  by_cases h2 : rows.length = 2
  · obtain ⟨_, _, p00⟩ := o.P (i := 0) (j := 0) (by omega) (by omega) false false
    obtain ⟨_, _, p11⟩ := o.P (i := 1) (j := 1) (by omega) (by omega) false false
    obtain ⟨_, _, p01⟩ := o.P (i := 0) (j := 1) (by omega) (by omega) false false
    have m1 := mul_bd (x := fP rows h.length 0 0) (y := fP rows h.length 1 1) (A := 200000) (B := 200000) p00 p11 (by omega)
    have m2 := mul_bd (x := fP rows h.length 0 1) (y := fP rows h.length 0 1) (A := 200000) (B := 200000) p01 p01 (by omega)
    unfold fD
    rw [if_pos h2]
    omega
  · obtain ⟨_, _, p00⟩ := o.P (i := 0) (j := 0) (by omega) (by omega) false false
    unfold fD
    rw [if_neg h2]
    omega
abbrev fitW (rows : List (Bool × List Int)) (h : List Int) : AV := .agg [ints false (dvL (fN rows h) (gfP (fN rows h) (fD rows h) (fN rows h).length)), i64 ((fD rows h).tdiv (gfP (fN rows h) (fD rows h) (fN rows h).length))]
set_option maxHeartbeats 8000000 in
theorem k77 (h0 : checkF rows h = 0) : Gv 2 Try.prog 77 [.sl nil 1 (rows.map fun r => [ints r.1 r.2]), ints hn h] (if fD rows h = 0 then [.agg [.sl true 0 [], i64 0], i64 11] else [fitW rows h, i64 0]) := by
  refine gv_of e77 ?_
  have o := checkF_ok h0
  have hk := o.hk
  have hln := o.hn
  have h135 := k135 (nil := nil) (hn := hn) (rows := rows) (ht0 := h) (by omega) (fun t ht => by rw [o.hr t ht]; omega) (by omega)
  rw [h0] at h135
  obtain ⟨hNl, hNb⟩ := o.N
  have ht := k77t (N := fN rows h) (D := fD rows h) (by omega) hNb o.D (ws := if fD rows h = 0 then [.agg [.sl true 0 [], i64 0], i64 11] else [fitW rows h, i64 0]) rfl
  generalize (if fD rows h = 0 then [.agg [.sl true 0 [], i64 0], i64 11] else [fitW rows h, i64 0]) = ws at *
  have hp := plain_rws rows
  have hl2 : (rows.map fun r => [ints r.1 r.2]).length = rows.length := by simp
  have r0 := rws_get (rows := rows) (t := 0) (by omega)
  have e00 : Int.toNat 0 = 0 := rfl
  have e01 : Int.toNat 1 = 1 := rfl
  obtain ⟨h136q0, _, q0⟩ := o.Q (i := 0) (by omega) (rowN rows 0).1 hn
  obtain ⟨h136p00, _, p00⟩ := o.P (i := 0) (j := 0) (by omega) (by omega) (rowN rows 0).1 (rowN rows 0).1
  by_cases h2 : rows.length = 2
  · have r1 := rws_get (rows := rows) (t := 1) (by omega)
    obtain ⟨h136q1, _, q1⟩ := o.Q (i := 1) (by omega) (rowN rows 1).1 hn
    obtain ⟨h136p11, _, p11⟩ := o.P (i := 1) (j := 1) (by omega) (by omega) (rowN rows 1).1 (rowN rows 1).1
    obtain ⟨h136p01, _, p01⟩ := o.P (i := 0) (j := 1) (by omega) (by omega) (rowN rows 0).1 (rowN rows 1).1
    have m1 := mul_bd (x := fQ rows h 0) (y := fP rows h.length 1 1) (A := 10000000) (B := 200000) q0 p11 (by omega)
    have m2 := mul_bd (x := fQ rows h 1) (y := fP rows h.length 0 1) (A := 10000000) (B := 200000) q1 p01 (by omega)
    have m3 := mul_bd (x := fQ rows h 1) (y := fP rows h.length 0 0) (A := 10000000) (B := 200000) q1 p00 (by omega)
    have m4 := mul_bd (x := fQ rows h 0) (y := fP rows h.length 0 1) (A := 10000000) (B := 200000) q0 p01 (by omega)
    have m5 := mul_bd (x := fP rows h.length 0 0) (y := fP rows h.length 1 1) (A := 200000) (B := 200000) p00 p11 (by omega)
    have m6 := mul_bd (x := fP rows h.length 0 1) (y := fP rows h.length 0 1) (A := 200000) (B := 200000) p01 p01 (by omega)
    have eN : fN rows h = [fQ rows h 0 * fP rows h.length 1 1 - fQ rows h 1 * fP rows h.length 0 1, fQ rows h 1 * fP rows h.length 0 0 - fQ rows h 0 * fP rows h.length 0 1] := by unfold fN; rw [if_pos h2]
    have eD : fD rows h = fP rows h.length 0 0 * fP rows h.length 1 1 - fP rows h.length 0 1 * fP rows h.length 0 1 := by unfold fD; rw [if_pos h2]
    rw [eN, eD] at ht
    clear eN eD hNb hNl o h0
    generalize fQ rows h 0 = a0 at *
    generalize fQ rows h 1 = a1 at *
    generalize fP rows h.length 0 0 = b00 at *
    generalize fP rows h.length 1 1 = b11 at *
    generalize fP rows h.length 0 1 = b01 at *
    have ew1 : IntKind.i64.wrap (a0 * b11) = a0 * b11 := wrapI (by omega) (by omega)
    have ew2 : IntKind.i64.wrap (a1 * b01) = a1 * b01 := wrapI (by omega) (by omega)
    have ew3 : IntKind.i64.wrap (a1 * b00) = a1 * b00 := wrapI (by omega) (by omega)
    have ew4 : IntKind.i64.wrap (a0 * b01) = a0 * b01 := wrapI (by omega) (by omega)
    have ew5 : IntKind.i64.wrap (b00 * b11) = b00 * b11 := wrapI (by omega) (by omega)
    have ew6 : IntKind.i64.wrap (b01 * b01) = b01 * b01 := wrapI (by omega) (by omega)
    have ew7 : IntKind.i64.wrap (a0 * b11 - a1 * b01) = a0 * b11 - a1 * b01 := wrapI (by omega) (by omega)
    have ew8 : IntKind.i64.wrap (a1 * b00 - a0 * b01) = a1 * b00 - a0 * b01 := wrapI (by omega) (by omega)
    have ew9 : IntKind.i64.wrap (b00 * b11 - b01 * b01) = b00 * b11 - b01 * b01 := wrapI (by omega) (by omega)
    have hl3 : ((rows.length : Int) == 2) = true := by rw [h2]; rfl
    replace ht := And.intro ht trivial
    replace h135 := And.intro h135 trivial
    rw [c77_cut]
    repeat' (first
      | ((with_reducible refine T_calm ?_ ?_); rfl)
      | with_reducible first
        | refine T_seq ?_
        | refine T_reg ?_
        | refine T_draw ?_
        | refine T_skip ?_
        | refine T_exit ?_
        | refine T_block ?_
        | refine T_cond_t rfl ?_
        | refine T_cond_f rfl ?_
        | refine wdW_cons rfl ?_
        | (show wcall _ false (.lit (.func (.func 135) _ _)) _ _ _ _; refine wcall_fn (h135.1) rfl (by simp [plainL, plain, plain_rws]) ?_)
        | (show wcallX _ false (.lit (.func (.func 135) _ _)) _ _ _ _; refine wcallX_fn (h135.1) rfl (by simp [plainL, plain, plainR, renR_rws, plain_rws]) ?_)
        | (show wcall _ false (.lit (.func (.func 136) _ _)) _ _ _ _; refine wcall_fn (h136q0) rfl (by simp [plainL, plain]) ?_)
        | (show wcallX _ false (.lit (.func (.func 136) _ _)) _ _ _ _; refine wcallX_fn (h136q0) rfl (by simp [plainL, plain]) ?_)
        | (show wcall _ false (.lit (.func (.func 136) _ _)) _ _ _ _; refine wcall_fn (h136p00) rfl (by simp [plainL, plain]) ?_)
        | (show wcallX _ false (.lit (.func (.func 136) _ _)) _ _ _ _; refine wcallX_fn (h136p00) rfl (by simp [plainL, plain]) ?_)
        | (show wcall _ false (.lit (.func (.func 136) _ _)) _ _ _ _; refine wcall_fn (h136p01) rfl (by simp [plainL, plain, plainR, renR_rws, plain_rws]) ?_)
        | (show wcallX _ false (.lit (.func (.func 136) _ _)) _ _ _ _; refine wcallX_fn (h136p01) rfl (by simp [plainL, plain]) ?_)
        | (show wcall _ false (.lit (.func (.func 136) _ _)) _ _ _ _; refine wcall_fn (h136p11) rfl (by simp [plainL, plain, plainR, renR_rws, plain_rws]) ?_)
        | (show wcallX _ false (.lit (.func (.func 136) _ _)) _ _ _ _; refine wcallX_fn (h136p11) rfl (by simp [plainL, plain]) ?_)
        | (show wcall _ false (.lit (.func (.func 136) _ _)) _ _ _ _; refine wcall_fn (h136q1) rfl (by simp [plainL, plain, plainR, renR_rws, plain_rws]) ?_)
        | (show wcallX _ false (.lit (.func (.func 136) _ _)) _ _ _ _; refine wcallX_fn (h136q1) rfl (by simp [plainL, plain]) ?_)
        | ((first | refine T_cond rfl (fun hc => ?_) (fun hc => ?_) | refine wguard_split (fun hc => ?_) (fun hc => ?_) | refine wguardX_split (fun hc => ?_) (fun hc => ?_)) <;> have hd := hc <;> (try simp (disch := omega) only [wrapI] at hd) <;> have hs := hd <;> (try simp only [Bool.not_eq_true', Bool.not_eq_false', Bool.and_eq_true, Bool.and_eq_false_iff, Bool.or_eq_true, Bool.or_eq_false_iff, decide_eq_true_eq, decide_eq_false_iff_not, beq_iff_eq, bne_iff_ne, beq_eq_false_iff_ne, bne_eq_false_iff_eq, Bool.not_true, Bool.not_false, gt_iff_lt, ge_iff_le, Int.not_lt, Int.not_le, ne_eq, Decidable.not_not] at hd) <;> (try simp at hs))
        | refine T_ret ?_
        | refine leave_of (.inr rfl) _ rfl ?_
        | refine leave_of (.inl rfl) _ rfl ?_
        | refine leaveA_of (.inr rfl) _ rfl ?_
        | refine leaveA_of (.inl rfl) _ rfl ?_
        | refine wif_intro ?_ (fun hc => ?_)
        | refine And.intro ?_ ?_
        | intro hc
      | simp (maxSteps := 4000000) only [wops_nil, wops_cons, wstep_none, wrun_call, wrun_mv, wrun_bin, wrun_load, wrun_iaddrS, wrun_len, wrun_alloc, wrun_bslice, wrunX_mv, wrunX_load, wrunX_iaddrS, wdW_nil, wstepX_none, wrunX_call, wop, aop, ev, look, put_some, writes, ores_some, ores_ite_none, ores_map, ores_bind, binV, thenK, intV, lenOf, value, cut, hget, fillA, putCells, AV.parts, isOne, toLits, mkAgg, List.flatten_cons, List.flatten_nil, rowsOf, List.map_cons, List.map_nil, List.length_cons, List.length_nil, List.getElem?_cons_zero, List.getElem?_cons_succ, List.set_cons_zero, List.set_cons_succ, List.take_succ_cons, List.take_zero, List.take_nil, List.drop_succ_cons, List.drop_zero, List.drop_nil, List.cons_append, List.nil_append, List.append_nil, List.append_assoc, List.replicate_zero, List.replicate_succ, List.getD_cons_zero, List.zipIdx_cons, List.zipIdx_nil, List.all_cons, List.all_nil, List.length_append, Option.pure_def, Option.bind_eq_bind, Option.getD_some, Option.map_some, if_true, if_false, Nat.reduceEqDiff, Nat.reduceAdd, Nat.reduceLeDiff, Nat.add_zero, Nat.zero_add, Nat.mul_one, Nat.le_refl, Nat.zero_ne_one, reduceCtorEq, Bool.and_true, Bool.false_eq_true, eq_self, true_and, and_true, and_self, freeze, lidsL, lids, List.flatMap_cons, List.flatMap_nil, List.all_cons, ren, *]
      | simp (disch := omega) only [getD_ints, wrapI]
      | (with_reducible show wcall _ false (.lit (.func (.func 135) _ _)) _ _ _ _; refine wcall_fn (h135.1) ?_ ?_ ?_; (next => simp [rfyL, rfy, hget, ints, take_rfy, renR_rws, plain_rws]); (next => simp [plainL, plain, plainR, renR_rws, plain_rws]))
      | (with_reducible show wcallX _ false (.lit (.func (.func 135) _ _)) _ _ _ _; refine wcallX_fn (h135.1) ?_ ?_ ?_; (next => simp [rfyL, rfy, hget, ints, take_rfy, renR_rws, plain_rws]); (next => simp [plainL, plain, plainR, renR_rws, plain_rws]))
      | (with_reducible show wcall _ false (.lit (.func (.func 136) _ _)) _ _ _ _; refine wcall_fn (h136q0) ?_ ?_ ?_; (next => simp [rfyL, rfy, hget, ints, take_rfy, renR_rws, plain_rws]); (next => simp [plainL, plain, plainR, renR_rws, plain_rws]))
      | (with_reducible show wcallX _ false (.lit (.func (.func 136) _ _)) _ _ _ _; refine wcallX_fn (h136q0) ?_ ?_ ?_; (next => simp [rfyL, rfy, hget, ints, take_rfy, renR_rws, plain_rws]); (next => simp [plainL, plain, plainR, renR_rws, plain_rws]))
      | (with_reducible show wcall _ false (.lit (.func (.func 136) _ _)) _ _ _ _; refine wcall_fn (h136p00) ?_ ?_ ?_; (next => simp [rfyL, rfy, hget, ints, take_rfy, renR_rws, plain_rws]); (next => simp [plainL, plain, plainR, renR_rws, plain_rws]))
      | (with_reducible show wcallX _ false (.lit (.func (.func 136) _ _)) _ _ _ _; refine wcallX_fn (h136p00) ?_ ?_ ?_; (next => simp [rfyL, rfy, hget, ints, take_rfy, renR_rws, plain_rws]); (next => simp [plainL, plain, plainR, renR_rws, plain_rws]))
      | (with_reducible show wcall _ false (.lit (.func (.func 136) _ _)) _ _ _ _; refine wcall_fn (h136p01) ?_ ?_ ?_; (next => simp [rfyL, rfy, hget, ints, take_rfy, renR_rws, plain_rws]); (next => simp [plainL, plain, plainR, renR_rws, plain_rws]))
      | (with_reducible show wcallX _ false (.lit (.func (.func 136) _ _)) _ _ _ _; refine wcallX_fn (h136p01) ?_ ?_ ?_; (next => simp [rfyL, rfy, hget, ints, take_rfy, renR_rws, plain_rws]); (next => simp [plainL, plain, plainR, renR_rws, plain_rws]))
      | (with_reducible show wcall _ false (.lit (.func (.func 136) _ _)) _ _ _ _; refine wcall_fn (h136p11) ?_ ?_ ?_; (next => simp [rfyL, rfy, hget, ints, take_rfy, renR_rws, plain_rws]); (next => simp [plainL, plain, plainR, renR_rws, plain_rws]))
      | (with_reducible show wcallX _ false (.lit (.func (.func 136) _ _)) _ _ _ _; refine wcallX_fn (h136p11) ?_ ?_ ?_; (next => simp [rfyL, rfy, hget, ints, take_rfy, renR_rws, plain_rws]); (next => simp [plainL, plain, plainR, renR_rws, plain_rws]))
      | (with_reducible show wcall _ false (.lit (.func (.func 136) _ _)) _ _ _ _; refine wcall_fn (h136q1) ?_ ?_ ?_; (next => simp [rfyL, rfy, hget, ints, take_rfy, renR_rws, plain_rws]); (next => simp [plainL, plain, plainR, renR_rws, plain_rws]))
      | (with_reducible show wcallX _ false (.lit (.func (.func 136) _ _)) _ _ _ _; refine wcallX_fn (h136q1) ?_ ?_ ?_; (next => simp [rfyL, rfy, hget, ints, take_rfy, renR_rws, plain_rws]); (next => simp [plainL, plain, plainR, renR_rws, plain_rws]))
      | omega)
    refine T_keep2 [4, 8, 9] [0, 2] ?_ ?_ ?_ ht.1
    all_goals first | (simp; done) | (simp [St.keep, get_mk, look, ren, renL, renR, renB, renO, keepρ, pos, hget]; done)
  · have h1 : rows.length = 1 := by omega
    have eN : fN rows h = [fQ rows h 0] := by unfold fN; rw [if_neg h2]
    have eD : fD rows h = fP rows h.length 0 0 := by unfold fD; rw [if_neg h2]
    rw [eN, eD] at ht
    clear eN eD hNb hNl o h0
    generalize fQ rows h 0 = a0 at *
    generalize fP rows h.length 0 0 = b00 at *
    have hl3 : ((rows.length : Int) == 2) = false := by rw [h1]; rfl
    replace ht := And.intro ht trivial
    replace h135 := And.intro h135 trivial
    rw [c77_cut]
    repeat' (first
      | ((with_reducible refine T_calm ?_ ?_); rfl)
      | with_reducible first
        | refine T_seq ?_
        | refine T_reg ?_
        | refine T_draw ?_
        | refine T_skip ?_
        | refine T_exit ?_
        | refine T_block ?_
        | refine T_cond_t rfl ?_
        | refine T_cond_f rfl ?_
        | refine wdW_cons rfl ?_
        | (show wcall _ false (.lit (.func (.func 135) _ _)) _ _ _ _; refine wcall_fn (h135.1) rfl (by simp [plainL, plain, plain_rws]) ?_)
        | (show wcallX _ false (.lit (.func (.func 135) _ _)) _ _ _ _; refine wcallX_fn (h135.1) rfl (by simp [plainL, plain, plainR, renR_rws, plain_rws]) ?_)
        | (show wcall _ false (.lit (.func (.func 136) _ _)) _ _ _ _; refine wcall_fn (h136q0) rfl (by simp [plainL, plain]) ?_)
        | (show wcallX _ false (.lit (.func (.func 136) _ _)) _ _ _ _; refine wcallX_fn (h136q0) rfl (by simp [plainL, plain, plainR, renR_rws, plain_rws]) ?_)
        | (show wcall _ false (.lit (.func (.func 136) _ _)) _ _ _ _; refine wcall_fn (h136p00) rfl (by simp [plainL, plain]) ?_)
        | (show wcallX _ false (.lit (.func (.func 136) _ _)) _ _ _ _; refine wcallX_fn (h136p00) rfl (by simp [plainL, plain, plainR, renR_rws, plain_rws]) ?_)
        | ((first | refine T_cond rfl (fun hc => ?_) (fun hc => ?_) | refine wguard_split (fun hc => ?_) (fun hc => ?_) | refine wguardX_split (fun hc => ?_) (fun hc => ?_)) <;> have hd := hc <;> (try simp (disch := omega) only [wrapI] at hd) <;> have hs := hd <;> (try simp only [Bool.not_eq_true', Bool.not_eq_false', Bool.and_eq_true, Bool.and_eq_false_iff, Bool.or_eq_true, Bool.or_eq_false_iff, decide_eq_true_eq, decide_eq_false_iff_not, beq_iff_eq, bne_iff_ne, beq_eq_false_iff_ne, bne_eq_false_iff_eq, Bool.not_true, Bool.not_false, gt_iff_lt, ge_iff_le, Int.not_lt, Int.not_le, ne_eq, Decidable.not_not] at hd) <;> (try simp at hs))
        | refine T_ret ?_
        | refine leave_of (.inr rfl) _ rfl ?_
        | refine leave_of (.inl rfl) _ rfl ?_
        | refine leaveA_of (.inr rfl) _ rfl ?_
        | refine leaveA_of (.inl rfl) _ rfl ?_
        | refine wif_intro ?_ (fun hc => ?_)
        | refine And.intro ?_ ?_
        | intro hc
      | simp (maxSteps := 4000000) only [wops_nil, wops_cons, wstep_none, wrun_call, wrun_mv, wrun_bin, wrun_load, wrun_iaddrS, wrun_len, wrun_alloc, wrun_bslice, wop, aop, ev, look, put_some, writes, ores_some, ores_ite_none, ores_map, ores_bind, binV, thenK, intV, lenOf, value, cut, hget, fillA, putCells, AV.parts, isOne, mkAgg, List.flatten_cons, List.flatten_nil, rowsOf, List.map_cons, List.map_nil, List.length_cons, List.length_nil, List.getElem?_cons_zero, List.getElem?_cons_succ, List.set_cons_zero, List.set_cons_succ, List.take_succ_cons, List.take_zero, List.take_nil, List.drop_succ_cons, List.drop_zero, List.drop_nil, List.cons_append, List.nil_append, List.append_nil, List.replicate_zero, List.replicate_succ, List.zipIdx_cons, List.zipIdx_nil, List.all_cons, List.all_nil, Option.pure_def, Option.bind_eq_bind, Option.map_some, if_true, if_false, Nat.reduceEqDiff, Nat.reduceAdd, Nat.add_zero, Nat.zero_add, Nat.mul_one, Nat.le_refl, Nat.zero_ne_one, reduceCtorEq, Bool.and_true, Bool.false_eq_true, eq_self, true_and, and_true, and_self, freeze, lidsL, lids, List.flatMap_cons, List.flatMap_nil, List.all_cons, ren, *]
      | simp (disch := omega) only [getD_ints, wrapI]
      | (with_reducible show wcall _ false (.lit (.func (.func 135) _ _)) _ _ _ _; refine wcall_fn (h135.1) ?_ ?_ ?_; (next => simp [rfyL, rfy, hget, ints, take_rfy, renR_rws, plain_rws]); (next => simp [plainL, plain, plainR, renR_rws, plain_rws]))
      | (with_reducible show wcallX _ false (.lit (.func (.func 135) _ _)) _ _ _ _; refine wcallX_fn (h135.1) ?_ ?_ ?_; (next => simp [rfyL, rfy, hget, ints, take_rfy, renR_rws, plain_rws]); (next => simp [plainL, plain, plainR, renR_rws, plain_rws]))
      | (with_reducible show wcall _ false (.lit (.func (.func 136) _ _)) _ _ _ _; refine wcall_fn (h136q0) ?_ ?_ ?_; (next => simp [rfyL, rfy, hget, ints, take_rfy, renR_rws, plain_rws]); (next => simp [plainL, plain, plainR, renR_rws, plain_rws]))
      | (with_reducible show wcallX _ false (.lit (.func (.func 136) _ _)) _ _ _ _; refine wcallX_fn (h136q0) ?_ ?_ ?_; (next => simp [rfyL, rfy, hget, ints, take_rfy, renR_rws, plain_rws]); (next => simp [plainL, plain, plainR, renR_rws, plain_rws]))
      | (with_reducible show wcall _ false (.lit (.func (.func 136) _ _)) _ _ _ _; refine wcall_fn (h136p00) ?_ ?_ ?_; (next => simp [rfyL, rfy, hget, ints, take_rfy, renR_rws, plain_rws]); (next => simp [plainL, plain, plainR, renR_rws, plain_rws]))
      | (with_reducible show wcallX _ false (.lit (.func (.func 136) _ _)) _ _ _ _; refine wcallX_fn (h136p00) ?_ ?_ ?_; (next => simp [rfyL, rfy, hget, ints, take_rfy, renR_rws, plain_rws]); (next => simp [plainL, plain, plainR, renR_rws, plain_rws]))
      | omega)
    refine T_keep2 [4, 8, 9] [0, 1] ?_ ?_ ?_ ht.1
    all_goals first | (simp; done) | (simp [St.keep, get_mk, look, ren, renL, renR, renB, renO, keepρ, pos, hget]; done)
set_option maxHeartbeats 8000000 in
theorem k82 (h0 : checkF rows h = 0) : Gv 2 Try.prog 82 [.sl nil 1 (rows.map fun r => [ints r.1 r.2]), ints hn h] (if fD rows h = 0 then [.agg [.sl true 0 [], i64 0], bl false] else [fitW rows h, bl true]) := by
  refine gv_of e82 ?_
  have o := checkF_ok h0
  have hk := o.hk
  have hln := o.hn
  obtain ⟨hNl, hNb⟩ := o.N
  have ht := k82t (N := fN rows h) (D := fD rows h) (by omega) hNb o.D (ws := if fD rows h = 0 then [.agg [.sl true 0 [], i64 0], bl false] else [fitW rows h, bl true]) rfl
  generalize (if fD rows h = 0 then [.agg [.sl true 0 [], i64 0], bl false] else [fitW rows h, bl true]) = ws at *
  have hp := plain_rws rows
  have hl2 : (rows.map fun r => [ints r.1 r.2]).length = rows.length := by simp
  have r0 := rws_get (rows := rows) (t := 0) (by omega)
  have e00 : Int.toNat 0 = 0 := rfl
  have e01 : Int.toNat 1 = 1 := rfl
  obtain ⟨_, h140q0, q0⟩ := o.Q (i := 0) (by omega) (rowN rows 0).1 hn
  obtain ⟨_, h140p00, p00⟩ := o.P (i := 0) (j := 0) (by omega) (by omega) (rowN rows 0).1 (rowN rows 0).1
  by_cases h2 : rows.length = 2
  · have r1 := rws_get (rows := rows) (t := 1) (by omega)
    obtain ⟨_, h140q1, q1⟩ := o.Q (i := 1) (by omega) (rowN rows 1).1 hn
    obtain ⟨_, h140p11, p11⟩ := o.P (i := 1) (j := 1) (by omega) (by omega) (rowN rows 1).1 (rowN rows 1).1
    obtain ⟨_, h140p01, p01⟩ := o.P (i := 0) (j := 1) (by omega) (by omega) (rowN rows 0).1 (rowN rows 1).1
    have m1 := mul_bd (x := fQ rows h 0) (y := fP rows h.length 1 1) (A := 10000000) (B := 200000) q0 p11 (by omega)
    have m2 := mul_bd (x := fQ rows h 1) (y := fP rows h.length 0 1) (A := 10000000) (B := 200000) q1 p01 (by omega)
    have m3 := mul_bd (x := fQ rows h 1) (y := fP rows h.length 0 0) (A := 10000000) (B := 200000) q1 p00 (by omega)
    have m4 := mul_bd (x := fQ rows h 0) (y := fP rows h.length 0 1) (A := 10000000) (B := 200000) q0 p01 (by omega)
    have m5 := mul_bd (x := fP rows h.length 0 0) (y := fP rows h.length 1 1) (A := 200000) (B := 200000) p00 p11 (by omega)
    have m6 := mul_bd (x := fP rows h.length 0 1) (y := fP rows h.length 0 1) (A := 200000) (B := 200000) p01 p01 (by omega)
    have eN : fN rows h = [fQ rows h 0 * fP rows h.length 1 1 - fQ rows h 1 * fP rows h.length 0 1, fQ rows h 1 * fP rows h.length 0 0 - fQ rows h 0 * fP rows h.length 0 1] := by unfold fN; rw [if_pos h2]
    have eD : fD rows h = fP rows h.length 0 0 * fP rows h.length 1 1 - fP rows h.length 0 1 * fP rows h.length 0 1 := by unfold fD; rw [if_pos h2]
    rw [eN, eD] at ht
    clear eN eD hNb hNl o h0
    generalize fQ rows h 0 = a0 at *
    generalize fQ rows h 1 = a1 at *
    generalize fP rows h.length 0 0 = b00 at *
    generalize fP rows h.length 1 1 = b11 at *
    generalize fP rows h.length 0 1 = b01 at *
    have ew1 : IntKind.i64.wrap (a0 * b11) = a0 * b11 := wrapI (by omega) (by omega)
    have ew2 : IntKind.i64.wrap (a1 * b01) = a1 * b01 := wrapI (by omega) (by omega)
    have ew3 : IntKind.i64.wrap (a1 * b00) = a1 * b00 := wrapI (by omega) (by omega)
    have ew4 : IntKind.i64.wrap (a0 * b01) = a0 * b01 := wrapI (by omega) (by omega)
    have ew5 : IntKind.i64.wrap (b00 * b11) = b00 * b11 := wrapI (by omega) (by omega)
    have ew6 : IntKind.i64.wrap (b01 * b01) = b01 * b01 := wrapI (by omega) (by omega)
    have ew7 : IntKind.i64.wrap (a0 * b11 - a1 * b01) = a0 * b11 - a1 * b01 := wrapI (by omega) (by omega)
    have ew8 : IntKind.i64.wrap (a1 * b00 - a0 * b01) = a1 * b00 - a0 * b01 := wrapI (by omega) (by omega)
    have ew9 : IntKind.i64.wrap (b00 * b11 - b01 * b01) = b00 * b11 - b01 * b01 := wrapI (by omega) (by omega)
    have hl3 : ((rows.length : Int) == 2) = true := by rw [h2]; rfl
    replace ht := And.intro ht trivial
    rw [c82_cut]
    repeat' (first
      | ((with_reducible refine T_calm ?_ ?_); rfl)
      | with_reducible first
        | refine T_seq ?_
        | refine T_reg ?_
        | refine T_draw ?_
        | refine T_skip ?_
        | refine T_exit ?_
        | refine T_block ?_
        | refine T_cond_t rfl ?_
        | refine T_cond_f rfl ?_
        | refine wdW_cons rfl ?_
        | (show wcall _ false (.lit (.func (.func 140) _ _)) _ _ _ _; refine wcall_fn (h140q0) rfl (by simp [plainL, plain, plainR, renR_rws, plain_rws]) ?_)
        | (show wcallX _ false (.lit (.func (.func 140) _ _)) _ _ _ _; refine wcallX_fn (h140q0) rfl (by simp [plainL, plain]) ?_)
        | (show wcall _ false (.lit (.func (.func 140) _ _)) _ _ _ _; refine wcall_fn (h140p00) rfl (by simp [plainL, plain, plainR, renR_rws, plain_rws]) ?_)
        | (show wcallX _ false (.lit (.func (.func 140) _ _)) _ _ _ _; refine wcallX_fn (h140p00) rfl (by simp [plainL, plain]) ?_)
        | (show wcall _ false (.lit (.func (.func 140) _ _)) _ _ _ _; refine wcall_fn (h140p01) rfl (by simp [plainL, plain, plainR, renR_rws, plain_rws]) ?_)
        | (show wcallX _ false (.lit (.func (.func 140) _ _)) _ _ _ _; refine wcallX_fn (h140p01) rfl (by simp [plainL, plain]) ?_)
        | (show wcall _ false (.lit (.func (.func 140) _ _)) _ _ _ _; refine wcall_fn (h140p11) rfl (by simp [plainL, plain, plainR, renR_rws, plain_rws]) ?_)
        | (show wcallX _ false (.lit (.func (.func 140) _ _)) _ _ _ _; refine wcallX_fn (h140p11) rfl (by simp [plainL, plain]) ?_)
        | (show wcall _ false (.lit (.func (.func 140) _ _)) _ _ _ _; refine wcall_fn (h140q1) rfl (by simp [plainL, plain, plainR, renR_rws, plain_rws]) ?_)
        | (show wcallX _ false (.lit (.func (.func 140) _ _)) _ _ _ _; refine wcallX_fn (h140q1) rfl (by simp [plainL, plain]) ?_)
        | ((first | refine T_cond rfl (fun hc => ?_) (fun hc => ?_) | refine wguard_split (fun hc => ?_) (fun hc => ?_) | refine wguardX_split (fun hc => ?_) (fun hc => ?_)) <;> have hd := hc <;> (try simp (disch := omega) only [wrapI] at hd) <;> have hs := hd <;> (try simp only [Bool.not_eq_true', Bool.not_eq_false', Bool.and_eq_true, Bool.and_eq_false_iff, Bool.or_eq_true, Bool.or_eq_false_iff, decide_eq_true_eq, decide_eq_false_iff_not, beq_iff_eq, bne_iff_ne, beq_eq_false_iff_ne, bne_eq_false_iff_eq, Bool.not_true, Bool.not_false, gt_iff_lt, ge_iff_le, Int.not_lt, Int.not_le, ne_eq, Decidable.not_not] at hd) <;> (try simp at hs))
        | refine T_ret ?_
        | refine leave_of (.inr rfl) _ rfl ?_
        | refine leave_of (.inl rfl) _ rfl ?_
        | refine leaveA_of (.inr rfl) _ rfl ?_
        | refine leaveA_of (.inl rfl) _ rfl ?_
        | refine wif_intro ?_ (fun hc => ?_)
        | refine And.intro ?_ ?_
        | intro hc
      | simp (maxSteps := 4000000) only [wops_nil, wops_cons, wstep_none, wrun_mv, wrun_bin, wrun_build, wrun_load, wrun_store, wrun_iaddrS, wrun_len, wrun_alloc, wrun_bslice, wrunX_mv, wrunX_build, wrunX_load, wrunX_store, wrunX_iaddrS, wrunX_alloc, wrunX_bslice, wdW_nil, wstepX_none, wrunX_call, wop, aop, ev, look, put_some, put_none, writes, ores_some, ores_ite_none, ores_map, ores_bind, wif_true, binV, thenK, intV, lenOf, value, cut, hget, fillA, putCells, AV.parts, isOne, toLits, mkAgg, List.flatten_cons, List.flatten_nil, rowsOf, List.map_cons, List.map_nil, List.length_cons, List.length_nil, List.getElem?_cons_zero, List.getElem?_cons_succ, List.set_cons_zero, List.set_cons_succ, List.take_succ_cons, List.take_zero, List.take_nil, List.drop_succ_cons, List.drop_zero, List.drop_nil, List.cons_append, List.nil_append, List.append_nil, List.append_assoc, List.replicate_zero, List.replicate_succ, List.getD_cons_zero, List.zipIdx_cons, List.zipIdx_nil, List.all_cons, List.all_nil, List.length_append, Option.pure_def, Option.bind_eq_bind, Option.getD_some, Option.map_some, if_true, if_false, Nat.reduceEqDiff, Nat.reduceAdd, Nat.reduceLeDiff, Nat.reduceLT, Nat.add_zero, Nat.zero_add, Nat.mul_one, Nat.le_refl, Nat.zero_ne_one, reduceCtorEq, Bool.and_true, Bool.false_eq_true, eq_self, true_and, and_true, and_self, freeze, lidsL, lids, List.flatMap_cons, List.flatMap_nil, List.all_cons, ren, *]
      | simp (disch := omega) only [getD_ints, wrapI]
      | (with_reducible show wcall _ false (.lit (.func (.func 140) _ _)) _ _ _ _; refine wcall_fn (h140q0) ?_ ?_ ?_; (next => simp [rfyL, rfy, hget, ints, take_rfy, renR_rws, plain_rws]); (next => simp [plainL, plain, plainR, renR_rws, plain_rws]))
      | (with_reducible show wcallX _ false (.lit (.func (.func 140) _ _)) _ _ _ _; refine wcallX_fn (h140q0) ?_ ?_ ?_; (next => simp [rfyL, rfy, hget, ints, take_rfy, renR_rws, plain_rws]); (next => simp [plainL, plain, plainR, renR_rws, plain_rws]))
      | (with_reducible show wcall _ false (.lit (.func (.func 140) _ _)) _ _ _ _; refine wcall_fn (h140p00) ?_ ?_ ?_; (next => simp [rfyL, rfy, hget, ints, take_rfy, renR_rws, plain_rws]); (next => simp [plainL, plain, plainR, renR_rws, plain_rws]))
      | (with_reducible show wcallX _ false (.lit (.func (.func 140) _ _)) _ _ _ _; refine wcallX_fn (h140p00) ?_ ?_ ?_; (next => simp [rfyL, rfy, hget, ints, take_rfy, renR_rws, plain_rws]); (next => simp [plainL, plain, plainR, renR_rws, plain_rws]))
      | (with_reducible show wcall _ false (.lit (.func (.func 140) _ _)) _ _ _ _; refine wcall_fn (h140p01) ?_ ?_ ?_; (next => simp [rfyL, rfy, hget, ints, take_rfy, renR_rws, plain_rws]); (next => simp [plainL, plain, plainR, renR_rws, plain_rws]))
      | (with_reducible show wcallX _ false (.lit (.func (.func 140) _ _)) _ _ _ _; refine wcallX_fn (h140p01) ?_ ?_ ?_; (next => simp [rfyL, rfy, hget, ints, take_rfy, renR_rws, plain_rws]); (next => simp [plainL, plain, plainR, renR_rws, plain_rws]))
      | (with_reducible show wcall _ false (.lit (.func (.func 140) _ _)) _ _ _ _; refine wcall_fn (h140p11) ?_ ?_ ?_; (next => simp [rfyL, rfy, hget, ints, take_rfy, renR_rws, plain_rws]); (next => simp [plainL, plain, plainR, renR_rws, plain_rws]))
      | (with_reducible show wcallX _ false (.lit (.func (.func 140) _ _)) _ _ _ _; refine wcallX_fn (h140p11) ?_ ?_ ?_; (next => simp [rfyL, rfy, hget, ints, take_rfy, renR_rws, plain_rws]); (next => simp [plainL, plain, plainR, renR_rws, plain_rws]))
      | (with_reducible show wcall _ false (.lit (.func (.func 140) _ _)) _ _ _ _; refine wcall_fn (h140q1) ?_ ?_ ?_; (next => simp [rfyL, rfy, hget, ints, take_rfy, renR_rws, plain_rws]); (next => simp [plainL, plain, plainR, renR_rws, plain_rws]))
      | (with_reducible show wcallX _ false (.lit (.func (.func 140) _ _)) _ _ _ _; refine wcallX_fn (h140q1) ?_ ?_ ?_; (next => simp [rfyL, rfy, hget, ints, take_rfy, renR_rws, plain_rws]); (next => simp [plainL, plain, plainR, renR_rws, plain_rws]))
      | omega)
    refine T_keep2 [4, 6] [0, 2, 3] ?_ ?_ ?_ ht.1
    all_goals first | (simp; done) | (simp [St.keep, get_mk, look, ren, renL, renR, renB, renO, keepρ, pos, hget]; done)
  · have h1 : rows.length = 1 := by omega
    have eN : fN rows h = [fQ rows h 0] := by unfold fN; rw [if_neg h2]
    have eD : fD rows h = fP rows h.length 0 0 := by unfold fD; rw [if_neg h2]
    rw [eN, eD] at ht
    clear eN eD hNb hNl o h0
    generalize fQ rows h 0 = a0 at *
    generalize fP rows h.length 0 0 = b00 at *
    have hl3 : ((rows.length : Int) == 2) = false := by rw [h1]; rfl
    replace ht := And.intro ht trivial
    rw [c82_cut]
    repeat' (first
      | ((with_reducible refine T_calm ?_ ?_); rfl)
      | with_reducible first
        | refine T_seq ?_
        | refine T_reg ?_
        | refine T_draw ?_
        | refine T_skip ?_
        | refine T_exit ?_
        | refine T_block ?_
        | refine T_cond_t rfl ?_
        | refine T_cond_f rfl ?_
        | refine wdW_cons rfl ?_
        | (show wcall _ false (.lit (.func (.func 140) _ _)) _ _ _ _; refine wcall_fn (h140q0) rfl (by simp [plainL, plain, plainR, renR_rws, plain_rws]) ?_)
        | (show wcallX _ false (.lit (.func (.func 140) _ _)) _ _ _ _; refine wcallX_fn (h140q0) rfl (by simp [plainL, plain]) ?_)
        | (show wcall _ false (.lit (.func (.func 140) _ _)) _ _ _ _; refine wcall_fn (h140p00) rfl (by simp [plainL, plain, plainR, renR_rws, plain_rws]) ?_)
        | (show wcallX _ false (.lit (.func (.func 140) _ _)) _ _ _ _; refine wcallX_fn (h140p00) rfl (by simp [plainL, plain]) ?_)
        | ((first | refine T_cond rfl (fun hc => ?_) (fun hc => ?_) | refine wguard_split (fun hc => ?_) (fun hc => ?_) | refine wguardX_split (fun hc => ?_) (fun hc => ?_)) <;> have hd := hc <;> (try simp (disch := omega) only [wrapI] at hd) <;> have hs := hd <;> (try simp only [Bool.not_eq_true', Bool.not_eq_false', Bool.and_eq_true, Bool.and_eq_false_iff, Bool.or_eq_true, Bool.or_eq_false_iff, decide_eq_true_eq, decide_eq_false_iff_not, beq_iff_eq, bne_iff_ne, beq_eq_false_iff_ne, bne_eq_false_iff_eq, Bool.not_true, Bool.not_false, gt_iff_lt, ge_iff_le, Int.not_lt, Int.not_le, ne_eq, Decidable.not_not] at hd) <;> (try simp at hs))
        | refine T_ret ?_
        | refine leave_of (.inr rfl) _ rfl ?_
        | refine leave_of (.inl rfl) _ rfl ?_
        | refine leaveA_of (.inr rfl) _ rfl ?_
        | refine leaveA_of (.inl rfl) _ rfl ?_
        | refine wif_intro ?_ (fun hc => ?_)
        | refine And.intro ?_ ?_
        | intro hc
      | simp (maxSteps := 4000000) only [wops_nil, wops_cons, wstep_none, wrun_mv, wrun_bin, wrun_build, wrun_load, wrun_store, wrun_iaddrS, wrun_len, wrun_alloc, wrun_bslice, wrunX_mv, wrunX_build, wrunX_load, wrunX_store, wrunX_iaddrS, wrunX_alloc, wrunX_bslice, wdW_nil, wstepX_none, wrunX_call, wop, aop, ev, look, put_some, put_none, writes, ores_some, ores_ite_none, ores_map, ores_bind, binV, thenK, intV, lenOf, value, cut, hget, fillA, putCells, AV.parts, isOne, toLits, mkAgg, List.flatten_cons, List.flatten_nil, rowsOf, List.map_cons, List.map_nil, List.length_cons, List.length_nil, List.getElem?_cons_zero, List.getElem?_cons_succ, List.set_cons_zero, List.set_cons_succ, List.take_succ_cons, List.take_zero, List.take_nil, List.drop_succ_cons, List.drop_zero, List.drop_nil, List.cons_append, List.nil_append, List.append_nil, List.replicate_zero, List.replicate_succ, List.getD_cons_zero, List.zipIdx_cons, List.zipIdx_nil, List.all_cons, List.all_nil, Option.pure_def, Option.bind_eq_bind, Option.getD_some, Option.map_some, if_true, if_false, Nat.reduceEqDiff, Nat.reduceAdd, Nat.reduceLeDiff, Nat.reduceLT, Nat.add_zero, Nat.zero_add, Nat.mul_one, Nat.le_refl, Nat.zero_ne_one, reduceCtorEq, Bool.and_true, Bool.false_eq_true, eq_self, true_and, and_true, and_self, freeze, lidsL, lids, List.flatMap_cons, List.flatMap_nil, List.all_cons, ren, *]
      | simp (disch := omega) only [getD_ints, wrapI]
      | (with_reducible show wcall _ false (.lit (.func (.func 140) _ _)) _ _ _ _; refine wcall_fn (h140q0) ?_ ?_ ?_; (next => simp [rfyL, rfy, hget, ints, take_rfy, renR_rws, plain_rws]); (next => simp [plainL, plain, plainR, renR_rws, plain_rws]))
      | (with_reducible show wcallX _ false (.lit (.func (.func 140) _ _)) _ _ _ _; refine wcallX_fn (h140q0) ?_ ?_ ?_; (next => simp [rfyL, rfy, hget, ints, take_rfy, renR_rws, plain_rws]); (next => simp [plainL, plain, plainR, renR_rws, plain_rws]))
      | (with_reducible show wcall _ false (.lit (.func (.func 140) _ _)) _ _ _ _; refine wcall_fn (h140p00) ?_ ?_ ?_; (next => simp [rfyL, rfy, hget, ints, take_rfy, renR_rws, plain_rws]); (next => simp [plainL, plain, plainR, renR_rws, plain_rws]))
      | (with_reducible show wcallX _ false (.lit (.func (.func 140) _ _)) _ _ _ _; refine wcallX_fn (h140p00) ?_ ?_ ?_; (next => simp [rfyL, rfy, hget, ints, take_rfy, renR_rws, plain_rws]); (next => simp [plainL, plain, plainR, renR_rws, plain_rws]))
      | omega)
    refine T_keep2 [4, 6] [0, 2, 1] ?_ ?_ ?_ ht.1
    all_goals first | (simp; done) | (simp [St.keep, get_mk, look, ren, renL, renR, renB, renO, keepρ, pos, hget]; done)
end
end Go.Abs
