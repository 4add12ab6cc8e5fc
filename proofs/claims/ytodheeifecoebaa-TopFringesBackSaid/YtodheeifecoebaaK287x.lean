import Derived.Test.YtodheeifecoebaaK286x
set_option linter.all false
set_option linter.unusedVariables false
set_option linter.unusedSimpArgs false
set_option linter.unusedSectionVars false
namespace Go.Abs
open Go.Proofs
/-! profile.Unwrap: the steps of a cell -/
structure I42 (B : Nat) (nil : Bool) (w : Int) (ph : List Int) (o : List Nat) (h fr : Nat → Int) (cell k : Nat) (H : List Blk) : Prop where
  m : M42 w nil ph o h fr H
  k : ∀ j x, j < k → (tail146 w cell ph 0)[j]? = some x → okN ph h cell x.toNat
  c : H[B]? = some (.cells true false 1 [[i64 cell]])
  g : H[B + 1]? = some (.cells true false 2 [[i64 w, ints nil ph]])
  d : H[B + 2]? = some (.cells true false 1 [[i64 cell]])
section
variable {w : Int} {nil : Bool} {ph : List Int} {o : List Nat} {h fr : Nat → Int} {H : List Blk} {cell B : Nat}
theorem r42 (hl : ph.length ≤ 144) (hp : okPh ph) (hw : 1 ≤ w ∧ w ≤ 1000000) (hs : PcF w ph ph.length o h fr) (hcell : thN ph cell = true) {sl : List (Nat × AV)} {K : Exit → St → Prop} (hlen : H.length = B + 3) (hB : 9 ≤ B)
    (s2 : look sl 2 = .loc 1 0 0) (s3 : look sl 3 = .loc 2 0 0) (s4 : look sl 4 = .loc 3 0 0) (s7 : look sl 7 = .loc 8 0 0) (s9 : look sl 9 = .loc B 0 0) (s72 : look sl 72 = .clo (.func 146) [] [.loc (B + 2) 0 0, .loc (B + 1) 0 0])
    (h0 : I42 B nil w ph o h fr cell 0 (H ++ [.obj .lpx])) (hK : ∀ H', I42 B nil w ph o h fr cell (tail146 w cell ph 0).length H' → K .normal ⟨sl, H'⟩) (hR : ∀ H', Bad42 w ph H' → K .ret ⟨sl, H'⟩) :
    T none Try.prog muts 106 0 (.range (.tmp 72) [73] (.reg 0 [⟨(some 10), (.mv (.tmp 73)), none, 0⟩]) c42r1) ⟨sl, H⟩ K := by
  have hcn := thN_lt hcell
  refine T_range (gf := 146) (first := []) (cap := [.loc (B + 2) 0 0, .loc (B + 1) 0 0]) (n := (tail146 w cell ph 0).length) (E := fun k _ args => ∃ x, (tail146 w cell ph 0)[k]? = some x ∧ args = [i64 x]) (Bc := Grid (B + 2) (B + 1) w cell nil ph)
    (I42 B nil w ph o h fr cell) (fun e H' => e = .ret ∧ Bad42 w ph H') ?_ (i146 (B + 2) (B + 1) w cell nil ph hw (by omega) (by omega) _ rfl) (fun k H' hI => ⟨⟨_, _, hI.d⟩, _, _, hI.g⟩) (fun H' r s hg hh => grid_set hg hh) (fun k H' r s args he _ => he) h0 ?_ hK (fun e H' hX => by obtain ⟨rfl, hX⟩ := hX; exact hR H' hX)
  · show target (look sl 72) = _
    rw [s72]; rfl
  rintro k H' args hk ⟨hm, hk', hc, hg, hd⟩ hlp ⟨x, hx, rfl⟩
  refine ⟨rfl, (10, i64 x) :: (73, i64 x) :: sl, rfl, fun l => ?_⟩
  have hlp' : H'[B + 3]? = some (.obj .lpx) := by rw [← hlen]; exact hlp
  have hlt := (List.getElem?_eq_some_iff.1 hlp').1
  obtain ⟨b, rfl, he⟩ := tail_mem (List.mem_of_getElem? hx) hcell
  refine T_onlyW (S := ⟨SLr42 B b, H'⟩) [2, 3, 4, 7, 9, 10] ?_ (k42r hl hp hs hm hB hc he _ ?_ ?_)
  · simp [St.only, get_mk, look, s2, s3, s4, s7, s9]
  · rintro hok ⟨_, H1⟩ rfl
    refine ⟨?_, ⟨hm, fun j y hj hy => ?_, hc, hg, hd⟩⟩
    · show H1[H.length]? = _
      exact hlp
    · rcases Nat.lt_succ_iff_lt_or_eq.1 hj with h | rfl
      · exact hk' j y h hy
      · rw [hx] at hy; cases hy; simpa using hok
  · intro τ hbad hsame
    refine ⟨?_, rfl, hbad⟩
    show τ.heap[H.length]? = _
    rw [hlen, hsame _ (by omega) (by omega)]; exact hlp'
abbrev SLt42 (n c : Nat) : List (Nat × AV) := [(2, .loc 1 0 0), (3, .loc 2 0 0), (4, .loc 3 0 0), (7, .loc 8 0 0), (56, i64 n), (57, i64 c)]
set_option maxHeartbeats 8000000 in
theorem k42l2 (hl : ph.length ≤ 144) (hp : okPh ph) (hw : 1 ≤ w ∧ w ≤ 1000000) (hs : PcF w ph ph.length o h fr) (hm : M42 w nil ph o h fr H) (hc : cell < ph.length) (K : Exit → St → Prop)
    (hbad : ∀ sl H', look sl 2 = .loc 1 0 0 → look sl 3 = .loc 2 0 0 → look sl 4 = .loc 3 0 0 → Bad42 w ph H' → K .ret ⟨sl, H'⟩) :
    T none Try.prog muts 106 0 c42l2 ⟨SLt42 ph.length cell, H⟩ (thenK (fun s' => (∀ b, edN w ph cell b = true → okN ph h cell b) ∧ M42 w nil ph o h fr s'.heap ∧ (s'.only [2, 3, 4, 7, 56, 57]).slots = SLt42 ph.length (cell + 1)) K) := by
  obtain ⟨hm, hH⟩ := hm
  have h105 := k105 w nil ph cell (by omega)
  obtain ⟨mt, mh, mf, mr, mo⟩ := id hm
  have g8 : H[8]? = some (.cells true false 1 [[.loc 7 0 0]]) := by rw [mo 8 (by show 8 < 9; omega) (by omega) (by omega) (by omega)]; rfl
  have hth : thereB ph (cell : Int) = thN ph cell := rfl
  rw [hth] at h105
  have hcc : ((cell : Int) < (ph.length : Int)) := by omega
  have a8 := at_in g8
  have a7 := at_in mt
  obtain ⟨u1, u2, u3, u4⟩ := cells_sub (X := []) (H := H) rfl
  have hmA : ∀ X, M42 w nil ph o h fr (H ++ X) := fun X => ⟨hm.app (by show 9 ≤ _; omega) X, by rw [List.length_append]; omega⟩
  have hfal : thN ph cell = false → ∀ b, edN w ph cell b = true → okN ph h cell b := fun hf b he => by
    unfold edN at he
    simp only [Bool.and_eq_true] at he
    have : thereB ph (cell : Int) = true := he.1.1
    rw [hth, hf] at this; simp at this
  cases ht : thN ph cell with
  | false =>
    have f := PLift.up (hfal ht)
    rw [ht] at h105
    replace hmA := PLift.up hmA
    clear hs hm mo hp mh mf mr mt g8 hbad hfal hth
    unfold FoB at a7
    unfold c42l2
    repeat' (first
      | ((with_reducible refine T_calm ?_ ?_); rfl)
      | with_reducible first
        | refine T_seq ?_
        | refine T_reg ?_
        | refine T_draw ?_
        | refine T_skip ?_
        | refine T_exit ?_
        | refine T_block ?_
        | refine T_cond_t rfl ?_
        | refine T_cond_f rfl ?_
        | refine wdW_cons rfl ?_
        | (show wcall _ false (.lit (.func (.func 105) _ _)) _ _ _ _; refine wcall_fn (h105) rfl (by simp [plainL, plain, plainR, Int.toNat_natCast]) ?_)
        | (show wcallX _ false (.lit (.func (.func 105) _ _)) _ _ _ _; refine wcallX_fn (h105) rfl (by simp [plainL, plain]) ?_)
        | ((first | refine T_cond rfl (fun hc => ?_) (fun hc => ?_) | refine wguard_split (fun hc => ?_) (fun hc => ?_) | refine wguardX_split (fun hc => ?_) (fun hc => ?_)) <;> have hd := hc <;> (try simp (disch := omega) only [wrapI] at hd) <;> have hs := hd <;> (try simp only [Bool.not_eq_true', Bool.not_eq_false', Bool.and_eq_true, Bool.and_eq_false_iff, Bool.or_eq_true, Bool.or_eq_false_iff, decide_eq_true_eq, decide_eq_false_iff_not, beq_iff_eq, bne_iff_ne, beq_eq_false_iff_ne, bne_eq_false_iff_eq, Bool.not_true, Bool.not_false, gt_iff_lt, ge_iff_le, Int.not_lt, Int.not_le, ne_eq, Decidable.not_not] at hd) <;> (try simp at hs))
        | refine T_ret ?_
        | refine wif_intro ?_ (fun hc => ?_)
        | refine And.intro ?_ ?_
        | intro hc
      | simp (maxSteps := 4000000) only [wops_nil, wops_cons, wstep_none, wrun_mv, wrun_bin, wrun_not, wrun_load, wrun_store, wrun_faddr, wrun_nilck, wrun_alloc, wrunX_not, wrunX_load, wrunX_faddr, wrunX_nilck, wdW_nil, wstepX_none, wrunX_call, wop, aop, ev, look, put_some, put_none, writes, ores_some, binV, thenK, blockK, boolV, value, cut, hget, putCells, AV.parts, isOne, toLits, mkAgg, List.map_cons, List.map_nil, List.length_cons, List.length_nil, List.getElem?_cons_zero, List.set_cons_zero, List.take_succ_cons, List.take_zero, List.take_nil, List.drop_succ_cons, List.drop_zero, List.drop_nil, List.nil_append, List.append_nil, List.append_assoc, List.replicate_zero, List.replicate_succ, List.getD_cons_zero, List.all_cons, List.all_nil, List.length_append, Option.getD_some, Option.map_some, Option.map_none, if_true, if_false, Nat.reduceEqDiff, Nat.reduceAdd, Nat.reduceLeDiff, Nat.reduceLT, Nat.add_zero, Nat.zero_add, Nat.le_refl, reduceCtorEq, Bool.not_false, Bool.and_true, Bool.false_eq_true, eq_self, true_and, and_self, decide_true, freeze, lidsL, lids, List.flatMap_cons, List.flatMap_nil, List.all_cons, ren, Int.toNat_natCast, *]
      | simp (disch := omega) only [wrapI]
      | (with_reducible show wcall _ false (.lit (.func (.func 105) _ _)) _ _ _ _; refine wcall_fn (h105) ?_ ?_ ?_; (next => simp [rfyL, rfy, hget, ints, take_rfy, Int.toNat_natCast]); (next => simp [plainL, plain, plainR, Int.toNat_natCast]))
      | (with_reducible show wcallX _ false (.lit (.func (.func 105) _ _)) _ _ _ _; refine wcallX_fn (h105) ?_ ?_ ?_; (next => simp [rfyL, rfy, hget, ints, take_rfy, Int.toNat_natCast]); (next => simp [plainL, plain, plainR, Int.toNat_natCast]))
      | omega)
    all_goals first | exact f.down _ (by assumption) | exact (hmA.down _).1 | exact (hmA.down _).2 | (simp [St.only, get_mk, look]; done)
  | true =>
    rw [ht] at h105
    have h107 := k107 w nil ph cell
    have hfin : ∀ (sl : List (Nat × AV)) K, look sl 2 = .loc 1 0 0 → look sl 3 = .loc 2 0 0 → look sl 4 = .loc 3 0 0 → look sl 7 = .loc 8 0 0 → look sl 9 = .loc H.length 0 0 → look sl 72 = .clo (.func 146) [] [.loc (H.length + 2) 0 0, .loc (H.length + 1) 0 0] →
        (∀ H', (∀ b, edN w ph cell b = true → okN ph h cell b) → M42 w nil ph o h fr H' → K .normal ⟨sl, H'⟩) → (∀ H', Bad42 w ph H' → K .ret ⟨sl, H'⟩) →
        T none Try.prog muts 106 0 (.range (.tmp 72) [73] (.reg 0 [⟨(some 10), (.mv (.tmp 73)), none, 0⟩]) c42r1) ⟨sl, H ++ [.cells true false 1 [[i64 cell]], .cells true false 2 [[i64 w, ints nil ph]], .cells true false 1 [[i64 cell]]]⟩ K := fun sl K s2 s3 s4 s7 s9 s72 hK hR => by
      refine r42 (nil := nil) (cell := cell) (fr := fr) (o := o) (h := h) hl hp hw hs ht (B := H.length) (by simp) hH s2 s3 s4 s7 s9 s72 ?_ ?_ hR
      · rw [List.append_assoc]
        exact ⟨hmA _, fun j x hj => by omega, by rw [u1]; rfl, by rw [u2]; rfl, by rw [u2]; rfl⟩
      · intro H' hI
        refine hK H' (fun b he => ?_) hI.m
        obtain ⟨j, hj, hjb⟩ := List.mem_iff_getElem.1 (tail_all he)
        have := hI.k j b hj (by rw [List.getElem?_eq_getElem hj, hjb])
        simpa using this
    replace hfin := PLift.up hfin
    replace hbad := PLift.up hbad
    clear hs hm mo hp mh mf mr mt g8 hfal hth hmA
    unfold FoB at a7
    unfold c42l2
    repeat' (first
      | ((with_reducible refine T_calm ?_ ?_); rfl)
      | with_reducible first
        | refine T_seq ?_
        | refine T_reg ?_
        | refine T_draw ?_
        | refine T_skip ?_
        | refine T_exit ?_
        | refine T_block ?_
        | refine T_cond_t rfl ?_
        | refine T_cond_f rfl ?_
        | refine wdW_cons rfl ?_
        | (show wcall _ false (.lit (.func (.func 105) _ _)) _ _ _ _; refine wcall_fn (h105) rfl (by simp [plainL, plain, plainR, Int.toNat_natCast]) ?_)
        | (show wcallX _ false (.lit (.func (.func 105) _ _)) _ _ _ _; refine wcallX_fn (h105) rfl (by simp [plainL, plain]) ?_)
        | (show wcall _ false (.lit (.func (.func 107) _ _)) _ _ _ _; refine wcall_fn (h107) rfl (by simp [plainL, plain, plainR, Int.toNat_natCast]) ?_)
        | (show wcallX _ false (.lit (.func (.func 107) _ _)) _ _ _ _; refine wcallX_fn (h107) rfl (by simp [plainL, plain]) ?_)
        | ((first | refine T_cond rfl (fun hc => ?_) (fun hc => ?_) | refine wguard_split (fun hc => ?_) (fun hc => ?_) | refine wguardX_split (fun hc => ?_) (fun hc => ?_)) <;> have hd := hc <;> (try simp (disch := omega) only [wrapI] at hd) <;> have hs := hd <;> (try simp only [Bool.not_eq_true', Bool.not_eq_false', Bool.and_eq_true, Bool.and_eq_false_iff, Bool.or_eq_true, Bool.or_eq_false_iff, decide_eq_true_eq, decide_eq_false_iff_not, beq_iff_eq, bne_iff_ne, beq_eq_false_iff_ne, bne_eq_false_iff_eq, Bool.not_true, Bool.not_false, gt_iff_lt, ge_iff_le, Int.not_lt, Int.not_le, ne_eq, Decidable.not_not] at hd) <;> (try simp at hs))
        | refine T_ret ?_
        | refine wif_intro ?_ (fun hc => ?_)
        | refine And.intro ?_ ?_
        | intro hc
      | simp (maxSteps := 4000000) only [wops_nil, wops_cons, wstep_none, wrun_mv, wrun_bin, wrun_not, wrun_load, wrun_store, wrun_faddr, wrun_nilck, wrun_alloc, wrunX_not, wrunX_load, wrunX_faddr, wrunX_nilck, wdW_nil, wstepX_none, wrunX_call, wop, aop, ev, look, put_some, put_none, writes, ores_some, binV, thenK, boolV, value, cut, hget, putCells, AV.parts, isOne, toLits, mkAgg, List.map_cons, List.map_nil, List.length_cons, List.length_nil, List.getElem?_cons_zero, List.set_cons_zero, List.take_succ_cons, List.take_zero, List.take_nil, List.drop_succ_cons, List.drop_zero, List.drop_nil, List.cons_append, List.nil_append, List.append_nil, List.append_assoc, List.replicate_zero, List.replicate_succ, List.getD_cons_zero, List.all_cons, List.all_nil, List.length_append, Option.getD_some, Option.map_some, Option.map_none, if_true, if_false, Nat.reduceEqDiff, Nat.reduceAdd, Nat.reduceLT, Nat.add_zero, Nat.zero_add, Nat.le_refl, reduceCtorEq, Bool.not_true, Bool.and_true, Bool.false_eq_true, eq_self, true_and, and_self, decide_true, freeze, lidsL, lids, List.flatMap_cons, List.flatMap_nil, List.all_cons, ren, renL, renR, renB, shiftρ, renR_ints, Int.toNat_natCast, *]
      | simp (disch := omega) only [getD_ints, wrapI]
      | (with_reducible show wcall _ false (.lit (.func (.func 105) _ _)) _ _ _ _; refine wcall_fn (h105) ?_ ?_ ?_; (next => simp [rfyL, rfy, hget, ints, take_rfy, Int.toNat_natCast]); (next => simp [plainL, plain, plainR, Int.toNat_natCast]))
      | (with_reducible show wcallX _ false (.lit (.func (.func 105) _ _)) _ _ _ _; refine wcallX_fn (h105) ?_ ?_ ?_; (next => simp [rfyL, rfy, hget, ints, take_rfy, Int.toNat_natCast]); (next => simp [plainL, plain, plainR, Int.toNat_natCast]))
      | (with_reducible show wcall _ false (.lit (.func (.func 107) _ _)) _ _ _ _; refine wcall_fn (h107) ?_ ?_ ?_; (next => simp [rfyL, rfy, hget, ints, take_rfy, Int.toNat_natCast]); (next => simp [plainL, plain, plainR, Int.toNat_natCast]))
      | (with_reducible show wcallX _ false (.lit (.func (.func 107) _ _)) _ _ _ _; refine wcallX_fn (h107) ?_ ?_ ?_; (next => simp [rfyL, rfy, hget, ints, take_rfy, Int.toNat_natCast]); (next => simp [plainL, plain, plainR, Int.toNat_natCast]))
      | omega)
    refine hfin.down _ _ (by simp [look]) (by simp [look]) (by simp [look]) (by simp [look]) (by simp [look]) (by simp [look]; omega) (fun H' hok hm' => ?_) (fun H' hb => hbad.down _ H' (by simp [look]) (by simp [look]) (by simp [look]) hb)
    replace hok := PLift.up hok
    replace hm' := PLift.up hm'
    clear hfin hbad h105 h107 a7 a8 u1 u2 u3 u4
    change T none Try.prog muts 106 0 _ _ _
    repeat' (first
      | ((with_reducible refine T_calm ?_ ?_); rfl)
      | with_reducible first
        | refine T_seq ?_
        | refine T_reg ?_
        | refine T_draw ?_
        | refine T_skip ?_
        | refine T_exit ?_
        | refine T_block ?_
        | refine T_cond_t rfl ?_
        | refine T_cond_f rfl ?_
        | refine wdW_cons rfl ?_
        | ((first | refine T_cond rfl (fun hc => ?_) (fun hc => ?_) | refine wguard_split (fun hc => ?_) (fun hc => ?_) | refine wguardX_split (fun hc => ?_) (fun hc => ?_)) <;> have hd := hc <;> (try simp (disch := omega) only [wrapI] at hd) <;> have hs := hd <;> (try simp only [Bool.not_eq_true', Bool.not_eq_false', Bool.and_eq_true, Bool.and_eq_false_iff, Bool.or_eq_true, Bool.or_eq_false_iff, decide_eq_true_eq, decide_eq_false_iff_not, beq_iff_eq, bne_iff_ne, beq_eq_false_iff_ne, bne_eq_false_iff_eq, Bool.not_true, Bool.not_false, gt_iff_lt, ge_iff_le, Int.not_lt, Int.not_le, ne_eq, Decidable.not_not] at hd) <;> (try simp at hs))
        | refine T_ret ?_
        | refine wif_intro ?_ (fun hc => ?_)
        | refine And.intro ?_ ?_
        | intro hc
      | simp (maxSteps := 4000000) only [wops_nil, wops_cons, wstep_none, wrun_mv, wrun_bin, wop, aop, ev, look, put_some, writes, ores_some, binV, thenK, List.append_nil, List.replicate_zero, Option.map_some, if_true, if_false, Nat.reduceEqDiff, reduceCtorEq, eq_self, *]
      | simp (disch := omega) only [wrapI]
      | omega)
    all_goals first | exact hok.down _ (by assumption) | exact hm'.down.1 | exact hm'.down.2 | (simp [St.only, get_mk, look]; done)
end
end Go.Abs
