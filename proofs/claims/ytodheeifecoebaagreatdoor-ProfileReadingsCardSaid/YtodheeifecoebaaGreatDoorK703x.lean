import Derived.Test.YtodheeifecoebaaGreatDoorK702
set_option linter.all false
set_option linter.unusedVariables false
set_option linter.unusedSimpArgs false
set_option linter.unusedSectionVars false
namespace Go.Abs
open Go.Proofs
def vz (w : ByteArray) (c : Bool) : Int := if c then (rdI w).getD 0 else 0
abbrev S13k (w0 w1 w2 w3 w4 : ByteArray) (k : Nat) : St := S13 w0 w1 w2 w3 w4 (vz w1 (decide (0 < k))) (vz w2 (decide (1 < k))) (vz w3 (decide (2 < k))) (vz w4 (decide (3 < k))) k
def I13 (w1 w2 w3 w4 : ByteArray) (k : Nat) : Prop := ∀ i w, i < k → [w1, w2, w3, w4][i]? = some w → rdI w ≠ none
theorem I13.step {w1 w2 w3 w4 w : ByteArray} {k : Nat} (h : I13 w1 w2 w3 w4 k) (hk : [w1, w2, w3, w4][k]? = some w) (hw : rdI w ≠ none) : I13 w1 w2 w3 w4 (k + 1) := by
  intro i x hi hx
  rcases Nat.lt_succ_iff_lt_or_eq.1 hi with h1 | rfl
  · exact h i x h1 hx
  · rw [hk] at hx; obtain rfl := Option.some.inj hx; exact hw
theorem prsW_no {w0 w1 w2 w3 w4 w : ByteArray} {k : Nat} (hk : [w1, w2, w3, w4][k]? = some w) (hw : rdI w = none) : prsW w0 w1 w2 w3 w4 = none := by
  unfold prsW
  match k, hk with
  | 0, h => obtain rfl := Option.some.inj h; rw [hw]
  | 1, h => obtain rfl := Option.some.inj h; rw [hw]; split <;> simp_all
  | 2, h => obtain rfl := Option.some.inj h; rw [hw]; split <;> simp_all
  | 3, h => obtain rfl := Option.some.inj h; rw [hw]; split <;> simp_all
theorem prsW_all {w0 w1 w2 w3 w4 : ByteArray} (h : I13 w1 w2 w3 w4 4) : prsW w0 w1 w2 w3 w4 = some (w0, ⟨vz w1 true, vz w2 true, vz w3 true, vz w4 true⟩) := by
  have h1 := h 0 w1 (by omega) rfl
  have h2 := h 1 w2 (by omega) rfl
  have h3 := h 2 w3 (by omega) rfl
  have h4 := h 3 w4 (by omega) rfl
  unfold prsW vz
  cases e1 : rdI w1 <;> cases e2 : rdI w2 <;> cases e3 : rdI w3 <;> cases e4 : rdI w4 <;> simp_all
set_option maxHeartbeats 8000000 in
theorem k13p {w0 w1 w2 w3 w4 : ByteArray} {s : ByteArray} (hwz : ∀ w ∈ [w1, w2, w3, w4], w.size ≤ 1000) (hp : pieces s ⟨#[32]⟩ = [w0, w1, w2, w3, w4]) (hz : s.size ≤ 1000) (hn : decide (0 ≤ Lib.indexByte s.data.toList 10) = false) :
    Fn Tryz.prog 13 [strV s] (prsV (i64 0) (i64 7) (prsW w0 w1 w2 w3 w4)) [] := by
  refine fn_of e13 ?_
  have h32 := k32 s ⟨#[32]⟩ (by omega) (by rw [size_strlit]; omega)
  rw [hp] at h32
  have h33 := k33 s 10
  rw [hn] at h33
  have hR : I13 w1 w2 w3 w4 4 → prsV (i64 0) (i64 7) (prsW w0 w1 w2 w3 w4) = .tup [mrd w0 ⟨vz w1 true, vz w2 true, vz w3 true, vz w4 true⟩, i64 0] := fun h => by rw [prsW_all h]; rfl
  have hB : ∀ k w, [w1, w2, w3, w4][k]? = some w → rdI w = none → prsV (i64 0) (i64 7) (prsW w0 w1 w2 w3 w4) = .tup [mr0, i64 7] := fun k w h1 h2 => by rw [prsW_no h1 h2]; rfl
  generalize prsV (i64 0) (i64 7) (prsW w0 w1 w2 w3 w4) = R at *
  replace hR := And.intro hR trivial
  replace hB := And.intro hB trivial
  replace hwz := And.intro hwz trivial
  clear hp hn
  unfold c13
  repeat' (first | ((with_reducible refine T_calm ?_ ?_); rfl) | (with_reducible first | refine T_seq ?_ | refine T_reg ?_ | refine T_draw ?_ | refine T_skip ?_ | refine T_exit ?_ | refine T_block ?_ | refine T_cond_t rfl ?_ | refine T_cond_f rfl ?_ | refine wdW_cons rfl ?_ | (show wcall _ false (.lit (.func (.func 32) _ _)) _ _ _ _; refine wcall_fn (h32) rfl (by simp [plainL, plain]) ?_) | (show wcallX _ false (.lit (.func (.func 32) _ _)) _ _ _ _; refine wcallX_fn (h32) rfl (by simp [plainL, plain, plainR, Int.natCast_zero, Int.reduceLT, Int.reduceLE, Int.reduceAdd, Int.toNat_zero, Int.reduceToNat, Int.cast_ofNat_Int, nc1, nc2, nc3, nc4, nt0, nt1, nt2, nt3, nt4, nt5]) ?_) | (show wcall _ false (.lit (.func (.func 33) _ _)) _ _ _ _; refine wcall_fn (h33) rfl (by simp [plainL, plain]) ?_) | (show wcallX _ false (.lit (.func (.func 33) _ _)) _ _ _ _; refine wcallX_fn (h33) rfl (by simp [plainL, plain, plainR, Int.natCast_zero, Int.reduceLT, Int.reduceLE, Int.reduceAdd, Int.toNat_zero, Int.reduceToNat, Int.cast_ofNat_Int, nc1, nc2, nc3, nc4, nt0, nt1, nt2, nt3, nt4, nt5]) ?_) | ((first | refine T_cond rfl (fun hc => ?_) (fun hc => ?_) | refine wguard_split (fun hc => ?_) (fun hc => ?_) | refine wguardX_split (fun hc => ?_) (fun hc => ?_)) <;> have hd := hc <;> (try simp (disch := omega) only [wrapI] at hd) <;> have hs := hd <;> (try simp only [bne_iff_ne, bne_eq_false_iff_eq, Bool.not_false, ne_eq] at hd) <;> (try simp at hs)) | refine T_ret ?_ | refine leave_of (.inr rfl) _ rfl ?_ | refine leave_of (.inl rfl) _ rfl ?_ | refine wif_intro ?_ (fun hc => ?_) | refine And.intro ?_ ?_ | intro hc) | simp (maxSteps := 4000000) only [wops_nil, wops_cons, wstep_none, wstep_some, wguard_ff, wrun_call, wrun_mv, wrun_pick, wrun_bin, wrun_slc, wrun_len, wrun_alloc, wop, aop, ev, look, put_some, writes, ores_some, ores_map, ores_bind, binV, thenK, intV, lenOf, szOk, hget, boundOf, List.map_cons, List.map_nil, List.length_cons, List.length_nil, List.getElem?_cons_zero, List.getElem?_cons_succ, List.set_cons_zero, List.set_cons_succ, List.take_succ_cons, List.take_nil, List.drop_succ_cons, List.drop_zero, List.cons_append, List.nil_append, List.append_nil, List.replicate_zero, List.replicate_succ, List.zipIdx_cons, List.zipIdx_nil, Option.pure_def, Option.bind_eq_bind, Option.map_some, Option.map_none, Option.bind_some, if_true, if_false, Nat.reduceEqDiff, Nat.reduceAdd, Nat.add_zero, Nat.zero_add, reduceCtorEq, Bool.or_true, Bool.false_eq_true, eq_self, true_and, and_false, beq_self_eq_true, freeze, lidsL, lids, List.flatMap_cons, List.flatMap_nil, ren, renL, renR, Int.reduceLE, Int.cast_ofNat_Int, nt1, *] | simp (disch := omega) only [getD_ints, wrapI] | (with_reducible show wcall _ false (.lit (.func (.func 32) _ _)) _ _ _ _; refine wcall_fn (h32) ?_ ?_ ?_; (next => simp [rfyL, rfy, hget, ints, take_rfy, Int.natCast_zero, Int.reduceLT, Int.reduceLE, Int.reduceAdd, Int.toNat_zero, Int.reduceToNat, Int.cast_ofNat_Int, nc1, nc2, nc3, nc4, nt0, nt1, nt2, nt3, nt4, nt5]); (next => simp [plainL, plain, plainR, Int.natCast_zero, Int.reduceLT, Int.reduceLE, Int.reduceAdd, Int.toNat_zero, Int.reduceToNat, Int.cast_ofNat_Int, nc1, nc2, nc3, nc4, nt0, nt1, nt2, nt3, nt4, nt5])) | (with_reducible show wcallX _ false (.lit (.func (.func 32) _ _)) _ _ _ _; refine wcallX_fn (h32) ?_ ?_ ?_; (next => simp [rfyL, rfy, hget, ints, take_rfy, Int.natCast_zero, Int.reduceLT, Int.reduceLE, Int.reduceAdd, Int.toNat_zero, Int.reduceToNat, Int.cast_ofNat_Int, nc1, nc2, nc3, nc4, nt0, nt1, nt2, nt3, nt4, nt5]); (next => simp [plainL, plain, plainR, Int.natCast_zero, Int.reduceLT, Int.reduceLE, Int.reduceAdd, Int.toNat_zero, Int.reduceToNat, Int.cast_ofNat_Int, nc1, nc2, nc3, nc4, nt0, nt1, nt2, nt3, nt4, nt5])) | (with_reducible show wcall _ false (.lit (.func (.func 33) _ _)) _ _ _ _; refine wcall_fn (h33) ?_ ?_ ?_; (next => simp [rfyL, rfy, hget, ints, take_rfy, Int.natCast_zero, Int.reduceLT, Int.reduceLE, Int.reduceAdd, Int.toNat_zero, Int.reduceToNat, Int.cast_ofNat_Int, nc1, nc2, nc3, nc4, nt0, nt1, nt2, nt3, nt4, nt5]); (next => simp [plainL, plain, plainR, Int.natCast_zero, Int.reduceLT, Int.reduceLE, Int.reduceAdd, Int.toNat_zero, Int.reduceToNat, Int.cast_ofNat_Int, nc1, nc2, nc3, nc4, nt0, nt1, nt2, nt3, nt4, nt5])) | (with_reducible show wcallX _ false (.lit (.func (.func 33) _ _)) _ _ _ _; refine wcallX_fn (h33) ?_ ?_ ?_; (next => simp [rfyL, rfy, hget, ints, take_rfy, Int.natCast_zero, Int.reduceLT, Int.reduceLE, Int.reduceAdd, Int.toNat_zero, Int.reduceToNat, Int.cast_ofNat_Int, nc1, nc2, nc3, nc4, nt0, nt1, nt2, nt3, nt4, nt5]); (next => simp [plainL, plain, plainR, Int.natCast_zero, Int.reduceLT, Int.reduceLE, Int.reduceAdd, Int.toNat_zero, Int.reduceToNat, Int.cast_ofNat_Int, nc1, nc2, nc3, nc4, nt0, nt1, nt2, nt3, nt4, nt5])) | omega)
  refine T_for [2, 4, 5, 20, 21, 22] (S13k w0 w1 w2 w3 w4) 4 (I13 w1 w2 w3 w4) 0 ?_ ?_ (Nat.zero_le _) ?_
  · simp [St.only, get_mk, look, vz]
  · intro i w hi; omega
  intro k hk hI
  have hret : ∀ s, bad13 s → ∀ w, [w1, w2, w3, w4][k]? = some w → rdI w = none → leave 0 [ARes.cell 5 true 2, ARes.tmp 3] (fun r' H' => r' = R ∧ H' = []) .ret s := fun s hb w h1 h2 => by
    have hB2 := hB.1 k w h1 h2
    refine leave_of (.inr rfl) [mr0, i64 7] ?_ ⟨hB2 ▸ rfl, rfl⟩
    simp [resL, resAV, St.get, hb.1, hb.2.1, aop, ev, hget, hb.2.2, value, cut, mkAgg, toLits]
  have go : ∀ (w : ByteArray), [w1, w2, w3, w4][k]? = some w → T none Tryz.prog muts 66 0 c13l0 (S13k w0 w1 w2 w3 w4 k) (fun e s => (rdI w = none ∧ e = .ret ∧ bad13 s) ∨ (rdI w ≠ none ∧ e = .normal ∧ s.only [2, 4, 5, 20, 21, 22] = S13k w0 w1 w2 w3 w4 (k + 1))) := by
    intro w hw
    have hsz : w.size ≤ 1000 := hwz.1 w (List.mem_of_getElem? hw)
    match k, hw with
    | 0, hw =>
      obtain rfl := Option.some.inj hw
      exact k13w (k := 0) (G := fun v s => s.only [2, 4, 5, 20, 21, 22] = S13 w0 w1 w2 w3 w4 v 0 0 0 1) hsz (fun v a => k13e0 a) (fun v a b c => k13i0 a b c) (fun v a b c d => k13l0 a b c d) (fun v a b c d => k13o0 a b c d)
    | 1, hw =>
      obtain rfl := Option.some.inj hw
      exact k13w (k := 1) (G := fun v s => s.only [2, 4, 5, 20, 21, 22] = S13 w0 w1 w2 w3 w4 (vz w1 true) v 0 0 2) hsz (fun v a => k13e1 a) (fun v a b c => k13i1 a b c) (fun v a b c d => k13l1 a b c d) (fun v a b c d => k13o1 a b c d)
    | 2, hw =>
      obtain rfl := Option.some.inj hw
      exact k13w (k := 2) (G := fun v s => s.only [2, 4, 5, 20, 21, 22] = S13 w0 w1 w2 w3 w4 (vz w1 true) (vz w2 true) v 0 3) hsz (fun v a => k13e2 a) (fun v a b c => k13i2 a b c) (fun v a b c d => k13l2 a b c d) (fun v a b c d => k13o2 a b c d)
    | 3, hw =>
      obtain rfl := Option.some.inj hw
      exact k13w (k := 3) (G := fun v s => s.only [2, 4, 5, 20, 21, 22] = S13 w0 w1 w2 w3 w4 (vz w1 true) (vz w2 true) (vz w3 true) v 4) hsz (fun v a => k13e3 a) (fun v a b c => k13i3 a b c) (fun v a b c d => k13l3 a b c d) (fun v a b c d => k13o3 a b c d)
  by_cases h4 : k < 4
  · obtain ⟨w, hw⟩ : ∃ w, [w1, w2, w3, w4][k]? = some w := ⟨_, List.getElem?_eq_getElem (by simpa using h4)⟩
    refine T_mono (go w hw) fun e s hx => ?_
    rcases hx with ⟨hn, rfl, hb⟩ | ⟨hn, rfl, hb⟩
    · exact hret s hb w hw hn
    · exact ⟨⟨h4, hI.step hw hn⟩, hb⟩
  · have hk4 : k = 4 := by omega
    subst hk4
    have hR2 := hR.1 hI
    clear go hret hI hR hB hwz
    show T none Tryz.prog muts 66 0 c13l0 (S13 w0 w1 w2 w3 w4 (vz w1 true) (vz w2 true) (vz w3 true) (vz w4 true) 4) _
    generalize vz w1 true = n1 at *
    generalize vz w2 true = n2 at *
    generalize vz w3 true = n3 at *
    generalize vz w4 true = n4 at *
    subst hR2
    unfold c13l0
    repeat' (first | ((with_reducible refine T_calm ?_ ?_); rfl) | (with_reducible first | refine T_seq ?_ | refine T_reg ?_ | refine T_draw ?_ | refine T_skip ?_ | refine T_exit ?_ | refine T_block ?_ | refine T_cond_t rfl ?_ | refine T_cond_f rfl ?_ | refine wdW_cons rfl ?_ | refine T_ret ?_ | refine leave_of (.inr rfl) _ rfl ?_ | refine leave_of (.inl rfl) _ rfl ?_ | refine wif_intro ?_ (fun hc => ?_) | refine And.intro ?_ ?_ | intro hc) | simp (maxSteps := 4000000) only [wops_nil, wops_cons, wstep_none, wrun_mv, wrun_bin, wrun_build, wrun_load, wrun_store, wrun_iaddrS, wrun_iaddrA, wrunX_mv, wrunX_build, wrunX_load, wrunX_store, wrunX_iaddrS, wrunX_iaddrA, wdW_nil, wstepX_none, get_mk, wop, aop, ev, look, put_some, put_none, writes, ores_some, binV, thenK, blockK, value, cut, hget, fillA, putCells, AV.parts, isOne, toLits, mkAgg, tupOf, ofValue_int, ofValue_str, List.map_cons, List.map_nil, List.length_cons, List.length_nil, List.getElem?_cons_zero, List.getElem?_cons_succ, List.set_cons_zero, List.take_succ_cons, List.take_zero, List.take_nil, List.drop_succ_cons, List.drop_zero, List.drop_nil, List.cons_append, List.nil_append, List.append_nil, List.replicate_zero, List.getD_cons_zero, List.all_cons, List.all_nil, Option.getD_some, Option.map_some, if_true, if_false, Nat.reduceEqDiff, Nat.reduceAdd, Nat.reduceLeDiff, Nat.reduceLT, Nat.add_zero, Nat.zero_add, Nat.mul_one, Nat.le_refl, reduceCtorEq, Bool.and_true, Bool.false_eq_true, eq_self, and_self, false_and, decide_false, List.all_cons, ren, renL, Int.reduceLT, Int.reduceLE, Int.toNat_zero, Int.cast_ofNat_Int, nt1, nt2, nt3, nt4, *] | simp (disch := omega) only [getD_ints, wrapI] | omega)
end Go.Abs
