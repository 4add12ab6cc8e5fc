import Derived.Test.YtodheeifecoebaaGreatDoorPCmin
import Derived.Test.YtodheeifecoebaaGreatDoorK1x
import Derived.Test.YtodheeifecoebaaGreatDoorK49x
import Derived.Test.YtodheeifecoebaaGreatDoorK51x
import Derived.Test.YtodheeifecoebaaGreatDoorK41x
import Derived.Test.YtodheeifecoebaaGreatDoorK42x
import Derived.Test.YtodheeifecoebaaGreatDoorK46x
import Derived.Test.YtodheeifecoebaaGreatDoorK47
set_option linter.all false
set_option linter.unusedVariables false
set_option linter.unusedSimpArgs false
set_option linter.unusedSectionVars false
namespace Go.Abs
open Go.Proofs
theorem rdErr_ok {z : Int} : ∀ {l : List Rd}, rdErr z l = 0 → ∀ k, k < l.length → ((0 ≤ (l.getD k rd0).a ∧ (l.getD k rd0).a ≤ z - 1) ∧ (0 ≤ (l.getD k rd0).b ∧ (l.getD k rd0).b ≤ z - 1)) ∧ (l.getD k rd0).a ≠ (l.getD k rd0).b ∧ ((-1000000 ≤ (l.getD k rd0).lo ∧ (l.getD k rd0).lo ≤ 1000000) ∧ (-1000000 ≤ (l.getD k rd0).hi ∧ (l.getD k rd0).hi ≤ 1000000)) ∧ (l.getD k rd0).lo ≤ (l.getD k rd0).hi
  | [], _, k, hk => by simp at hk
  | r :: rs, h, k, hk => by
    unfold rdErr at h
    split at h
    · simp at h
    · split at h
      · simp at h
      · split at h
        · simp at h
        · split at h
          · simp at h
          · cases k with
            | zero => simp only [List.getD_cons_zero]; omega
            | succ k => simp only [List.getD_cons_succ]; exact rdErr_ok h k (by simpa using hk)
theorem checkR_ok {z : Int} {l : List Rd} (h : checkR z l = 0) : (1 ≤ z ∧ z ≤ 40) ∧ l.length ≤ 100 ∧ rdErr z l = 0 := by
  unfold checkR at h
  split at h
  · simp at h
  · split at h
    · simp at h
    · exact ⟨by omega, by omega, h⟩
end Go.Abs
namespace Go.Abs
open Go.Proofs
end Go.Abs
namespace Go.Abs
open Go.Proofs
/-- a table in memory, owned or not -/
structure IsTb (z : Nat) (M : List (List Int)) (H : List Blk) : Prop where
  t : ∃ own, H[0]? = some (.cells own false 1 ((List.range z).map fun i => [AV.lsl (1 + i) 0 z]))
  r : ∀ i, i < z → ∃ own, H[1 + i]? = some (.cells own false 1 ((M.getD i []).map fun x => [i64 x]))
theorem freeze1_at (H : List Blk) (id j : Nat) {own nil : Bool} {sz : Nat} {els : List (List AV)} (h : H[j]? = some (.cells own nil sz els)) : ∃ own', (freeze1 H id)[j]? = some (.cells own' nil sz els) := by
  unfold freeze1
  split
  · rename_i n' s' e' h1
    by_cases hij : id = j
    · subst hij
      rw [h] at h1
      simp only [Option.some.injEq, Blk.cells.injEq] at h1
      obtain ⟨rfl, rfl, rfl, rfl⟩ := h1
      exact ⟨false, List.getElem?_set_self (List.getElem?_eq_some_iff.1 h).1⟩
    · exact ⟨own, by rw [List.getElem?_set_ne hij]; exact h⟩
  · exact ⟨own, h⟩
theorem freeze_at : ∀ (ids : List Nat) (H : List Blk) (j : Nat) {own nil : Bool} {sz : Nat} {els : List (List AV)}, H[j]? = some (.cells own nil sz els) → ∃ own', (freeze H ids)[j]? = some (.cells own' nil sz els)
  | [], H, j, own, _, _, _, h => ⟨own, h⟩
  | id :: r, H, j, _, _, _, _, h => by
    obtain ⟨o, h1⟩ := freeze1_at H id j h
    exact freeze_at r _ j h1
theorem IsTb.freeze {z : Nat} {M : List (List Int)} {H : List Blk} (h : IsTb z M H) (ids : List Nat) : IsTb z M (freeze H ids) := by
  obtain ⟨o, h1⟩ := h.t
  refine ⟨freeze_at ids H 0 h1, fun i hi => ?_⟩
  obtain ⟨o2, h2⟩ := h.r i hi
  exact freeze_at ids H (1 + i) h2
theorem IsTb.app {z : Nat} {M : List (List Int)} {H : List Blk} (h : IsTb z M H) (X : List Blk) : IsTb z M (H ++ X) := by
  obtain ⟨o, h1⟩ := h.t
  refine ⟨⟨o, at_app h1 X⟩, fun i hi => ?_⟩
  obtain ⟨o2, h2⟩ := h.r i hi
  exact ⟨o2, at_app h2 X⟩
theorem IsTb.set {z : Nat} {M : List (List Int)} {H : List Blk} (h : IsTb z M H) {j : Nat} (hj : z < j) (b : Blk) : IsTb z M (H.set j b) := by
  obtain ⟨o, h1⟩ := h.t
  refine ⟨⟨o, by rw [List.getElem?_set_ne (by omega)]; exact h1⟩, fun i hi => ?_⟩
  obtain ⟨o2, h2⟩ := h.r i hi
  exact ⟨o2, by rw [List.getElem?_set_ne (by omega)]; exact h2⟩
theorem tab_ren {z : Nat} {M : List (List Int)} : (tabB M z).map (renB (shiftρ 0)) = tabB M z := by
  unfold tabB
  simp only [List.map_cons, List.map_map]
  refine congrArg₂' ?_ ?_
  · simp only [renB]
    refine congrArg (Blk.cells true false 1) ?_
    induction (List.range z) with
    | nil => rfl
    | cons x l ih => simp only [List.map_cons, renR, renL, ren, shiftρ, Nat.add_zero, ih]
  · exact List.map_congr_left fun r _ => by simp only [Function.comp, rowB, renB, renR_ints]
where congrArg₂' {a b : Blk} {l m : List Blk} (h1 : a = b) (h2 : l = m) : a :: l = b :: m := by rw [h1, h2]
end Go.Abs
namespace Go.Abs
open Go.Proofs
theorem getD_arcs (l : List Rd) : ∀ n, n ≤ l.length → ∀ k, k < (arcsL l n).length → ∃ i, i < n ∧ ((arcsL l n).getD k ar0 = ⟨(l.getD i rd0).a, (l.getD i rd0).b, (l.getD i rd0).hi, (i : Int) + 1⟩ ∨ (arcsL l n).getD k ar0 = ⟨(l.getD i rd0).b, (l.getD i rd0).a, -(l.getD i rd0).lo, -(i : Int) - 1⟩)
  | 0, _, k, hk => by simp [arcsL] at hk
  | n + 1, hn, k, hk => by
    have hlen := arcsL_len l n
    have hlen2 := arcsL_len l (n + 1)
    by_cases h : k < (arcsL l n).length
    · obtain ⟨i, hi, h2⟩ := getD_arcs l n (by omega) k h
      have e : (arcsL l (n + 1)).getD k ar0 = (arcsL l n).getD k ar0 := by
        rw [arcsL, List.getD_eq_getElem?_getD, List.getElem?_append_left h, ← List.getD_eq_getElem?_getD]
      exact ⟨i, by omega, by rw [e]; exact h2⟩
    · refine ⟨n, by omega, ?_⟩
      rw [arcsL, List.getD_eq_getElem?_getD, List.getElem?_append_right (by omega)]
      have : k - (arcsL l n).length = 0 ∨ k - (arcsL l n).length = 1 := by omega
      rcases this with h200 | h200
      · left; rw [h200]; rfl
      · right; rw [h200]; rfl
theorem arcs_ok {z : Nat} {l : List Rd} (h : rdErr z l = 0) : okAr (arcsL l l.length) z ∧ neAr (arcsL l l.length) ∧ okRd l := by
  have hr := rdErr_ok h
  refine ⟨fun k hk => ?_, fun k hk => ?_, fun k hk => ?_⟩
  · obtain ⟨i, hi, h2 | h2⟩ := getD_arcs l l.length (Nat.le_refl _) k hk
    · rw [h2]; have := hr i hi; dsimp only; omega
    · rw [h2]; have := hr i hi; dsimp only; omega
  · obtain ⟨i, hi, h2 | h2⟩ := getD_arcs l l.length (Nat.le_refl _) k hk
    · rw [h2]; exact (hr i hi).2.1
    · rw [h2]; exact fun h200 => (hr i hi).2.1 h200.symm
  · have := hr k hk; omega
set_option maxHeartbeats 8000000 in
theorem k41z {nil : Bool} {z : Nat} (hz : 1 ≤ z ∧ z ≤ 40) : Fn Tryz.prog 41 [i64 z, rdgs nil []] (.sl true 0 []) [] := by
  refine fn_of e41 ?_
  have h64 := k64 nil [] (by simp) (fun k hk => by simp at hk)
  simp only [arV, arB, List.length_nil, arcsL, if_true] at h64
  unfold c41
  repeat' (first | ((with_reducible refine T_calm ?_ ?_); rfl) | (with_reducible first | refine T_seq ?_ | refine T_reg ?_ | refine T_draw ?_ | refine T_skip ?_ | refine T_exit ?_ | refine T_block ?_ | refine T_cond_t rfl ?_ | refine T_cond_f rfl ?_ | refine wdW_cons rfl ?_ | (show wcall _ false (.lit (.func (.func 64) _ _)) _ _ _ _; refine wcall_fn (h64) rfl (by simp [plainL, plain]) ?_) | (show wcallX _ false (.lit (.func (.func 64) _ _)) _ _ _ _; refine wcallX_fn (h64) rfl (by simp [plainL, plain, plainR]) ?_) | refine T_ret ?_ | refine leave_of (.inr rfl) _ rfl ?_ | refine leave_of (.inl rfl) _ rfl ?_ | refine wif_intro ?_ (fun hc => ?_) | refine And.intro ?_ ?_ | intro hc) | simp (maxSteps := 4000000) only [wops_nil, wops_cons, wstep_none, wrun_call, wrun_mv, wrun_bin, wrun_mks, wrunX_mv, wrunX_mks, wdW_nil, wstepX_none, wop, aop, ev, look, put_some, writes, ores_some, ores_ite_none, binV, thenK, List.map_cons, List.map_nil, List.length_cons, List.length_nil, List.getElem?_cons_zero, List.getElem?_cons_succ, List.set_cons_zero, List.set_cons_succ, List.nil_append, List.append_nil, List.replicate_zero, List.replicate_succ, List.zipIdx_cons, List.zipIdx_nil, Option.map_some, if_true, if_false, Nat.reduceEqDiff, Nat.reduceAdd, Nat.add_zero, Nat.zero_add, Nat.zero_ne_one, reduceCtorEq, eq_self, true_and, and_true, Int.reduceNeg, freeze, lidsL, lids, List.flatMap_cons, List.flatMap_nil, ren, renR, *] | simp (disch := omega) only [wrapI] | (with_reducible show wcall _ false (.lit (.func (.func 64) _ _)) _ _ _ _; refine wcall_fn (h64) ?_ ?_ ?_; (next => simp [rfyL, rfy, hget, ints, take_rfy]); (next => simp [plainL, plain, plainR])) | (with_reducible show wcallX _ false (.lit (.func (.func 64) _ _)) _ _ _ _; refine wcallX_fn (h64) ?_ ?_ ?_; (next => simp [rfyL, rfy, hget, ints, take_rfy]); (next => simp [plainL, plain, plainR])) | omega)
  refine T_for_keep [0, 5, 6, 7, 8, 21, 22] (fun k => ⟨[(0, i64 z), (5, .sl true 0 []), (6, .lsl 0 0 z), (7, .lsl 1 0 z), (8, i64 (-1)), (21, i64 ((z : Int) + 1)), (22, i64 k)], [.cells true false 1 (List.replicate z [i64 0]), .cells true false 4 (List.replicate z [i64 0, i64 0, i64 0, i64 0])]⟩) 0 (fun _ => True) 0 ⟨[0, 1], by simp, by simp, by simp, ?_⟩ trivial (Nat.zero_le _) ?_
  · have e1 := renR_zeros (keepρ 0 [0, 1]) z
    have e2 : renR (keepρ 0 [0, 1]) (List.replicate z [i64 0, i64 0, i64 0, i64 0]) = List.replicate z [i64 0, i64 0, i64 0, i64 0] := by
      rw [zeros_arows, renR_arows]
    simp [St.keep, get_mk, look, ren, renR, renB, renO, keepρ, pos, hget, e1, e2]
  intro k hk _
  have hk0 : k = 0 := by omega
  subst hk0
  unfold c41l1
  repeat' (first | ((with_reducible refine T_calm ?_ ?_); rfl) | (with_reducible first | refine T_seq ?_ | refine T_reg ?_ | refine T_draw ?_ | refine T_skip ?_ | refine T_exit ?_ | refine T_block ?_ | refine T_cond_t rfl ?_ | refine T_cond_f rfl ?_ | refine wdW_cons rfl ?_ | ((first | refine T_cond rfl (fun hc => ?_) (fun hc => ?_) | refine wguard_split (fun hc => ?_) (fun hc => ?_) | refine wguardX_split (fun hc => ?_) (fun hc => ?_)) <;> have hd := hc <;> (try simp (disch := omega) only [wrapI] at hd) <;> have hs := hd <;> (try simp only [decide_eq_true_eq, decide_eq_false_iff_not, Int.not_lt] at hd) <;> (try simp at hs)) | refine T_ret ?_ | refine leave_of (.inr rfl) _ rfl ?_ | refine leave_of (.inl rfl) _ rfl ?_ | refine wif_intro ?_ (fun hc => ?_) | refine And.intro ?_ ?_ | intro hc) | simp (maxSteps := 4000000) only [wops_nil, wops_cons, wstep_none, wrun_mv, wrun_bin, wrun_len, wop, aop, ev, look, put_some, writes, ores_some, ores_map, ores_bind, binV, thenK, intV, lenOf, hget, List.length_cons, List.length_nil, List.append_nil, List.replicate_zero, Option.pure_def, Option.bind_eq_bind, Option.map_some, if_true, if_false, Nat.reduceEqDiff, Nat.reduceAdd, Nat.zero_add, reduceCtorEq, eq_self, and_true, false_and, decide_true, Int.reduceNeg, Nat.not_lt_zero, *] | simp (disch := omega) only [getD_ints, wrapI] | omega)
  refine T_for [0, 5, 6, 7, 8, 21, 22, 24, 25, 26] (fun k => ⟨[(0, i64 z), (5, .sl true 0 []), (6, .lsl 0 0 z), (7, .lsl 1 0 z), (8, i64 (-1)), (21, i64 ((z : Int) + 1)), (22, i64 0), (24, .sl true 0 []), (25, i64 0), (26, i64 k)], [.cells true false 1 (List.replicate z [i64 0]), .cells true false 4 (List.replicate z [i64 0, i64 0, i64 0, i64 0])]⟩) 0 (fun _ => True) 0 rfl trivial (Nat.zero_le _) ?_
  intro k hk _
  have hk0 : k = 0 := by omega
  subst hk0
  unfold c41l0
  repeat' (first | ((with_reducible refine T_calm ?_ ?_); rfl) | (with_reducible first | refine T_seq ?_ | refine T_reg ?_ | refine T_draw ?_ | refine T_skip ?_ | refine T_exit ?_ | refine T_block ?_ | refine T_cond_t rfl ?_ | refine T_cond_f rfl ?_ | refine wdW_cons rfl ?_ | refine T_ret ?_ | refine leave_of (.inr rfl) _ rfl ?_ | refine leave_of (.inl rfl) _ rfl ?_ | refine wif_intro ?_ (fun hc => ?_) | refine And.intro ?_ ?_ | intro hc) | simp (maxSteps := 4000000) only [wops_nil, wops_cons, wstep_none, wrun_mv, wrun_bin, get_mk, wop, aop, ev, look, put_some, writes, ores_some, binV, thenK, blockK, tupOf, List.length_cons, List.length_nil, List.append_nil, List.replicate_zero, Option.map_some, if_true, if_false, Nat.reduceEqDiff, Nat.reduceAdd, Nat.zero_add, reduceCtorEq, eq_self, and_true, false_and, Int.reduceNeg, ren, renR, Nat.not_lt_zero, *] | simp (disch := omega) only [getD_ints, wrapI] | omega)
end Go.Abs
namespace Go.Abs
open Go.Proofs
theorem rest_bound {A : List Ar} {z : Nat} (hA : okAr A z) (hn : A.length ≤ 200) (hnil : ∃ r, r ≤ z ∧ (rnds A z (r + 1)).at_ < 0) (hz : z ≤ 40) : ∃ P : Nat → Int, (∀ k, k < A.length → P (A.getD k ar0).t.toNat ≤ P (A.getD k ar0).f.toNat + (A.getD k ar0).len) ∧ ∀ v, v < z → -10000000000 ≤ P v ∧ P v ≤ 10000000000 := by
  obtain ⟨r, hr, h⟩ := hnil
  refine ⟨fun v => (rnds A z r).h.getD v 0, fun k hk => rest_pot hA h k hk, fun v _ => ?_⟩
  have := (rnds_ok hA hn r).hr v
  dsimp only
  omega
theorem k41n {nil : Bool} {l : List Rd} {A : List Ar} {z : Nat} (hl : l.length ≤ 100) (hrd : okRd l) (hz : 1 ≤ z ∧ z ≤ 40) (he : A = arcsL l l.length) (hA : okAr A z) (hnil : ∃ r, r ≤ z ∧ (rnds A z (r + 1)).at_ < 0) : Fn Tryz.prog 41 [i64 z, rdgs nil l] (.sl true 0 []) [] := by
  by_cases hx : A = []
  · have : l = [] := by
      have := arcsL_len l l.length
      rw [← he, hx] at this
      cases l with
      | nil => rfl
      | cons a b => simp at this
    subst this
    exact k41z hz
  · refine k41 hl hrd hz he hA hx (fun _ _ _ => ⟨rfl, rfl⟩) (fun h => ?_)
    obtain ⟨r, hr, h2⟩ := hnil
    have := h r hr
    omega
end Go.Abs
