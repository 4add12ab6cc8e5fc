import Derived.Test.YtodheeifecoebaaGreatDoorPCmin
import Derived.Test.YtodheeifecoebaaGreatDoorK8
import Derived.Test.YtodheeifecoebaaGreatDoorK42x
import Derived.Test.YtodheeifecoebaaGreatDoorK43x
import Derived.Test.YtodheeifecoebaaGreatDoorK70a
import Derived.Test.YtodheeifecoebaaGreatDoorK97x
set_option linter.all false
set_option linter.unusedVariables false
set_option linter.unusedSimpArgs false
set_option linter.unusedSectionVars false
namespace Go.Abs
open Go.Proofs
/-! the table of readings that agree -/
theorem leave_tabQ2 {z : Nat} {M : List (List Int)} (hs : Sq z M) (s : List (Nat × AV)) (h201 : look s 4 = .lsl 0 0 z) (h202 : look s 5 = i64 0) : leave 0 [ARes.tmp 4, ARes.tmp 5] (fun r' H' => r' = AV.tup [AV.lsl 0 0 z, i64 0] ∧ H' = tabB M z) .ret ⟨s, tabB M z⟩ := by
  have hH : IsQ z M (tabB M z) := ⟨rfl, fun i hi => by
    rw [show 1 + i = i + 1 by omega]
    show (M.map rowB)[i]? = _
    simp [List.getD, hs.hl, hi, rowB]⟩
  refine leave_ids (.inr rfl) [.lsl 0 0 z, i64 0] (List.range (z + 1)) ?_ (fun id hid => ?_) List.nodup_range ⟨?_, leave_tq hH hs⟩
  · simp [resL, resAV, St.get, h201, h202]
  · have := List.mem_range.1 hid
    show id < (tabB M z).length
    simp [tabB, hs.hl]; omega
  · have : keepρ 0 (List.range (z + 1)) 0 = some 0 := by
      unfold keepρ
      rw [if_neg (by omega), pos_rng (by omega)]
      rfl
    simp [tupOf, ren, renL, this]
end Go.Abs
namespace Go.Abs
open Go.Proofs
set_option maxHeartbeats 8000000 in
theorem k27n {z : Nat} {nil : Bool} {l : List Rd} (h : checkR z l = 0) (hnil : ∃ r, r ≤ z ∧ (rnds (arcsL l l.length) z (r + 1)).at_ < 0) : Fn Tryz.prog 27 [i64 z, rdgs nil l] (.tup [.lsl 0 0 z, i64 0]) (tabB (tabM (arcsL l l.length) z) z) := by
  obtain ⟨hz, hl, hrd⟩ := checkR_ok h
  obtain ⟨hA, hN, hok⟩ := arcs_ok hrd
  have hn : (arcsL l l.length).length ≤ 200 := by have := arcsL_len l l.length; omega
  obtain ⟨P, hP1, hP2⟩ := rest_bound hA hn hnil (by omega)
  have h6 := k6 z nil l (by omega)
  rw [h] at h6
  have h41 := k41n (nil := nil) hl hok (z := z) (by omega) rfl hA hnil
  have h42 := k42 (nil := nil) hl hok (z := z) (by omega) rfl hA hP1 hP2
  have hlb : Lb z P (tabM (arcsL l l.length) z) := ((iniM_lb hP2).arM hA hP1 _ (Nat.le_refl _)).fwK z (Nat.le_refl _)
  have hM := hlb.sq
  generalize tabM (arcsL l l.length) z = M at *
  have hlt := leave_tabQ2 (z := z) (M := M) hM
  clear hnil hP1 hP2 hlb hA hN hok hrd
  refine fn_of e27 ?_
  unfold c27
  repeat' (first | (with_reducible first | refine T_seq ?_ | refine T_reg ?_ | refine T_skip ?_ | refine T_exit ?_ | refine T_block ?_ | refine T_cond_t rfl ?_ | refine T_cond_f rfl ?_ | (show wcall _ false (.lit (.func (.func 6) _ _)) _ _ _ _; refine wcall_fn (h6) rfl (by simp [plainL, plain]) ?_) | (show wcall _ false (.lit (.func (.func 41) _ _)) _ _ _ _; refine wcall_fn (h41) rfl (by simp [plainL, plain]) ?_) | (show wcall _ false (.lit (.func (.func 42) _ _)) _ _ _ _; refine wcall_fn (h42) rfl (by simp [plainL, plain]) ?_) | refine T_ret ?_ | refine wif_intro ?_ (fun hc => ?_) | refine And.intro ?_ ?_ | intro hc) | simp (maxSteps := 4000000) only [wops_nil, wops_cons, wstep_none, wrun_call, wrun_mv, wrun_bin, wrun_eqNil, wop, aop, ev, look, put_some, writes, ores_some, binV, thenK, boolV, List.map_cons, List.map_nil, List.length_nil, List.nil_append, List.append_nil, List.replicate_zero, List.zipIdx_cons, List.zipIdx_nil, Option.map_some, if_true, if_false, Nat.reduceEqDiff, Nat.reduceAdd, Nat.add_zero, Nat.zero_add, Nat.zero_ne_one, reduceCtorEq, Bool.not_true, eq_self, freeze, lidsL, lids, List.flatMap_cons, List.flatMap_nil, ren, renR, shiftρ, tab_ren, *] | simp (disch := omega) only [getD_ints, wrapI] | (with_reducible show wcall _ false (.lit (.func (.func 6) _ _)) _ _ _ _; refine wcall_fn (h6) ?_ ?_ ?_; (next => simp [rfyL, rfy, hget, ints, take_rfy, tab_ren]); (next => simp [plainL, plain, plainR, tab_ren])) | (with_reducible show wcall _ false (.lit (.func (.func 41) _ _)) _ _ _ _; refine wcall_fn (h41) ?_ ?_ ?_; (next => simp [rfyL, rfy, hget, ints, take_rfy, tab_ren]); (next => simp [plainL, plain, plainR, tab_ren])) | (with_reducible show wcall _ false (.lit (.func (.func 42) _ _)) _ _ _ _; refine wcall_fn (h42) ?_ ?_ ?_; (next => simp [rfyL, rfy, hget, ints, take_rfy, tab_ren]); (next => simp [plainL, plain, plainR, tab_ren])) | omega)
set_option maxHeartbeats 8000000 in
theorem k27e {zi : Int} {nil : Bool} {l : List Rd} (hl : l.length < 1000000) (h : checkR zi l ≠ 0) : Fn Tryz.prog 27 [i64 zi, rdgs nil l] (.tup [.sl true 0 [], i64 (checkR zi l)]) [] := by
  refine fn_of e27 ?_
  have h6 := k6 zi nil l hl
  unfold c27
  repeat' (first | (with_reducible first | refine T_seq ?_ | refine T_reg ?_ | refine T_skip ?_ | refine T_exit ?_ | refine T_block ?_ | refine T_cond_t rfl ?_ | refine T_cond_f rfl ?_ | (show wcall _ false (.lit (.func (.func 6) _ _)) _ _ _ _; refine wcall_fn (h6) rfl (by simp [plainL, plain]) ?_) | ((first | refine T_cond rfl (fun hc => ?_) (fun hc => ?_) | refine wguard_split (fun hc => ?_) (fun hc => ?_)) <;> have hd := hc <;> (try simp (disch := omega) only [wrapI] at hd) <;> have hs := hd <;> (try simp only [bne_iff_ne, bne_eq_false_iff_eq, ne_eq] at hd) <;> (try simp at hs)) | refine T_ret ?_ | refine leave_of (.inr rfl) _ rfl ?_ | refine leave_of (.inl rfl) _ rfl ?_ | refine wif_intro ?_ (fun hc => ?_) | refine And.intro ?_ ?_ | intro hc) | simp (maxSteps := 4000000) only [wops_nil, wops_cons, wstep_none, wrun_call, wrun_mv, wrun_bin, get_mk, wop, aop, ev, look, put_some, writes, ores_some, binV, thenK, tupOf, List.map_cons, List.map_nil, List.length_nil, List.append_nil, List.replicate_zero, List.zipIdx_cons, List.zipIdx_nil, Option.map_some, if_true, if_false, Nat.reduceEqDiff, Nat.reduceAdd, Nat.zero_add, Nat.zero_ne_one, reduceCtorEq, eq_self, freeze, lidsL, lids, List.flatMap_cons, List.flatMap_nil, ren, renL, renR, *] | simp (disch := omega) only [getD_ints, wrapI] | (with_reducible show wcall _ false (.lit (.func (.func 6) _ _)) _ _ _ _; refine wcall_fn (h6) ?_ ?_ ?_; (next => simp [rfyL, rfy, hget, ints, take_rfy]); (next => simp [plainL, plain, plainR])) | omega)
end Go.Abs
namespace Go.Abs
open Go.Proofs
/-- a table in memory, from block o on -/
structure IsTo (o z : Nat) (M : List (List Int)) (H : List Blk) : Prop where
  t : ∃ own, H[o]? = some (.cells own false 1 ((List.range z).map fun i => [AV.lsl (o + 1 + i) 0 z]))
  r : ∀ i, i < z → ∃ own, H[o + 1 + i]? = some (.cells own false 1 ((M.getD i []).map fun x => [i64 x]))
theorem IsTo.freeze {o z : Nat} {M : List (List Int)} {H : List Blk} (h : IsTo o z M H) (ids : List Nat) : IsTo o z M (freeze H ids) := by
  obtain ⟨w, h1⟩ := h.t
  refine ⟨freeze_at ids H o h1, fun i hi => ?_⟩
  obtain ⟨w2, h2⟩ := h.r i hi
  exact freeze_at ids H (o + 1 + i) h2
theorem IsTo.app {o z : Nat} {M : List (List Int)} {H : List Blk} (h : IsTo o z M H) (X : List Blk) : IsTo o z M (H ++ X) := by
  obtain ⟨w, h1⟩ := h.t
  refine ⟨⟨w, at_app h1 X⟩, fun i hi => ?_⟩
  obtain ⟨w2, h2⟩ := h.r i hi
  exact ⟨w2, at_app h2 X⟩
theorem IsTo.set {o z : Nat} {M : List (List Int)} {H : List Blk} (h : IsTo o z M H) {j : Nat} (hj : j < o ∨ o + z < j) (b : Blk) : IsTo o z M (H.set j b) := by
  obtain ⟨w, h1⟩ := h.t
  refine ⟨⟨w, by rw [List.getElem?_set_ne (by omega)]; exact h1⟩, fun i hi => ?_⟩
  obtain ⟨w2, h2⟩ := h.r i hi
  exact ⟨w2, by rw [List.getElem?_set_ne (by omega)]; exact h2⟩
end Go.Abs
namespace Go.Abs
open Go.Proofs
set_option maxHeartbeats 8000000 in
theorem k27c {z : Nat} {nil : Bool} {l : List Rd} (h : checkR z l = 0) (hcyc : ∀ r, r ≤ z → 0 ≤ (rnds (arcsL l l.length) z (r + 1)).at_) : Fn Tryz.prog 27 [i64 z, rdgs nil l] (.tup [.sl true 0 [], i64 13]) [] := by
  obtain ⟨hz, hl, hrd⟩ := checkR_ok h
  obtain ⟨hA, hN, hok⟩ := arcs_ok hrd
  have hn : (arcsL l l.length).length ≤ 200 := by have := arcsL_len l l.length; omega
  have hne : arcsL l l.length ≠ [] := fun e => by
    have := hcyc 0 (by omega)
    rw [e] at this
    exact absurd this (by show ¬ (0 : Int) ≤ -1; omega)
  obtain ⟨p, hp1, hp2, hp3, hp4, _⟩ := circle hA hN hn (by omega) (hcyc z (Nat.le_refl _))
  have h41 := k41 (nil := nil) (l := l) (A := arcsL l l.length) (z := z) hl hok (by omega) rfl hA hne (fun r hr hneg => by have := hcyc r hr; omega) (fun _ => ⟨p, hp1, hp2, hp3, hp4, rfl, rfl⟩)
  generalize (sgs (rnds (arcsL l l.length) z (z + 1)).by_ (bk (rnds (arcsL l l.length) z (z + 1)).by_ (rnds (arcsL l l.length) z (z + 1)).at_ z) p).reverse = xs at *
  have h6 := k6 z nil l (by omega)
  rw [h] at h6
  refine fn_of e27 ?_
  unfold c27
  clear hcyc hp3 hp4 hA hN hok hrd hne
  repeat' (first | (with_reducible first | refine T_seq ?_ | refine T_reg ?_ | refine T_skip ?_ | refine T_exit ?_ | refine T_block ?_ | refine T_cond_t rfl ?_ | refine T_cond_f rfl ?_ | (show wcall _ false (.lit (.func (.func 6) _ _)) _ _ _ _; refine wcall_fn (h6) rfl (by simp [plainL, plain]) ?_) | (show wcall _ false (.lit (.func (.func 41) _ _)) _ _ _ _; refine wcall_fn (h41) rfl (by simp [plainL, plain]) ?_) | refine T_ret ?_ | refine leave_of (.inr rfl) _ rfl ?_ | refine leave_of (.inl rfl) _ rfl ?_ | refine wif_intro ?_ (fun hc => ?_) | refine And.intro ?_ ?_ | intro hc) | simp (maxSteps := 4000000) only [wops_nil, wops_cons, wstep_none, wrun_call, wrun_mv, wrun_bin, wrun_eqNil, get_mk, wop, aop, ev, look, put_some, writes, ores_some, binV, thenK, boolV, hget, tupOf, List.map_cons, List.map_nil, List.length_cons, List.length_nil, List.getElem?_cons_zero, List.nil_append, List.append_nil, List.replicate_zero, List.zipIdx_cons, List.zipIdx_nil, Option.getD_some, Option.map_some, if_true, if_false, Nat.reduceEqDiff, Nat.reduceAdd, Nat.add_zero, Nat.zero_add, Nat.zero_ne_one, reduceCtorEq, Bool.not_false, eq_self, freeze, lidsL, lids, List.flatMap_cons, List.flatMap_nil, ren, renL, renR, renB, shiftρ, renR_ints, renR_ints, *] | simp (disch := omega) only [getD_ints, wrapI] | (with_reducible show wcall _ false (.lit (.func (.func 6) _ _)) _ _ _ _; refine wcall_fn (h6) ?_ ?_ ?_; (next => simp [rfyL, rfy, hget, ints, take_rfy, renR_ints]); (next => simp [plainL, plain, plainR, renR_ints])) | (with_reducible show wcall _ false (.lit (.func (.func 41) _ _)) _ _ _ _; refine wcall_fn (h41) ?_ ?_ ?_; (next => simp [rfyL, rfy, hget, ints, take_rfy, renR_ints]); (next => simp [plainL, plain, plainR, renR_ints])) | omega)
end Go.Abs
namespace Go.Abs
open Go.Proofs
theorem T_keep {P : Program} {muts : List FuncId} {N : Nat} {σ S : St} {K : Exit → St → Prop} {md : Option Nat} {ac : ACode} (ts ids : List Nat) (g2 : ∀ id ∈ ids, 0 ≤ id ∧ id < σ.heap.length) (g3 : ids.Nodup) (h : σ.keep 0 ts ids = S) (hT : T md P muts N 0 ac S K) : T md P muts N 0 ac σ K := by
  subst h
  exact T_weak (weak_keep (Nat.zero_le _) g2 g3) hT
/-! a table that was read out once -/
theorem frz_in {H : List Blk} {ids : List Nat} {j : Nat} {own nil : Bool} {sz : Nat} {els : List (List AV)} (h : H[j]? = some (.cells own nil sz els)) (hj : j ∈ ids) : (freeze H ids)[j]? = some (.cells false nil sz els) := by
  obtain ⟨o, h1⟩ := freeze_at ids H j h
  have h2 := freeze_not h1 (.inl hj)
  cases o with
  | false => exact h1
  | true => exact h2.elim
/-! readings that agree and join all zones -/
end Go.Abs
namespace Go.Abs
open Go.Proofs
def enc (M : List (List Int)) : Nat → List (Int × Int)
  | 0 => []
  | k + 1 => enc M k ++ [(-(mget M k 0), mget M 0 k)]
def erows (xs : List (Int × Int)) : List (List AV) := xs.map fun p => [i64 p.1, i64 p.2]
structure I31 (M : List (List Int)) (z k : Nat) (H : List Blk) : Prop where
  tb : IsTb z M H
  len : H.length = 1 + z + 2 * k
  out : k ≠ 0 → H[z + 2 * k]? = some (.cells true false 2 (erows (enc M k)))
end Go.Abs
namespace Go.Abs
open Go.Proofs
/-! a list with a number taken off, piece by piece -/
end Go.Abs
namespace Go.Abs
open Go.Proofs
/-! Reaching -/
structure I83 (z N : Nat) (M : List (List Int)) (a b : Int) (xs : List Int) (H : List Blk) : Prop where
  t : IsTo 1 z M H
  p : H[0]? = some (.cells true false 2 [[i64 a, i64 b]])
  o : H[N]? = some (.cells true false 1 (xs.map fun x => [i64 x]))
end Go.Abs
namespace Go.Abs
open Go.Proofs
theorem r19 : rcall Tryz.prog muts noPrim itA 3000 4 [] [] = some (bl true, []) := by kernel_rfl
theorem k4 : Fn Tryz.prog 4 [] (bl true) [] := rcall_ok (noPrim_ok _) itA_ok r19
end Go.Abs
namespace Go.Abs
open Go.Proofs
end Go.Abs
namespace Go.Abs
open Go.Proofs
end Go.Abs
namespace Go.Abs
open Go.Proofs
/-! what a table holds at the end -/
end Go.Abs
namespace Go.Abs
open Go.Proofs
end Go.Abs
namespace Go.Abs
open Go.Proofs
end Go.Abs
namespace Go.Abs
open Go.Proofs
/-! law 18 -/
end Go.Abs
