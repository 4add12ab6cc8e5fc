import Derived.Test.YtodheeifecoebaaK99
set_option linter.all false
set_option linter.unusedVariables false
set_option linter.unusedSimpArgs false
set_option linter.unusedSectionVars false
namespace Go.Abs
open Go.Proofs
theorem T_keep {P : Program} {muts : List FuncId} {N : Nat} {σ S : St} {K : Exit → St → Prop} {md : Option Nat} {ac : ACode} (ts ids : List Nat) (g2 : ∀ id ∈ ids, 0 ≤ id ∧ id < σ.heap.length) (g3 : ids.Nodup) (h : σ.keep 0 ts ids = S) (hT : T md P muts N 0 ac S K) : T md P muts N 0 ac σ K := by
  subst h
  exact T_weak (weak_keep (Nat.zero_le _) g2 g3) hT
/-! a table that was read out once -/
def rowF (r : List Int) : Blk := .cells false false 1 (r.map fun x => [i64 x])
def tabF (M : List (List Int)) (z : Nat) : List Blk := .cells false false 1 ((List.range z).map fun i => [AV.lsl (1 + i) 0 z]) :: M.map rowF
theorem freeze1_lenF (H : List Blk) (id : Nat) : (freeze1 H id).length = H.length := by unfold freeze1; split <;> simp
theorem freeze_len' : ∀ (ids : List Nat) (H : List Blk), (freeze H ids).length = H.length
  | [], _ => rfl
  | id :: r, H => by show (freeze (freeze1 H id) r).length = _; rw [freeze_len' r, freeze1_lenF]
theorem frz_in {H : List Blk} {ids : List Nat} {j : Nat} {own nil : Bool} {sz : Nat} {els : List (List AV)} (h : H[j]? = some (.cells own nil sz els)) (hj : j ∈ ids) : (freeze H ids)[j]? = some (.cells false nil sz els) := by
  obtain ⟨o, h1⟩ := freeze_at ids H j h
  have h2 := freeze_not h1 (.inl hj)
  cases o with
  | false => exact h1
  | true => exact h2.elim
theorem to_in {o z : Nat} {M : List (List Int)} {H : List Blk} (h : IsTo o z M H) {j : Nat} (hj : o ≤ j ∧ j ≤ o + z) : j ∈ lids (hget H) 6 (.lsl o 0 z) := by
  obtain ⟨w, h1⟩ := h.t
  have e : hget H o = .cells w false 1 ((List.range z).map fun i => [AV.lsl (o + 1 + i) 0 z]) := by unfold hget; rw [h1]; rfl
  unfold lids
  rw [e]
  by_cases hjo : j = o
  · subst hjo; exact List.mem_cons_self
  · refine List.mem_cons_of_mem _ ?_
    dsimp only
    rw [List.drop_zero, List.take_of_length_le (by simp), List.mem_flatMap]
    obtain ⟨w2, h4⟩ := h.r (j - o - 1) (by omega)
    refine ⟨[AV.lsl (o + 1 + (j - o - 1)) 0 z], List.mem_map.2 ⟨j - o - 1, List.mem_range.2 (by omega), rfl⟩, ?_⟩
    rw [List.flatMap_cons, List.flatMap_nil, List.append_nil, lids_row (d := 3) h4, List.mem_singleton]
    omega
theorem tabF_get {z : Nat} {M : List (List Int)} (hM : M.length = z) (j : Nat) : (tabF M z)[j]? = if j = 0 then some (.cells false false 1 ((List.range z).map fun i => [AV.lsl (1 + i) 0 z])) else if j - 1 < z then some (rowF (M.getD (j - 1) [])) else none := by
  cases j with
  | zero => rfl
  | succ j =>
    rw [if_neg (by omega)]
    show (M.map rowF)[j]? = _
    by_cases hj : j < z
    · rw [if_pos (by omega)]; simp [List.getD, hM, hj]
    · rw [if_neg (by omega)]; simp; omega
theorem frz_tab {z : Nat} {M : List (List Int)} (hM : M.length = z) : freeze (tabB M z) (lidsL (hget (tabB M z)) [.lsl 0 0 z]) = tabF M z := by
  have hlen : (tabB M z).length = z + 1 := by simp [tabB, hM]
  have hT : IsTo 0 z M (tabB M z) := by
    obtain ⟨h1, h2⟩ := tabB_is (z := z) (M := M) hM
    exact ⟨by obtain ⟨w, h⟩ := h1; exact ⟨w, by rw [h]; try simp⟩, fun i hi => by obtain ⟨w, h⟩ := h2 i hi; exact ⟨w, by rw [show 0 + 1 + i = 1 + i by omega]; exact h⟩⟩
  have hin : ∀ j, j ≤ z → j ∈ lidsL (hget (tabB M z)) [.lsl 0 0 z] := fun j hj => by
    simp only [lidsL, List.flatMap_cons, List.flatMap_nil, List.append_nil]
    exact to_in hT ⟨Nat.zero_le _, by omega⟩
  refine List.ext_getElem? fun j => ?_
  rw [tabF_get hM]
  by_cases hj : j = 0
  · subst hj
    rw [if_pos rfl]
    obtain ⟨w, h⟩ := hT.t
    rw [frz_in h (hin 0 (by omega))]
    try simp
  · rw [if_neg hj]
    by_cases hjz : j - 1 < z
    · rw [if_pos hjz]
      obtain ⟨w, h⟩ := hT.r (j - 1) hjz
      rw [show 0 + 1 + (j - 1) = j by omega] at h
      rw [frz_in h (hin j (by omega))]; rfl
    · rw [if_neg hjz]
      rw [List.getElem?_eq_none_iff, freeze_len', hlen]; omega
theorem tabF_at {z : Nat} {M : List (List Int)} (hM : M.length = z) (X : List Blk) : IsTo X.length z M (X ++ (tabF M z).map (renB (shiftρ X.length))) := by
  have hget : ∀ j, (X ++ (tabF M z).map (renB (shiftρ X.length)))[X.length + j]? = ((tabF M z)[j]?).map (renB (shiftρ X.length)) := fun j => by
    rw [List.getElem?_append_right (by omega), show X.length + j - X.length = j by omega, List.getElem?_map]
  refine ⟨⟨false, ?_⟩, fun i hi => ⟨false, ?_⟩⟩
  · have := hget 0
    rw [tabF_get hM, if_pos rfl, Nat.add_zero] at this
    rw [this]
    simp only [Option.map_some, renB]
    refine congrArg (fun x => some (Blk.cells false false 1 x)) ?_
    induction (List.range z) with
    | nil => rfl
    | cons x l ih =>
      have hx : 1 + x + X.length = X.length + 1 + x := by omega
      simp only [List.map_cons, renR, renL, ren, shiftρ, ih, hx]
  · have := hget (i + 1)
    rw [tabF_get hM, if_neg (by omega), if_pos (by omega), show i + 1 - 1 = i by omega, show X.length + (i + 1) = X.length + 1 + i by omega] at this
    rw [this]
    simp only [Option.map_some, rowF, renB, renR_ints]
theorem leave_tabF {z : Nat} {M : List (List Int)} (hM : M.length = z) (s : List (Nat × AV)) (h4 : look s 4 = .lsl 0 0 z) (h5 : look s 5 = i64 0) : leave 0 [ARes.tmp 4, ARes.tmp 5] (fun r' H' => r' = AV.tup [AV.lsl 0 0 z, i64 0] ∧ H' = tabF M z) .ret ⟨s, tabF M z⟩ := by
  have hp : ∀ x, x ≤ z → keepρ 0 (List.range (z + 1)) x = some x := fun x hx => by
    unfold keepρ
    rw [if_neg (by omega), pos_rng (by omega)]
    simp
  refine leave_ids (.inr rfl) [.lsl 0 0 z, i64 0] (List.range (z + 1)) ?_ (fun id hid => ?_) List.nodup_range ⟨?_, ?_⟩
  · simp [resL, resAV, St.get, h4, h5]
  · have := List.mem_range.1 hid
    show id < (tabF M z).length
    simp [tabF, hM]; omega
  · simp [tupOf, ren, renL, hp 0 (Nat.zero_le _)]
  · refine List.ext_getElem? fun j => ?_
    have hg := tabF_get hM j
    rw [hg, List.getElem?_map]
    by_cases hjz : j < z + 1
    · have h1 : (List.range (z + 1))[j]? = some j := by simp [hjz]
      rw [h1, Option.map_some]
      by_cases hj : j = 0
      · subst hj
        rw [if_pos rfl]
        rw [if_pos rfl] at hg
        have e : hget (tabF M z) 0 = .cells false false 1 ((List.range z).map fun i => [AV.lsl (1 + i) 0 z]) := by unfold hget; rw [hg]; rfl
        show some (renB _ (hget (tabF M z) 0)) = _
        rw [e]
        simp only [renB]
        refine congrArg (fun x => some (Blk.cells false false 1 x)) ?_
        have hren : ∀ l : List Nat, (∀ x ∈ l, x < z) → renR (keepρ 0 (List.range (z + 1))) (l.map fun i => [AV.lsl (1 + i) 0 z]) = l.map fun i => [AV.lsl (1 + i) 0 z] := by
          intro l
          induction l with
          | nil => intro _; rfl
          | cons x l ih =>
            intro hl
            have hx := hl x (by simp)
            simp only [List.map_cons, renR, renL, ren, hp (1 + x) (by omega), ih (fun y hy => hl y (by simp [hy]))]
        exact hren _ (fun x hx => List.mem_range.1 hx)
      · rw [if_neg hj, if_pos (by omega)]
        rw [if_neg hj, if_pos (by omega)] at hg
        have e : hget (tabF M z) j = rowF (M.getD (j - 1) []) := by unfold hget; rw [hg]; rfl
        show some (renB _ (hget (tabF M z) j)) = _
        rw [e]
        simp only [rowF, renB, renR_ints]
    · have h1 : (List.range (z + 1))[j]? = none := by simp; omega
      rw [h1, if_neg (by omega), if_neg (by omega)]; rfl
theorem to_reT {z : Nat} {M : List (List Int)} (hM : Sq z M) : rfyL (hget (tabB M z)) [.lsl 0 0 z] = [tblV M] := by
  obtain ⟨h1, h2⟩ := tabB_is (z := z) (M := M) hM.hl
  have hT : IsTo 0 z M (tabB M z) := ⟨by obtain ⟨w, h⟩ := h1; exact ⟨w, by rw [h]; try simp⟩, fun i hi => by obtain ⟨w, h⟩ := h2 i hi; exact ⟨w, by rw [show 0 + 1 + i = 1 + i by omega]; exact h⟩⟩
  simp only [rfyL, List.map_cons, List.map_nil, to_rfy hT hM]
/-! readings that agree and join all zones -/
set_option maxHeartbeats 8000000 in
theorem k132e {zi : Int} {nil : Bool} {l : List Rd} (hl : l.length < 1000000) (h : checkR zi l ≠ 0) : Fn Try.prog 132 [i64 zi, rdgs nil l] (.tup [.sl true 0 [], i64 (checkR zi l)]) [] := by
  refine fn_of e132 ?_
  have h119 := k119e (nil := nil) hl h
  generalize checkR zi l = d at *
  have hd0 : (d == 0) = false := by simp only [beq_eq_false_iff_ne]; exact h
  unfold c132
  repeat' (first
    | with_reducible first
      | refine T_seq ?_
      | refine T_reg ?_
      | refine T_skip ?_
      | refine T_exit ?_
      | refine T_block ?_
      | refine T_cond_t rfl ?_
      | refine T_cond_f rfl ?_
      | (show wcall _ false (.lit (.func (.func 119) _ _)) _ _ _ _; refine wcall_fn (h119) rfl (by simp [plainL, plain]) ?_)
      | ((first | refine T_cond rfl (fun hc => ?_) (fun hc => ?_) | refine wguard_split (fun hc => ?_) (fun hc => ?_)) <;> have hd := hc <;> (try simp (disch := omega) only [wrapI] at hd) <;> have hs := hd <;> (try simp only [Bool.not_eq_true', Bool.not_eq_false', Bool.and_eq_true, Bool.and_eq_false_iff, Bool.or_eq_true, Bool.or_eq_false_iff, decide_eq_true_eq, decide_eq_false_iff_not, beq_iff_eq, bne_iff_ne, beq_eq_false_iff_ne, bne_eq_false_iff_eq, Bool.not_true, Bool.not_false, gt_iff_lt, ge_iff_le, Int.not_lt, Int.not_le, ne_eq, Decidable.not_not] at hd) <;> (try simp at hs))
      | refine T_ret ?_
      | refine leave_of (.inr rfl) _ rfl ?_
      | refine leave_of (.inl rfl) _ rfl ?_
      | refine leaveA_of (.inr rfl) _ rfl ?_
      | refine leaveA_of (.inl rfl) _ rfl ?_
      | refine wif_intro ?_ (fun hc => ?_)
      | refine And.intro ?_ ?_
      | intro hc
    | simp (maxSteps := 4000000) only [wops_nil, wops_cons, wstep_none, wstep_some, wguard_ft, wrun_call, wrun_mv, wrun_pick, wrun_bin, wrun_ext, get_mk, wop, aop, ev, look, put_some, writes, ores_some, binV, thenK, tupOf, List.map_cons, List.map_nil, List.length_nil, List.getElem?_cons_zero, List.getElem?_cons_succ, List.append_nil, List.replicate_zero, List.zipIdx_cons, List.zipIdx_nil, Option.map_some, if_true, if_false, Nat.reduceEqDiff, Nat.reduceAdd, Nat.zero_add, Nat.zero_ne_one, reduceCtorEq, Bool.false_eq_true, eq_self, freeze, lidsL, lids, List.flatMap_cons, List.flatMap_nil, ren, renL, renR, *]
    | simp (disch := omega) only [getD_ints, wrapI]
    | (with_reducible show wcall _ false (.lit (.func (.func 119) _ _)) _ _ _ _; refine wcall_fn (h119) ?_ ?_ ?_; (next => simp [rfyL, rfy, hget, ints, take_rfy]); (next => simp [plainL, plain, plainR]))
    | omega)
set_option maxHeartbeats 8000000 in
theorem k132c {z : Nat} {nil : Bool} {l : List Rd} (h : checkR z l = 0) (hcyc : ∀ r, r ≤ z → 0 ≤ (rnds (arcsL l l.length) z (r + 1)).at_) : Fn Try.prog 132 [i64 z, rdgs nil l] (.tup [.sl true 0 [], i64 13]) [] := by
  refine fn_of e132 ?_
  have h119 := k119c (nil := nil) h hcyc
  clear hcyc
  unfold c132
  repeat' (first
    | with_reducible first
      | refine T_seq ?_
      | refine T_reg ?_
      | refine T_skip ?_
      | refine T_exit ?_
      | refine T_block ?_
      | refine T_cond_t rfl ?_
      | refine T_cond_f rfl ?_
      | (show wcall _ false (.lit (.func (.func 119) _ _)) _ _ _ _; refine wcall_fn (h119) rfl (by simp [plainL, plain]) ?_)
      | ((first | refine T_cond rfl (fun hc => ?_) (fun hc => ?_) | refine wguard_split (fun hc => ?_) (fun hc => ?_)) <;> have hd := hc <;> (try simp (disch := omega) only [wrapI] at hd) <;> have hs := hd <;> (try simp only [beq_iff_eq, beq_eq_false_iff_ne, Bool.not_true, ne_eq] at hd) <;> (try simp at hs))
      | refine T_ret ?_
      | refine leave_of (.inr rfl) _ rfl ?_
      | refine leave_of (.inl rfl) _ rfl ?_
      | refine leaveA_of (.inr rfl) _ rfl ?_
      | refine leaveA_of (.inl rfl) _ rfl ?_
      | refine wif_intro ?_ (fun hc => ?_)
      | refine And.intro ?_ ?_
      | intro hc
    | simp (maxSteps := 4000000) only [wops_nil, wops_cons, wstep_none, wstep_some, wguard_ft, wrun_call, wrun_mv, wrun_pick, wrun_bin, wrun_ext, get_mk, wop, aop, ev, look, put_some, writes, ores_some, binV, thenK, tupOf, List.map_cons, List.map_nil, List.length_nil, List.getElem?_cons_zero, List.getElem?_cons_succ, List.append_nil, List.replicate_zero, List.zipIdx_cons, List.zipIdx_nil, Option.map_some, if_true, if_false, Nat.reduceEqDiff, Nat.reduceAdd, Nat.zero_add, Nat.zero_ne_one, reduceCtorEq, Bool.not_true, Bool.false_eq_true, eq_self, freeze, lidsL, lids, List.flatMap_cons, List.flatMap_nil, ren, renL, renR, *]
    | simp (disch := omega) only [getD_ints, wrapI]
    | (with_reducible show wcall _ false (.lit (.func (.func 119) _ _)) _ _ _ _; refine wcall_fn (h119) ?_ ?_ ?_; (next => simp [rfyL, rfy, hget, ints, take_rfy]); (next => simp [plainL, plain, plainR]))
    | omega)
set_option maxHeartbeats 8000000 in
theorem k132n {z : Nat} {nil : Bool} {l : List Rd} (h : checkR z l = 0) (hnil : ∃ r, r ≤ z ∧ (rnds (arcsL l l.length) z (r + 1)).at_ < 0) :
    (((tabM (arcsL l l.length) z).getD 0 []).any isFar = true → Fn Try.prog 132 [i64 z, rdgs nil l] (.tup [.sl true 0 [], i64 25]) []) ∧
    (((tabM (arcsL l l.length) z).getD 0 []).any isFar = false → Fn Try.prog 132 [i64 z, rdgs nil l] (.tup [.lsl 0 0 z, i64 0]) (tabF (tabM (arcsL l l.length) z) z)) := by
  obtain ⟨hz, hl, hrd⟩ := checkR_ok h
  obtain ⟨hA, hN, hok⟩ := arcs_ok hrd
  have hn : (arcsL l l.length).length ≤ 200 := by have := arcsL_len l l.length; omega
  obtain ⟨P, hP1, hP2⟩ := rest_bound hA hn hnil (by omega)
  have h119 := k119n (nil := nil) h hnil
  have hM := (tab_stt hA hN (by omega) hP1 hP2).sq
  generalize tabM (arcsL l l.length) z = M at *
  have h97 := k97 (M := M) (z := z) (by omega) hM
  have hre := to_reT hM
  have hfz := frz_tab hM.hl
  have hlv := leave_tabF (z := z) hM.hl
  have hpl1 : plainL [tblV M] = true := by simp only [plainL, plain_tbl]; rfl
  clear hnil hP1 hP2 hA hN hok hrd
  refine ⟨fun hw => ?_, fun hw => ?_⟩
  · rw [hw] at h97
    refine fn_of e132 ?_
    unfold c132
    replace hre := And.intro hre trivial
    replace hfz := And.intro hfz trivial
    clear hlv
    repeat' (first
      | with_reducible first
        | refine T_seq ?_
        | refine T_reg ?_
        | refine T_skip ?_
        | refine T_exit ?_
        | refine T_block ?_
        | refine T_cond_t rfl ?_
        | refine T_cond_f rfl ?_
        | (show wcall _ false (.lit (.func (.func 119) _ _)) _ _ _ _; refine wcall_fn (h119) rfl (by simp [plainL, plain]) ?_)
        | ((first | refine T_cond rfl (fun hc => ?_) (fun hc => ?_) | refine wguard_split (fun hc => ?_) (fun hc => ?_)) <;> have hd := hc <;> (try simp (disch := omega) only [wrapI] at hd) <;> have hs := hd <;> (try simp only [Bool.not_eq_true', Bool.not_eq_false', Bool.and_eq_true, Bool.and_eq_false_iff, Bool.or_eq_true, Bool.or_eq_false_iff, decide_eq_true_eq, decide_eq_false_iff_not, beq_iff_eq, bne_iff_ne, beq_eq_false_iff_ne, bne_eq_false_iff_eq, Bool.not_true, Bool.not_false, gt_iff_lt, ge_iff_le, Int.not_lt, Int.not_le, ne_eq, Decidable.not_not] at hd) <;> (try simp at hs))
        | refine T_ret ?_
        | refine leave_of (.inr rfl) _ rfl ?_
        | refine leave_of (.inl rfl) _ rfl ?_
        | refine leaveA_of (.inr rfl) _ rfl ?_
        | refine leaveA_of (.inl rfl) _ rfl ?_
        | refine wif_intro ?_ (fun hc => ?_)
        | refine And.intro ?_ ?_
        | intro hc
      | simp (maxSteps := 4000000) only [wops_nil, wops_cons, wstep_none, wstep_some, wguard_true, wrun_call, wrun_mv, wrun_bin, wrun_ext, wop, aop, ev, look, put_some, writes, ores_some, binV, thenK, List.map_cons, List.map_nil, List.length_nil, List.getElem?_cons_zero, List.getElem?_cons_succ, List.nil_append, List.append_nil, List.replicate_zero, List.zipIdx_cons, List.zipIdx_nil, Option.map_some, if_true, if_false, Nat.reduceEqDiff, Nat.reduceAdd, Nat.add_zero, Nat.zero_add, Nat.zero_ne_one, reduceCtorEq, eq_self, beq_self_eq_true, freeze, lidsL, lids, List.flatMap_cons, List.flatMap_nil, ren, renL, shiftρ, tab_ren, *]
      | simp (disch := omega) only [getD_ints, wrapI]
      | (with_reducible show wcall _ false (.lit (.func (.func 119) _ _)) _ _ _ _; refine wcall_fn (h119) ?_ ?_ ?_; (next => simp [rfyL, rfy, hget, ints, take_rfy, tab_ren]); (next => simp [plainL, plain, plainR, tab_ren]))
      | omega)
    refine wcall_fn h97 hre.1 hpl1 ?_
    rw [hfz.1]
    generalize tabF M z = F
    repeat' (first
      | with_reducible first
        | refine T_seq ?_
        | refine T_reg ?_
        | refine T_skip ?_
        | refine T_exit ?_
        | refine T_block ?_
        | refine T_cond_t rfl ?_
        | refine T_cond_f rfl ?_
        | ((first | refine T_cond rfl (fun hc => ?_) (fun hc => ?_) | refine wguard_split (fun hc => ?_) (fun hc => ?_)) <;> have hd := hc <;> (try simp (disch := omega) only [wrapI] at hd) <;> have hs := hd <;> (try simp only [Bool.not_eq_true', Bool.not_eq_false', Bool.and_eq_true, Bool.and_eq_false_iff, Bool.or_eq_true, Bool.or_eq_false_iff, decide_eq_true_eq, decide_eq_false_iff_not, beq_iff_eq, bne_iff_ne, beq_eq_false_iff_ne, bne_eq_false_iff_eq, Bool.not_true, Bool.not_false, gt_iff_lt, ge_iff_le, Int.not_lt, Int.not_le, ne_eq, Decidable.not_not] at hd) <;> (try simp at hs))
        | refine T_ret ?_
        | refine leave_of (.inr rfl) _ rfl ?_
        | refine leave_of (.inl rfl) _ rfl ?_
        | refine leaveA_of (.inr rfl) _ rfl ?_
        | refine leaveA_of (.inl rfl) _ rfl ?_
        | refine wif_intro ?_ (fun hc => ?_)
        | refine And.intro ?_ ?_
        | intro hc
      | simp (maxSteps := 4000000) only [wops_nil, wops_cons, wstep_none, wstep_some, wguard_true, wrun_mv, wrun_pick, wrun_not, get_mk, wop, aop, ev, look, put_some, writes, ores_some, thenK, boolV, tupOf, List.map_nil, List.append_nil, List.replicate_zero, if_true, if_false, Nat.reduceEqDiff, reduceCtorEq, Bool.not_true, Bool.not_false, eq_self, ren, renL, renR, *]
      | simp (disch := omega) only [getD_ints, wrapI]
      | omega)
  · rw [hw] at h97
    refine fn_of e132 ?_
    unfold c132
    replace hre := And.intro hre trivial
    replace hfz := And.intro hfz trivial
    replace hlv := And.intro hlv trivial
    repeat' (first
      | with_reducible first
        | refine T_seq ?_
        | refine T_reg ?_
        | refine T_skip ?_
        | refine T_exit ?_
        | refine T_block ?_
        | refine T_cond_t rfl ?_
        | refine T_cond_f rfl ?_
        | (show wcall _ false (.lit (.func (.func 119) _ _)) _ _ _ _; refine wcall_fn (h119) rfl (by simp [plainL, plain]) ?_)
        | ((first | refine T_cond rfl (fun hc => ?_) (fun hc => ?_) | refine wguard_split (fun hc => ?_) (fun hc => ?_)) <;> have hd := hc <;> (try simp (disch := omega) only [wrapI] at hd) <;> have hs := hd <;> (try simp only [Bool.not_eq_true', Bool.not_eq_false', Bool.and_eq_true, Bool.and_eq_false_iff, Bool.or_eq_true, Bool.or_eq_false_iff, decide_eq_true_eq, decide_eq_false_iff_not, beq_iff_eq, bne_iff_ne, beq_eq_false_iff_ne, bne_eq_false_iff_eq, Bool.not_true, Bool.not_false, gt_iff_lt, ge_iff_le, Int.not_lt, Int.not_le, ne_eq, Decidable.not_not] at hd) <;> (try simp at hs))
        | refine T_ret ?_
        | refine leave_of (.inr rfl) _ rfl ?_
        | refine leave_of (.inl rfl) _ rfl ?_
        | refine leaveA_of (.inr rfl) _ rfl ?_
        | refine leaveA_of (.inl rfl) _ rfl ?_
        | refine wif_intro ?_ (fun hc => ?_)
        | refine And.intro ?_ ?_
        | intro hc
      | simp (maxSteps := 4000000) only [wops_nil, wops_cons, wstep_none, wstep_some, wguard_true, wrun_call, wrun_mv, wrun_bin, wrun_ext, wop, aop, ev, look, put_some, writes, ores_some, binV, thenK, List.map_cons, List.map_nil, List.length_nil, List.getElem?_cons_zero, List.getElem?_cons_succ, List.nil_append, List.append_nil, List.replicate_zero, List.zipIdx_cons, List.zipIdx_nil, Option.map_some, if_true, if_false, Nat.reduceEqDiff, Nat.reduceAdd, Nat.add_zero, Nat.zero_add, Nat.zero_ne_one, reduceCtorEq, eq_self, beq_self_eq_true, freeze, lidsL, lids, List.flatMap_cons, List.flatMap_nil, ren, renL, shiftρ, tab_ren, *]
      | simp (disch := omega) only [getD_ints, wrapI]
      | (with_reducible show wcall _ false (.lit (.func (.func 119) _ _)) _ _ _ _; refine wcall_fn (h119) ?_ ?_ ?_; (next => simp [rfyL, rfy, hget, ints, take_rfy, tab_ren]); (next => simp [plainL, plain, plainR, tab_ren]))
      | omega)
    refine wcall_fn h97 hre.1 hpl1 ?_
    rw [hfz.1]
    generalize hF : tabF M z = F at *
    repeat' (first
      | with_reducible first
        | refine T_seq ?_
        | refine T_reg ?_
        | refine T_skip ?_
        | refine T_exit ?_
        | refine T_block ?_
        | refine T_cond_t rfl ?_
        | refine T_cond_f rfl ?_
        | ((first | refine T_cond rfl (fun hc => ?_) (fun hc => ?_) | refine wguard_split (fun hc => ?_) (fun hc => ?_)) <;> have hd := hc <;> (try simp (disch := omega) only [wrapI] at hd) <;> have hs := hd <;> (try simp only [Bool.not_eq_true', Bool.not_eq_false', Bool.and_eq_true, Bool.and_eq_false_iff, Bool.or_eq_true, Bool.or_eq_false_iff, decide_eq_true_eq, decide_eq_false_iff_not, beq_iff_eq, bne_iff_ne, beq_eq_false_iff_ne, bne_eq_false_iff_eq, Bool.not_true, Bool.not_false, gt_iff_lt, ge_iff_le, Int.not_lt, Int.not_le, ne_eq, Decidable.not_not] at hd) <;> (try simp at hs))
        | refine T_ret ?_
        | refine wif_intro ?_ (fun hc => ?_)
        | refine And.intro ?_ ?_
        | intro hc
      | simp (maxSteps := 4000000) only [wops_nil, wops_cons, wstep_none, wstep_some, wguard_true, wrun_mv, wrun_pick, wrun_not, wop, aop, ev, look, put_some, writes, ores_some, thenK, boolV, List.map_nil, List.append_nil, List.replicate_zero, if_true, if_false, Nat.reduceEqDiff, reduceCtorEq, Bool.not_true, Bool.not_false, eq_self, ren, *]
      | simp (disch := omega) only [getD_ints, wrapI]
      | omega)
end Go.Abs
