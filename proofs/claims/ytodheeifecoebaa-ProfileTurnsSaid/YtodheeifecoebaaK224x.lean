import Derived.Test.YtodheeifecoebaaK223x
import Derived.Test.YtodheeifecoebaaK9
set_option linter.all false
set_option linter.unusedVariables false
set_option linter.unusedSimpArgs false
set_option linter.unusedSectionVars false
namespace Go.Abs
open Go.Proofs
/-! law 6 -/
theorem Ext.set_resv {H : List Blk} {N : Nat} (h : H[N]? = some .resv) (b : Blk) : Ext H (H.set N b) := fun id o n sz els hc => by
  by_cases e : N = id
  · subst e; rw [h] at hc; simp at hc
  · exact ⟨o, by rw [List.getElem?_set_ne e]; exact hc⟩
theorem freeze1_resv {H : List Blk} {N : Nat} (h : H[N]? = some .resv) (id : Nat) : (freeze1 H id)[N]? = some .resv := by
  unfold freeze1
  split
  · rename_i n' s' e' h1
    by_cases hij : id = N
    · subst hij; rw [h] at h1; simp at h1
    · rw [List.getElem?_set_ne hij]; exact h
  · exact h
theorem freeze_resv {N : Nat} : ∀ (ids : List Nat) (H : List Blk), H[N]? = some .resv → (freeze H ids)[N]? = some .resv
  | [], _, h => h
  | id :: r, H, h => freeze_resv r _ (freeze1_resv h id)
theorem call_resv {H : List Blk} {N : Nat} (h : H[N]? = some .resv) (ids : List Nat) (X : List Blk) : (freeze H ids ++ X)[N]? = some .resv := by
  have h1 := freeze_resv ids H h
  rw [List.getElem?_append_left (List.getElem?_eq_some_iff.1 h1).1]; exact h1
section
variable {P : Program} {s : List (Nat × AV)} {h : List Blk} {K : St → Prop} {g : FuncId} {args args' : List AV} {e : Option Nat} {d : Nat}
theorem wcall_F1 {w : AV} (hf : Gv d P g args' [w]) (he : rfyL (hget h) args = args') (hp : plainL args' = true)
    (hk : ∀ v H', Ext h H' → (∀ N : Nat, h[N]? = some .resv → H'[N]? = some .resv) → Rds d H' v w → K (St.put ⟨s, H'⟩ e v)) : wcall P false (.lit (.func (.func g) #[] #[])) args e ⟨s, h⟩ K :=
  wcall_g1 hf he hp fun v _ hv => hk v _ (Ext.call _ _ _) (fun _ hN => call_resv hN _ _) (hv _ (frzLen _ _))
theorem wcall_F0 {r : AV} (hf : Fn P g args' r []) (hr : plain r = true) (he : rfyL (hget h) args = args') (hp : plainL args' = true)
    (hk : ∀ H', Ext h H' → (∀ N : Nat, h[N]? = some .resv → H'[N]? = some .resv) → K (St.put ⟨s, H'⟩ e r)) : wcall P false (.lit (.func (.func g) #[] #[])) args e ⟨s, h⟩ K := by
  refine wcall_fn hf he hp ?_
  rw [ren_plain _ _ hr]
  exact hk _ (Ext.call _ _ _) (fun _ hN => call_resv hN _ _)
end
theorem at_ap {H : List Blk} {i : Nat} {b : Blk} (h : H[i]? = some b) (X : List Blk) : (H ++ X)[i]? = some b := by rw [List.getElem?_append_left (List.getElem?_eq_some_iff.1 h).1]; exact h
theorem rL0 {d : Nat} {H : List Blk} {v w : AV} (h : Rds d H v w) (hd6 : d ≤ 6) : rfyL (hget H) [v] = [w] := by
  simp only [rfyL, List.map_cons, List.map_nil, h.six hd6]
theorem rLL {d e : Nat} {H : List Blk} {v w v' w' : AV} (h : Rds d H v w) (h' : Rds e H v' w') (hd6 : d ≤ 6) (he6 : e ≤ 6) : rfyL (hget H) [v, v'] = [w, w'] := by
  simp only [rfyL, List.map_cons, List.map_nil, h.six hd6, h'.six he6]
abbrev cpR (rows : List (Bool × List Int)) : List (Bool × List Int) := rows.map fun r => (false, r.2)
theorem cp_row (rows : List (Bool × List Int)) (t : Nat) : (rowN (cpR rows) t).2 = (rowN rows t).2 := by
  unfold rowN cpR
  simp only [List.getD_eq_getElem?_getD, List.getElem?_map]
  cases rows[t]? <;> rfl
theorem cp_V (rows : List (Bool × List Int)) : V (cpR rows) = V rows := by
  funext t i; unfold V; rw [cp_row]
theorem cp_checkT (S : Int) (rows : List (Bool × List Int)) : checkT S (cpR rows) = checkT S rows := by
  unfold checkT cpR
  simp only [List.length_map, List.any_map]
  rfl
theorem TmOk.of {n : Nat} {rows : List (Bool × List Int)} (h : checkT n rows = 0) : ∃ s, TmOk n s rows := by
  obtain ⟨m, s, e, h1, h2, h3, h4, h5⟩ := checkT_ok h
  have : m = n := by omega
  subst this
  exact ⟨s, h1, h2, h3, h4, h5⟩
theorem TmOk.cp {n s : Nat} {rows : List (Bool × List Int)} (h : TmOk n s rows) : TmOk n s (cpR rows) := by
  obtain ⟨h1, h2, h3, h4, h5⟩ := h
  refine ⟨by simpa using h1, by simpa using h2, h3, fun t ht => ?_, fun t i ht hi => ?_⟩
  · rw [cp_row]; exact h4 t (by simpa using ht)
  · rw [cp_V]; exact h5 t i (by simpa using ht) hi
set_option maxHeartbeats 8000000 in
theorem k37n (S : Int) : Fn Try.prog 37 [.agg [i64 S, .sl true 0 []]] (i64 (checkT S [])) [] := by
  refine fn_of e37 ?_
  unfold checkT
  by_cases h1 : ¬(1 ≤ S ∧ S ≤ 24)
  · rw [if_pos h1]
    unfold c37
    repeat' (first
      | with_reducible first
        | refine T_seq ?_
        | refine T_reg ?_
        | refine T_skip ?_
        | refine T_exit ?_
        | refine T_block ?_
        | refine T_cond_t rfl ?_
        | refine T_cond_f rfl ?_
        | (show wcall _ false (.lit (.func (.func 92) _ _)) _ _ _ _; refine wcall_fn (k92 _ _ _) rfl (by simp [plainL, plain]) ?_)
        | ((first | refine T_cond rfl (fun hc => ?_) (fun hc => ?_) | refine wguard_split (fun hc => ?_) (fun hc => ?_)) <;> have hd := hc <;> (try simp (disch := omega) only [wrapI] at hd) <;> have hs := hd <;> (try simp only [Bool.not_eq_true', Bool.not_eq_false', Bool.and_eq_true, Bool.and_eq_false_iff, decide_eq_true_eq, decide_eq_false_iff_not, Bool.not_false, Int.not_le] at hd) <;> (try simp at hs))
        | refine T_ret ?_
        | refine leave_of (.inr rfl) _ rfl ?_
        | refine leave_of (.inl rfl) _ rfl ?_
        | refine leaveA_of (.inr rfl) _ rfl ?_
        | refine leaveA_of (.inl rfl) _ rfl ?_
        | refine wif_intro ?_ (fun hc => ?_)
        | refine And.intro ?_ ?_
        | intro hc
      | simp (maxSteps := 4000000) only [wops_nil, wops_cons, wstep_none, wstep_some, wguard_tf, wrun_call, wrun_mv, wrun_pick, wrun_not, wrun_load, wrun_faddr, wrun_len, wrun_box, get_mk, wop, aop, ev, look, put_some, writes, ores_some, ores_map, ores_bind, thenK, boolV, intV, lenOf, value, cut, hget, AV.parts, isOne, mkAgg, tupOf, List.map_cons, List.map_nil, List.length_cons, List.length_nil, List.getElem?_cons_zero, List.set_cons_zero, List.take_succ_cons, List.take_zero, List.take_nil, List.drop_succ_cons, List.drop_zero, List.nil_append, List.append_nil, List.replicate_zero, List.replicate_succ, List.getD_cons_zero, List.zipIdx_cons, List.zipIdx_nil, List.all_cons, List.all_nil, Option.pure_def, Option.bind_eq_bind, Option.getD_some, Option.map_some, if_true, if_false, Nat.reduceEqDiff, Nat.reduceAdd, Nat.add_zero, Nat.zero_add, Nat.zero_ne_one, reduceCtorEq, Bool.not_true, Bool.not_false, Bool.and_true, Bool.false_eq_true, eq_self, true_and, and_self, decide_true, freeze, lidsL, lids, List.flatMap_cons, List.flatMap_nil, List.all_cons, ren, *]
      | simp (disch := omega) only [getD_ints, wrapI]
      | (with_reducible show wcall _ false (.lit (.func (.func 92) _ _)) _ _ _ _; refine wcall_fn (k92 _ _ _) ?_ ?_ ?_; (next => simp [rfyL, rfy, hget, ints, take_rfy]); (next => simp [plainL, plain, plainR]))
      | omega)
  rw [if_neg h1, if_pos (by simp)]
  unfold c37
  repeat' (first
    | with_reducible first
      | refine T_seq ?_
      | refine T_reg ?_
      | refine T_skip ?_
      | refine T_exit ?_
      | refine T_block ?_
      | refine T_cond_t rfl ?_
      | refine T_cond_f rfl ?_
      | (show wcall _ false (.lit (.func (.func 92) _ _)) _ _ _ _; refine wcall_fn (k92 _ _ _) rfl (by simp [plainL, plain]) ?_)
      | ((first | refine T_cond rfl (fun hc => ?_) (fun hc => ?_) | refine wguard_split (fun hc => ?_) (fun hc => ?_)) <;> have hd := hc <;> (try simp (disch := omega) only [wrapI] at hd) <;> have hs := hd <;> (try simp only [Bool.not_eq_true', Bool.not_eq_false', Bool.and_eq_true, Bool.and_eq_false_iff, decide_eq_true_eq, decide_eq_false_iff_not, Bool.not_false, Int.not_le] at hd) <;> (try simp at hs))
      | refine T_ret ?_
      | refine leave_of (.inr rfl) _ rfl ?_
      | refine leave_of (.inl rfl) _ rfl ?_
      | refine leaveA_of (.inr rfl) _ rfl ?_
      | refine leaveA_of (.inl rfl) _ rfl ?_
      | refine wif_intro ?_ (fun hc => ?_)
      | refine And.intro ?_ ?_
      | intro hc
    | simp (maxSteps := 4000000) only [wops_nil, wops_cons, wstep_none, wstep_some, wguard_tf, wrun_call, wrun_mv, wrun_pick, wrun_not, wrun_load, wrun_faddr, wrun_len, wrun_box, get_mk, wop, aop, ev, look, put_some, writes, ores_some, ores_map, ores_bind, thenK, boolV, intV, lenOf, value, cut, hget, AV.parts, isOne, mkAgg, tupOf, List.map_cons, List.map_nil, List.length_cons, List.length_nil, List.getElem?_cons_zero, List.set_cons_zero, List.take_succ_cons, List.take_zero, List.take_nil, List.drop_succ_cons, List.drop_zero, List.nil_append, List.append_nil, List.replicate_zero, List.replicate_succ, List.getD_cons_zero, List.zipIdx_cons, List.zipIdx_nil, List.all_cons, List.all_nil, Option.pure_def, Option.bind_eq_bind, Option.getD_some, Option.map_some, if_true, if_false, Nat.reduceEqDiff, Nat.reduceAdd, Nat.add_zero, Nat.zero_add, Nat.zero_ne_one, reduceCtorEq, Bool.not_true, Bool.not_false, Bool.and_true, Bool.false_eq_true, eq_self, true_and, and_self, decide_true, freeze, lidsL, lids, List.flatMap_cons, List.flatMap_nil, List.all_cons, ren, *]
    | simp (disch := omega) only [getD_ints, wrapI]
    | (with_reducible show wcall _ false (.lit (.func (.func 92) _ _)) _ _ _ _; refine wcall_fn (k92 _ _ _) ?_ ?_ ?_; (next => simp [rfyL, rfy, hget, ints, take_rfy]); (next => simp [plainL, plain, plainR]))
    | omega)
/-! what the copies of the maps give -/
theorem cp_cases (S : Int) (rows : List (Bool × List Int)) (hl : rows.length ≤ 15) (hr : ∀ t, t < rows.length → (rowN rows t).2.length ≤ 30) :
    ∃ b n E, cpW rows = .sl b n E ∧ plainR E = true ∧ Fn Try.prog 37 [.agg [i64 S, .sl b n E]] (i64 (checkT S rows)) [] := by
  unfold cpW
  by_cases h : rows = []
  · subst h
    exact ⟨true, 0, [], rfl, rfl, k37n S⟩
  · rw [if_neg h]
    refine ⟨false, 1, _, rfl, plain_rws _, ?_⟩
    have h37 := k37 (S := S) (nil := false) (rows := cpR rows) (by simp; omega) (fun t ht => by rw [cp_row]; have := hr t (by simpa using ht); omega)
    rw [cp_checkT] at h37
    exact h37
set_option maxHeartbeats 8000000 in
theorem k6e {S : Int} {nil : Bool} {rows : List (Bool × List Int)} (hl : lightB rows = true) (hc : checkT S rows ≠ 0) : Fn Try.prog 6 [tmV S nil rows] (bl true) [] := by
  refine fn_of e6 ?_
  have h19 := k19
  have hlb := lightB_le hl
  have h33 := k33 (S := S) (nil := nil) (rows := rows)
  rw [hl] at h33
  have h34 := k34 (S := S) (nil := nil) (rows := rows) (by omega) (fun t ht => by have := hlb.2 t ht; omega)
  have h36 := k36 (S := S) (nil := nil) (rows := rows) (by omega)
  obtain ⟨b, n, E, hcp, hE, h37⟩ := cp_cases S rows hlb.1 hlb.2
  rw [hcp] at h34
  have h21 := k21e hE h37 hc
  have h35 := k35e hE h37 hc
  have h22 := k22e hE h37 hc
  have hp := plain_rws rows
  have hpX : plainL [.agg [i64 S, .sl b n E]] = true := by simp only [plainL, plain, hE]; rfl
  clear hlb hl hcp
  generalize checkT S rows = c at *
  have hd1 : (c != 0) = true := by simp only [bne_iff_ne]; exact hc
  have hd2 : (c == 0) = false := by simp only [beq_eq_false_iff_ne]; exact hc
  have g21 := Gv.of_fn 0 h21 [.sl true 0 [], i64 c] (ws := [.sl true 0 [], i64 c]) rfl rfl rfl
  have g35 := Gv.of_fn 0 h35 [.sl true 0 [], i64 c] (ws := [.sl true 0 [], i64 c]) rfl rfl rfl
  replace h34 := And.intro h34 trivial
  replace h36 := And.intro h36 trivial
  replace h33 := And.intro h33 trivial
  replace h22 := And.intro h22 trivial
  replace h37 := And.intro h37 trivial
  replace g21 := And.intro g21 trivial
  replace g35 := And.intro g35 trivial
  clear h21 h35
  unfold c6
  repeat' (first
    | ((with_reducible refine T_calm ?_ ?_); rfl)
    | with_reducible first
      | refine T_seq ?_
      | refine T_reg ?_
      | refine T_draw ?_
      | refine T_skip ?_
      | refine T_exit ?_
      | refine T_block ?_
      | refine T_cond_t rfl ?_
      | refine T_cond_f rfl ?_
      | refine wdW_cons rfl ?_
      | (show wcall _ false (.lit (.func (.func 19) _ _)) _ _ _ _; refine wcall_fn (h19) rfl (by simp [plainL]) ?_)
      | (show wcallX _ false (.lit (.func (.func 19) _ _)) _ _ _ _; refine wcallX_fn (h19) rfl (by simp [plainL, plain, plainR, renR_rws, plain_rws]) ?_)
      | (show wcall _ false (.lit (.func (.func 33) _ _)) _ _ _ _; refine wcall_fn (h33.1) rfl (by simp [plainL, plain, plain_rws]) ?_)
      | (show wcallX _ false (.lit (.func (.func 33) _ _)) _ _ _ _; refine wcallX_fn (h33.1) rfl (by simp [plainL, plain, plainR, renR_rws, plain_rws]) ?_)
      | ((first | refine T_cond rfl (fun hc => ?_) (fun hc => ?_) | refine wguard_split (fun hc => ?_) (fun hc => ?_) | refine wguardX_split (fun hc => ?_) (fun hc => ?_)) <;> have hd := hc <;> (try simp (disch := omega) only [wrapI] at hd) <;> have hs := hd <;> (try simp only [Bool.not_eq_true', Bool.not_eq_false', Bool.and_eq_true, Bool.and_eq_false_iff, Bool.or_eq_true, Bool.or_eq_false_iff, decide_eq_true_eq, decide_eq_false_iff_not, beq_iff_eq, bne_iff_ne, beq_eq_false_iff_ne, bne_eq_false_iff_eq, Bool.not_true, Bool.not_false, gt_iff_lt, ge_iff_le, Int.not_lt, Int.not_le, ne_eq, Decidable.not_not] at hd) <;> (try simp at hs))
      | refine T_ret ?_
      | refine leave_of (.inr rfl) _ rfl ?_
      | refine leave_of (.inl rfl) _ rfl ?_
      | refine leaveA_of (.inr rfl) _ rfl ?_
      | refine leaveA_of (.inl rfl) _ rfl ?_
      | refine wif_intro ?_ (fun hc => ?_)
      | refine And.intro ?_ ?_
      | intro hc
    | simp (maxSteps := 4000000) only [wops_nil, wops_cons, wstep_none, wrun_call, wrun_mv, wrun_not, wrun_load, wrun_box, wop, aop, ev, look, put_some, writes, ores_some, thenK, boolV, value, cut, hget, AV.parts, isOne, toLits, mkAgg, List.map_cons, List.map_nil, List.length_cons, List.length_nil, List.getElem?_cons_zero, List.set_cons_zero, List.take_succ_cons, List.take_nil, List.drop_zero, List.nil_append, List.append_nil, List.replicate_zero, List.replicate_succ, List.getD_cons_zero, List.zipIdx_cons, List.zipIdx_nil, List.all_cons, List.all_nil, Option.getD_some, Option.map_some, Option.map_none, if_true, if_false, Nat.reduceEqDiff, Nat.reduceAdd, Nat.add_zero, Nat.zero_add, Nat.zero_ne_one, reduceCtorEq, Bool.not_true, Bool.and_true, eq_self, true_and, and_self, freeze, lidsL, lids, List.flatMap_cons, List.flatMap_nil, List.all_cons, ren, *]
    | simp (disch := omega) only [getD_ints, wrapI]
    | (with_reducible show wcall _ false (.lit (.func (.func 19) _ _)) _ _ _ _; refine wcall_fn (h19) ?_ ?_ ?_; (next => simp [rfyL, rfy, hget, ints, take_rfy, renR_rws, plain_rws]); (next => simp [plainL, plain, plainR, renR_rws, plain_rws]))
    | (with_reducible show wcallX _ false (.lit (.func (.func 19) _ _)) _ _ _ _; refine wcallX_fn (h19) ?_ ?_ ?_; (next => simp [rfyL, rfy, hget, ints, take_rfy, renR_rws, plain_rws]); (next => simp [plainL, plain, plainR, renR_rws, plain_rws]))
    | (with_reducible show wcall _ false (.lit (.func (.func 33) _ _)) _ _ _ _; refine wcall_fn (h33.1) ?_ ?_ ?_; (next => simp [rfyL, rfy, hget, ints, take_rfy, renR_rws, plain_rws]); (next => simp [plainL, plain, plainR, renR_rws, plain_rws]))
    | (with_reducible show wcallX _ false (.lit (.func (.func 33) _ _)) _ _ _ _; refine wcallX_fn (h33.1) ?_ ?_ ?_; (next => simp [rfyL, rfy, hget, ints, take_rfy, renR_rws, plain_rws]); (next => simp [plainL, plain, plainR, renR_rws, plain_rws]))
    | omega)
  refine wcall_E1 h34.1 rfl (by simp [plainL, plain, plain_rws]) ?_
  intro v H1 hx hv
  obtain ⟨o0, hH0⟩ := hx.cell (id := 0) rfl
  replace hv := And.intro hv trivial
  clear hx
  repeat' (first
    | ((with_reducible refine T_calm ?_ ?_); rfl)
    | with_reducible first
      | refine T_seq ?_
      | refine T_reg ?_
      | refine T_draw ?_
      | refine T_skip ?_
      | refine T_exit ?_
      | refine T_block ?_
      | refine T_cond_t rfl ?_
      | refine T_cond_f rfl ?_
      | refine wdW_cons rfl ?_
      | ((first | refine T_cond rfl (fun hc => ?_) (fun hc => ?_) | refine wguard_split (fun hc => ?_) (fun hc => ?_) | refine wguardX_split (fun hc => ?_) (fun hc => ?_)) <;> have hd := hc <;> (try simp (disch := omega) only [wrapI] at hd) <;> have hs := hd <;> (try simp only [Bool.not_eq_true', Bool.not_eq_false', Bool.and_eq_true, Bool.and_eq_false_iff, Bool.or_eq_true, Bool.or_eq_false_iff, decide_eq_true_eq, decide_eq_false_iff_not, beq_iff_eq, bne_iff_ne, beq_eq_false_iff_ne, bne_eq_false_iff_eq, Bool.not_true, Bool.not_false, gt_iff_lt, ge_iff_le, Int.not_lt, Int.not_le, ne_eq, Decidable.not_not] at hd) <;> (try simp at hs))
      | refine T_ret ?_
      | refine leave_of (.inr rfl) _ rfl ?_
      | refine leave_of (.inl rfl) _ rfl ?_
      | refine leaveA_of (.inr rfl) _ rfl ?_
      | refine leaveA_of (.inl rfl) _ rfl ?_
      | refine wif_intro ?_ (fun hc => ?_)
      | refine And.intro ?_ ?_
      | intro hc
    | simp (maxSteps := 4000000) only [wops_cons, wstep_none, wrun_call, ev, look, put_some, List.map_cons, List.map_nil, if_true, if_false, Nat.reduceEqDiff, reduceCtorEq, eq_self, *]
    | simp (disch := omega) only [getD_ints, wrapI]
    | omega)
  refine wcall_E2 g21.1 (rL0 hv.1 (by omega)) hpX ?_
  intro v3 v4 H2 hx h3 h4
  have := h4.lit; subst this
  have : v3 = .sl true 0 [] := h3.1
  subst this
  obtain ⟨o1, hH1⟩ := hx.cell hH0
  clear hx h3 h4 hv hH0
  repeat' (first
    | ((with_reducible refine T_calm ?_ ?_); rfl)
    | with_reducible first
      | refine T_seq ?_
      | refine T_reg ?_
      | refine T_draw ?_
      | refine T_skip ?_
      | refine T_exit ?_
      | refine T_block ?_
      | refine T_cond_t rfl ?_
      | refine T_cond_f rfl ?_
      | refine wdW_cons rfl ?_
      | ((first | refine T_cond rfl (fun hc => ?_) (fun hc => ?_) | refine wguard_split (fun hc => ?_) (fun hc => ?_) | refine wguardX_split (fun hc => ?_) (fun hc => ?_)) <;> have hd := hc <;> (try simp (disch := omega) only [wrapI] at hd) <;> have hs := hd <;> (try simp only [Bool.not_eq_true', Bool.not_eq_false', Bool.and_eq_true, Bool.and_eq_false_iff, Bool.or_eq_true, Bool.or_eq_false_iff, decide_eq_true_eq, decide_eq_false_iff_not, beq_iff_eq, bne_iff_ne, beq_eq_false_iff_ne, bne_eq_false_iff_eq, Bool.not_true, Bool.not_false, gt_iff_lt, ge_iff_le, Int.not_lt, Int.not_le, ne_eq, Decidable.not_not] at hd) <;> (try simp at hs))
      | refine T_ret ?_
      | refine leave_of (.inr rfl) _ rfl ?_
      | refine leave_of (.inl rfl) _ rfl ?_
      | refine leaveA_of (.inr rfl) _ rfl ?_
      | refine leaveA_of (.inl rfl) _ rfl ?_
      | refine wif_intro ?_ (fun hc => ?_)
      | refine And.intro ?_ ?_
      | intro hc
    | simp (maxSteps := 4000000) only [wops_nil, wops_cons, wstep_none, wrun_call, wrun_mv, wrun_ext, wrun_load, wop, aop, ev, look, put_some, writes, ores_some, thenK, value, cut, hget, toLits, mkAgg, List.map_cons, List.map_nil, List.length_cons, List.length_nil, List.getElem?_cons_zero, List.getElem?_cons_succ, List.take_succ_cons, List.take_nil, List.drop_zero, List.append_nil, List.replicate_zero, List.getD_cons_zero, Option.getD_some, Option.map_some, Option.map_none, if_true, if_false, Nat.reduceEqDiff, Nat.reduceAdd, Nat.zero_add, Nat.zero_ne_one, reduceCtorEq, eq_self, *]
    | simp (disch := omega) only [getD_ints, wrapI]
    | omega)
  refine wcall_E1 h34.1 rfl (by simp [plainL, plain, plain_rws]) ?_
  intro v H3 hx hv
  obtain ⟨o2, hH2⟩ := hx.cell hH1
  replace hv := And.intro hv trivial
  clear hx
  repeat' (first
    | ((with_reducible refine T_calm ?_ ?_); rfl)
    | with_reducible first
      | refine T_seq ?_
      | refine T_reg ?_
      | refine T_draw ?_
      | refine T_skip ?_
      | refine T_exit ?_
      | refine T_block ?_
      | refine T_cond_t rfl ?_
      | refine T_cond_f rfl ?_
      | refine wdW_cons rfl ?_
      | ((first | refine T_cond rfl (fun hc => ?_) (fun hc => ?_) | refine wguard_split (fun hc => ?_) (fun hc => ?_) | refine wguardX_split (fun hc => ?_) (fun hc => ?_)) <;> have hd := hc <;> (try simp (disch := omega) only [wrapI] at hd) <;> have hs := hd <;> (try simp only [Bool.not_eq_true', Bool.not_eq_false', Bool.and_eq_true, Bool.and_eq_false_iff, Bool.or_eq_true, Bool.or_eq_false_iff, decide_eq_true_eq, decide_eq_false_iff_not, beq_iff_eq, bne_iff_ne, beq_eq_false_iff_ne, bne_eq_false_iff_eq, Bool.not_true, Bool.not_false, gt_iff_lt, ge_iff_le, Int.not_lt, Int.not_le, ne_eq, Decidable.not_not] at hd) <;> (try simp at hs))
      | refine T_ret ?_
      | refine leave_of (.inr rfl) _ rfl ?_
      | refine leave_of (.inl rfl) _ rfl ?_
      | refine leaveA_of (.inr rfl) _ rfl ?_
      | refine leaveA_of (.inl rfl) _ rfl ?_
      | refine wif_intro ?_ (fun hc => ?_)
      | refine And.intro ?_ ?_
      | intro hc
    | simp (maxSteps := 4000000) only [wops_cons, wstep_none, wrun_call, ev, look, put_some, List.map_cons, List.map_nil, if_true, if_false, Nat.reduceEqDiff, reduceCtorEq, eq_self, *]
    | simp (disch := omega) only [getD_ints, wrapI]
    | omega)
  refine wcall_E2 g35.1 (rL0 hv.1 (by omega)) hpX ?_
  intro v5 v6 H4 hx h3 h4
  have := h4.lit; subst this
  have : v5 = .sl true 0 [] := h3.1
  subst this
  obtain ⟨o3, hH3⟩ := hx.cell hH2
  clear hx h3 h4 hv hH2
  have hat := at_ap hH3
  repeat' (first
    | ((with_reducible refine T_calm ?_ ?_); rfl)
    | with_reducible first
      | refine T_seq ?_
      | refine T_reg ?_
      | refine T_draw ?_
      | refine T_skip ?_
      | refine T_exit ?_
      | refine T_block ?_
      | refine T_cond_t rfl ?_
      | refine T_cond_f rfl ?_
      | refine wdW_cons rfl ?_
      | ((first | refine T_cond rfl (fun hc => ?_) (fun hc => ?_) | refine wguard_split (fun hc => ?_) (fun hc => ?_) | refine wguardX_split (fun hc => ?_) (fun hc => ?_)) <;> have hd := hc <;> (try simp (disch := omega) only [wrapI] at hd) <;> have hs := hd <;> (try simp only [Bool.not_eq_true', Bool.not_eq_false', Bool.and_eq_true, Bool.and_eq_false_iff, Bool.or_eq_true, Bool.or_eq_false_iff, decide_eq_true_eq, decide_eq_false_iff_not, beq_iff_eq, bne_iff_ne, beq_eq_false_iff_ne, bne_eq_false_iff_eq, Bool.not_true, Bool.not_false, gt_iff_lt, ge_iff_le, Int.not_lt, Int.not_le, ne_eq, Decidable.not_not] at hd) <;> (try simp at hs))
      | refine T_ret ?_
      | refine leave_of (.inr rfl) _ rfl ?_
      | refine leave_of (.inl rfl) _ rfl ?_
      | refine leaveA_of (.inr rfl) _ rfl ?_
      | refine leaveA_of (.inl rfl) _ rfl ?_
      | refine wif_intro ?_ (fun hc => ?_)
      | refine And.intro ?_ ?_
      | intro hc
    | simp (maxSteps := 4000000) only [wops_nil, wops_cons, wstep_none, wrun_call, wrun_mv, wrun_ext, wrun_load, wop, aop, ev, look, put_some, writes, ores_some, thenK, value, cut, hget, toLits, mkAgg, List.map_cons, List.map_nil, List.length_cons, List.length_nil, List.getElem?_cons_zero, List.getElem?_cons_succ, List.take_succ_cons, List.take_nil, List.drop_zero, List.replicate_zero, List.replicate_succ, List.getD_cons_zero, Option.getD_some, Option.map_some, Option.map_none, if_true, if_false, Nat.reduceEqDiff, Nat.reduceAdd, Nat.zero_add, Nat.zero_ne_one, reduceCtorEq, eq_self, *]
    | simp (disch := omega) only [getD_ints, wrapI]
    | omega)
  refine wcall_F1 h34.1 rfl (by simp [plainL, plain, plain_rws]) ?_
  intro v H5 hx hR hv
  have hN5 := hR H4.length (by rw [List.getElem?_append_right (Nat.le_refl _), Nat.sub_self]; rfl)
  obtain ⟨o4, hH4⟩ := hx.cell (hat _)
  replace hv := And.intro hv trivial
  have hNl : 0 < H4.length := (List.getElem?_eq_some_iff.1 hH3).1
  clear hx hR hat
  repeat' (first
    | ((with_reducible refine T_calm ?_ ?_); rfl)
    | with_reducible first
      | refine T_seq ?_
      | refine T_reg ?_
      | refine T_draw ?_
      | refine T_skip ?_
      | refine T_exit ?_
      | refine T_block ?_
      | refine T_cond_t rfl ?_
      | refine T_cond_f rfl ?_
      | refine wdW_cons rfl ?_
      | ((first | refine T_cond rfl (fun hc => ?_) (fun hc => ?_) | refine wguard_split (fun hc => ?_) (fun hc => ?_) | refine wguardX_split (fun hc => ?_) (fun hc => ?_)) <;> have hd := hc <;> (try simp (disch := omega) only [wrapI] at hd) <;> have hs := hd <;> (try simp only [Bool.not_eq_true', Bool.not_eq_false', Bool.and_eq_true, Bool.and_eq_false_iff, Bool.or_eq_true, Bool.or_eq_false_iff, decide_eq_true_eq, decide_eq_false_iff_not, beq_iff_eq, bne_iff_ne, beq_eq_false_iff_ne, bne_eq_false_iff_eq, Bool.not_true, Bool.not_false, gt_iff_lt, ge_iff_le, Int.not_lt, Int.not_le, ne_eq, Decidable.not_not] at hd) <;> (try simp at hs))
      | refine T_ret ?_
      | refine leave_of (.inr rfl) _ rfl ?_
      | refine leave_of (.inl rfl) _ rfl ?_
      | refine leaveA_of (.inr rfl) _ rfl ?_
      | refine leaveA_of (.inl rfl) _ rfl ?_
      | refine wif_intro ?_ (fun hc => ?_)
      | refine And.intro ?_ ?_
      | intro hc
    | simp (maxSteps := 4000000) only [wops_cons, wstep_none, wrun_call, ev, look, put_some, List.map_cons, List.map_nil, if_true, if_false, Nat.reduceEqDiff, reduceCtorEq, eq_self, *]
    | simp (disch := omega) only [getD_ints, wrapI]
    | omega)
  refine wcall_F0 h22.1 rfl (rL0 hv.1 (by omega)) hpX ?_
  intro H6 hx hR
  have hN6 := hR _ hN5
  obtain ⟨o5, hH5⟩ := hx.cell hH4
  clear hx hR hv hN5 hH4 hH3
  generalize H4.length = N at *
  have hNlt := (List.getElem?_eq_some_iff.1 hN6).1
  have hs1 : ∀ B : Blk, (H6.set N B)[N]? = some B := fun B => List.getElem?_set_self hNlt
  have hs0 : ∀ B : Blk, (H6.set N B)[0]? = some (.cells o5 false 2 [[i64 S, .sl nil 1 (rows.map fun r => [ints r.1 r.2])]]) := fun B => by rw [List.getElem?_set_ne (by omega)]; exact hH5
  have hss : ∀ B B' : Blk, (H6.set N B).set N B' = H6.set N B' := fun B B' => List.set_set ..
  repeat' (first
    | ((with_reducible refine T_calm ?_ ?_); rfl)
    | with_reducible first
      | refine T_seq ?_
      | refine T_reg ?_
      | refine T_draw ?_
      | refine T_skip ?_
      | refine T_exit ?_
      | refine T_block ?_
      | refine T_cond_t rfl ?_
      | refine T_cond_f rfl ?_
      | refine wdW_cons rfl ?_
      | ((first | refine T_cond rfl (fun hc => ?_) (fun hc => ?_) | refine wguard_split (fun hc => ?_) (fun hc => ?_) | refine wguardX_split (fun hc => ?_) (fun hc => ?_)) <;> have hd := hc <;> (try simp (disch := omega) only [wrapI] at hd) <;> have hs := hd <;> (try simp only [Bool.not_eq_true', Bool.not_eq_false', Bool.and_eq_true, Bool.and_eq_false_iff, Bool.or_eq_true, Bool.or_eq_false_iff, decide_eq_true_eq, decide_eq_false_iff_not, beq_iff_eq, bne_iff_ne, beq_eq_false_iff_ne, bne_eq_false_iff_eq, Bool.not_true, Bool.not_false, gt_iff_lt, ge_iff_le, Int.not_lt, Int.not_le, ne_eq, Decidable.not_not] at hd) <;> (try simp at hs))
      | refine T_ret ?_
      | refine leave_of (.inr rfl) _ rfl ?_
      | refine leave_of (.inl rfl) _ rfl ?_
      | refine leaveA_of (.inr rfl) _ rfl ?_
      | refine leaveA_of (.inl rfl) _ rfl ?_
      | refine wif_intro ?_ (fun hc => ?_)
      | refine And.intro ?_ ?_
      | intro hc
    | simp (maxSteps := 4000000) only [wops_nil, wops_cons, wstep_none, wrun_call, wrun_mv, wrun_ext, wrun_load, wrun_store, wrun_alloc, wop, aop, ev, look, put_some, put_none, writes, ores_some, thenK, value, cut, hget, putCells, AV.parts, isOne, toLits, mkAgg, ofValue_int, List.map_cons, List.map_nil, List.length_cons, List.length_nil, List.getElem?_cons_zero, List.getElem?_cons_succ, List.set_cons_zero, List.take_succ_cons, List.take_zero, List.take_nil, List.drop_succ_cons, List.drop_zero, List.drop_nil, List.nil_append, List.append_nil, List.append_assoc, List.replicate_zero, List.getD_cons_zero, List.all_cons, List.all_nil, Option.getD_some, Option.map_some, Option.map_none, if_true, if_false, Nat.reduceEqDiff, Nat.reduceAdd, Nat.reduceLT, Nat.add_zero, Nat.zero_add, Nat.le_refl, Nat.zero_ne_one, reduceCtorEq, Bool.and_true, eq_self, true_and, and_self, List.all_cons, *]
    | simp (disch := omega) only [getD_ints, wrapI]
    | omega)
  refine wcall_E0 h36.1 rfl rfl (by simp [plainL, plain, plain_rws]) ?_
  intro H7 hx
  obtain ⟨o6, hH6⟩ := hx.cell (hs0 _)
  obtain ⟨o7, hN7⟩ := hx.cell (hs1 _)
  clear hx hs0 hs1 hss hH5 hN6 hNlt
  repeat' (first
    | ((with_reducible refine T_calm ?_ ?_); rfl)
    | with_reducible first
      | refine T_seq ?_
      | refine T_reg ?_
      | refine T_draw ?_
      | refine T_skip ?_
      | refine T_exit ?_
      | refine T_block ?_
      | refine T_cond_t rfl ?_
      | refine T_cond_f rfl ?_
      | refine wdW_cons rfl ?_
      | ((first | refine T_cond rfl (fun hc => ?_) (fun hc => ?_) | refine wguard_split (fun hc => ?_) (fun hc => ?_) | refine wguardX_split (fun hc => ?_) (fun hc => ?_)) <;> have hd := hc <;> (try simp (disch := omega) only [wrapI] at hd) <;> have hs := hd <;> (try simp only [Bool.not_eq_true', Bool.not_eq_false', Bool.and_eq_true, Bool.and_eq_false_iff, Bool.or_eq_true, Bool.or_eq_false_iff, decide_eq_true_eq, decide_eq_false_iff_not, beq_iff_eq, bne_iff_ne, beq_eq_false_iff_ne, bne_eq_false_iff_eq, Bool.not_true, Bool.not_false, gt_iff_lt, ge_iff_le, Int.not_lt, Int.not_le, ne_eq, Decidable.not_not] at hd) <;> (try simp at hs))
      | refine T_ret ?_
      | refine leave_of (.inr rfl) _ rfl ?_
      | refine leave_of (.inl rfl) _ rfl ?_
      | refine leaveA_of (.inr rfl) _ rfl ?_
      | refine leaveA_of (.inl rfl) _ rfl ?_
      | refine wif_intro ?_ (fun hc => ?_)
      | refine And.intro ?_ ?_
      | intro hc
    | simp (maxSteps := 4000000) only [wops_nil, wops_cons, wstep_none, wrun_call, wrun_mv, wrun_load, wop, aop, ev, look, put_some, writes, ores_some, thenK, value, cut, hget, toLits, mkAgg, List.map_cons, List.map_nil, List.length_cons, List.length_nil, List.take_succ_cons, List.take_nil, List.drop_zero, List.append_nil, List.replicate_zero, List.getD_cons_zero, Option.getD_some, Option.map_some, Option.map_none, if_true, if_false, Nat.reduceEqDiff, Nat.reduceAdd, Nat.zero_add, Nat.zero_ne_one, reduceCtorEq, eq_self, *]
    | simp (disch := omega) only [getD_ints, wrapI]
    | omega)
  refine wcall_E1 h34.1 rfl (by simp [plainL, plain, plain_rws]) ?_
  intro v H8 hx hv
  obtain ⟨o8, hH8⟩ := hx.cell hH6
  obtain ⟨o9, hN8⟩ := hx.cell hN7
  replace hv := And.intro hv trivial
  clear hx hH6 hN7
  repeat' (first
    | ((with_reducible refine T_calm ?_ ?_); rfl)
    | with_reducible first
      | refine T_seq ?_
      | refine T_reg ?_
      | refine T_draw ?_
      | refine T_skip ?_
      | refine T_exit ?_
      | refine T_block ?_
      | refine T_cond_t rfl ?_
      | refine T_cond_f rfl ?_
      | refine wdW_cons rfl ?_
      | ((first | refine T_cond rfl (fun hc => ?_) (fun hc => ?_) | refine wguard_split (fun hc => ?_) (fun hc => ?_) | refine wguardX_split (fun hc => ?_) (fun hc => ?_)) <;> have hd := hc <;> (try simp (disch := omega) only [wrapI] at hd) <;> have hs := hd <;> (try simp only [Bool.not_eq_true', Bool.not_eq_false', Bool.and_eq_true, Bool.and_eq_false_iff, Bool.or_eq_true, Bool.or_eq_false_iff, decide_eq_true_eq, decide_eq_false_iff_not, beq_iff_eq, bne_iff_ne, beq_eq_false_iff_ne, bne_eq_false_iff_eq, Bool.not_true, Bool.not_false, gt_iff_lt, ge_iff_le, Int.not_lt, Int.not_le, ne_eq, Decidable.not_not] at hd) <;> (try simp at hs))
      | refine T_ret ?_
      | refine leave_of (.inr rfl) _ rfl ?_
      | refine leave_of (.inl rfl) _ rfl ?_
      | refine leaveA_of (.inr rfl) _ rfl ?_
      | refine leaveA_of (.inl rfl) _ rfl ?_
      | refine wif_intro ?_ (fun hc => ?_)
      | refine And.intro ?_ ?_
      | intro hc
    | simp (maxSteps := 4000000) only [wops_cons, wstep_none, wrun_call, ev, look, put_some, List.map_cons, List.map_nil, if_true, if_false, Nat.reduceEqDiff, reduceCtorEq, eq_self, *]
    | simp (disch := omega) only [getD_ints, wrapI]
    | omega)
  refine wcall_E0 h37.1 rfl (rL0 hv.1 (by omega)) hpX ?_
  intro H9 hx
  obtain ⟨o10, hH9⟩ := hx.cell hH8
  obtain ⟨o11, hN9⟩ := hx.cell hN8
  clear hx hH8 hN8 hv
  have hcc : (c != c) = false := by simp
  repeat' (first
    | ((with_reducible refine T_calm ?_ ?_); rfl)
    | with_reducible first
      | refine T_seq ?_
      | refine T_reg ?_
      | refine T_draw ?_
      | refine T_skip ?_
      | refine T_exit ?_
      | refine T_block ?_
      | refine T_cond_t rfl ?_
      | refine T_cond_f rfl ?_
      | refine wdW_cons rfl ?_
      | ((first | refine T_cond rfl (fun hc => ?_) (fun hc => ?_) | refine wguard_split (fun hc => ?_) (fun hc => ?_) | refine wguardX_split (fun hc => ?_) (fun hc => ?_)) <;> have hd := hc <;> (try simp (disch := omega) only [wrapI] at hd) <;> have hs := hd <;> (try simp only [beq_iff_eq, beq_eq_false_iff_ne, Bool.not_true, ne_eq] at hd) <;> (try simp at hs))
      | refine T_ret ?_
      | refine leave_of (.inr rfl) _ rfl ?_
      | refine leave_of (.inl rfl) _ rfl ?_
      | refine leaveA_of (.inr rfl) _ rfl ?_
      | refine leaveA_of (.inl rfl) _ rfl ?_
      | refine wif_intro ?_ (fun hc => ?_)
      | refine And.intro ?_ ?_
      | intro hc
    | simp (maxSteps := 4000000) only [wops_nil, wops_cons, wstep_none, wstep_some, wguard_true, wrun_mv, wrun_pick, wrun_bin, wrun_eqAgg, wrun_build, wrun_load, wrun_len, get_mk, wop, aop, ev, look, put_some, writes, ores_some, ores_map, ores_bind, binV, thenK, boolV, intV, lenOf, value, cut, hget, fillA, toLits, mkAgg, tupOf, cellsEq, cellEq, List.map_nil, List.length_cons, List.length_nil, List.take_succ_cons, List.take_nil, List.drop_zero, List.append_nil, List.replicate_zero, List.getD_cons_zero, Option.pure_def, Option.bind_eq_bind, Option.getD_some, Option.map_some, if_true, if_false, Nat.reduceEqDiff, Nat.reduceAdd, Nat.zero_add, reduceCtorEq, Bool.false_eq_true, eq_self, and_self, beq_self_eq_true, ren, *]
    | simp (disch := omega) only [getD_ints, wrapI]
    | omega)
  all_goals first | rfl
end Go.Abs
