import Derived.Test.YtodheeifecoebaaAbs21
import Derived.Test.YtodheeifecoebaaK1x
set_option linter.all false
set_option linter.unusedVariables false
set_option linter.unusedSimpArgs false
set_option linter.unusedSectionVars false
namespace Go.Abs
abbrev fmap (w : Int) (nil : Bool) (ph : List Int) : AV := .agg [i64 w, ints nil ph]
def thereB (ph : List Int) (c : Int) : Bool := decide (0 ≤ c ∧ c < ph.length ∧ ph.getD c.toNat 0 ≠ -1)
def lo2 (a b : Int) : Int := if b < a then b else a
def hi2 (a b : Int) : Int := if b > a then b else a
def besideB (w a b : Int) : Bool := decide (hi2 a b = lo2 a b + w) || (decide (hi2 a b = lo2 a b + 1) && (hi2 a b).tmod w != 0)
def cands (w c : Int) : List Int := [c - w, c - 1, c + 1, c + w]
def nextB (w : Int) (ph : List Int) (c x : Int) : Bool := thereB ph x && besideB w c x
def Grid (ic ig : Nat) (w c : Int) (nil : Bool) (ph : List Int) (H : List Blk) : Prop := (∃ o n, H[ic]? = some (.cells o n 1 [[i64 c]])) ∧ ∃ o n, H[ig]? = some (.cells o n 2 [[i64 w, ints nil ph]])
def tail146 (w c : Int) (ph : List Int) (k : Nat) : List Int := ((cands w c).drop k).filter (nextB w ph c)
def s146 (w c : Int) (hl ic ig : Nat) (k : Nat) : List (Nat × AV) := [(19, i64 k), (18, .lit (.agg #[.int .i64 (c - w), .int .i64 (c - 1), .int .i64 (c + 1), .int .i64 (c + w)])), (0, .mp hl), (1, .loc ic 0 0), (2, .loc ig 0 0)]
/-- whole numbers out of rows -/
def unI : List (List AV) → Option (List Int)
  | [] => some []
  | [.lit (.int .i64 x)] :: r => (unI r).map (x :: ·)
  | _ => none
theorem unI_ok : ∀ {l : List (List AV)} {xs : List Int}, unI l = some xs → l = xs.map fun x => [i64 x]
  | [], xs, h => by obtain rfl := Option.some.inj h; rfl
  | [.lit (.int .i64 x)] :: r, xs, h => by
    simp only [unI, Option.map_eq_some_iff] at h
    obtain ⟨ys, h1, rfl⟩ := h
    rw [unI_ok h1]; rfl
def gridOf (ic ig : Nat) (H : List Blk) : Option (Int × Int × Bool × List Int) :=
  match H[ic]? with
  | some (.cells _ _ 1 [[.lit (.int .i64 c)]]) => match H[ig]? with
    | some (.cells _ _ 2 [[.lit (.int .i64 w), .sl nil 1 els]]) => (unI els).map fun ph => (w, c, nil, ph)
    | _ => none
  | _ => none
theorem gridOf_ok {ic ig : Nat} {H : List Blk} {w c : Int} {nil : Bool} {ph : List Int} (h : gridOf ic ig H = some (w, c, nil, ph)) : Grid ic ig w c nil ph H := by
  unfold gridOf at h
  split at h
  · rename_i o n c' h1
    split at h
    · rename_i o2 n2 w' nil' els h2
      simp only [Option.map_eq_some_iff, Prod.mk.injEq] at h
      obtain ⟨ph', h3, rfl, rfl, rfl, rfl⟩ := h
      rw [unI_ok h3] at h2
      exact ⟨⟨o, n, h1⟩, o2, n2, h2⟩
    · simp at h
  · simp at h
theorem unI_map : ∀ xs : List Int, unI (xs.map fun x => [i64 x]) = some xs
  | [] => rfl
  | x :: r => by simp only [List.map_cons, unI, unI_map r]; rfl
theorem gridOf_of {ic ig : Nat} {H : List Blk} {w c : Int} {nil : Bool} {ph : List Int} (h : Grid ic ig w c nil ph H) : gridOf ic ig H = some (w, c, nil, ph) := by
  obtain ⟨⟨o, n, h1⟩, o2, n2, h2⟩ := h
  unfold gridOf
  simp only [h1, h2, unI_map, Option.map_some]
def locs2 : List AV → List AV → Option (Nat × Nat)
  | [], [.loc ic 0 0, .loc ig 0 0] => some (ic, ig)
  | _, _ => none
theorem locs2_ok {first cap : List AV} {ic ig : Nat} (h : locs2 first cap = some (ic, ig)) : first = [] ∧ cap = [.loc ic 0 0, .loc ig 0 0] := by
  unfold locs2 at h
  split at h
  · simp only [Option.some.injEq, Prod.mk.injEq] at h
    obtain ⟨rfl, rfl⟩ := h; exact ⟨rfl, rfl⟩
  · simp at h
def itA : Iters := fun gf first cap H => (locs2 first cap).bind fun p => (gridOf p.1 p.2 H).bind fun q =>
  if gf = 146 ∧ 1 ≤ q.1 ∧ q.1 ≤ 1000000 ∧ 0 ≤ q.2.1 ∧ q.2.1 ≤ 100000000 ∧ q.2.2.2.length < 4611686018427387904 then some (tail146 q.1 q.2.1 q.2.2.2 0, q.1 :: q.2.1 :: (if q.2.2.1 then 1 else 0) :: q.2.2.2) else none
theorem itA_iff {gf : FuncId} {first cap : List AV} {H : List Blk} {x : List Int × List Int} (h : itA gf first cap H = some x) : ∃ ic ig w c nil ph, gf = 146 ∧ first = [] ∧ cap = [.loc ic 0 0, .loc ig 0 0] ∧ gridOf ic ig H = some (w, c, nil, ph) ∧ (1 ≤ w ∧ w ≤ 1000000) ∧ (0 ≤ c ∧ c ≤ 100000000) ∧ ph.length < 4611686018427387904 ∧ x = (tail146 w c ph 0, w :: c :: (if nil then 1 else 0) :: ph) := by
  unfold itA at h
  simp only [Option.bind_eq_some_iff] at h
  obtain ⟨⟨ic, ig⟩, h1, ⟨w, c, nil, ph⟩, h2, h3⟩ := h
  dsimp only at h2 h3
  split at h3
  · rename_i hc
    obtain ⟨e1, e2⟩ := locs2_ok h1
    exact ⟨ic, ig, w, c, nil, ph, hc.1, e1, e2, h2, ⟨hc.2.1, hc.2.2.1⟩, ⟨hc.2.2.2.1, hc.2.2.2.2.1⟩, hc.2.2.2.2.2, (Option.some.inj h3).symm⟩
  · simp at h3
theorem itA_of {ic ig : Nat} {H : List Blk} {w c : Int} {nil : Bool} {ph : List Int} (h : gridOf ic ig H = some (w, c, nil, ph)) (hw : 1 ≤ w ∧ w ≤ 1000000) (hc : 0 ≤ c ∧ c ≤ 100000000) (hl : ph.length < 4611686018427387904) :
    itA 146 [] [.loc ic 0 0, .loc ig 0 0] H = some (tail146 w c ph 0, w :: c :: (if nil then 1 else 0) :: ph) := by
  unfold itA locs2
  simp only [Option.bind_some, h]
  rw [if_pos ⟨trivial, hw.1, hw.2, hc.1, hc.2, hl⟩]
end Go.Abs
namespace Go.Abs
open Go.Proofs
set_option maxHeartbeats 8000000 in
theorem k105 (w : Int) (nil : Bool) (ph : List Int) (c : Int) (hl : ph.length < 4611686018427387904) : Fn Try.prog 105 [fmap w nil ph, i64 c] (bl (thereB ph c)) [] := by
  refine fn_of e105 ?_
  unfold c105 thereB
  repeat' (first | (with_reducible first | refine T_seq ?_ | refine T_reg ?_ | refine T_skip ?_ | refine T_exit ?_ | refine T_block ?_ | refine T_cond_t rfl ?_ | refine T_cond_f rfl ?_ | (show wcall _ false (.lit (.func (.func 92) _ _)) _ _ _ _; refine wcall_fn (k92 _ _ _) rfl (by simp [plainL, plain]) ?_) | ((first | refine T_cond rfl (fun hc => ?_) (fun hc => ?_) | refine wguard_split (fun hc => ?_) (fun hc => ?_)) <;> have hd := hc <;> (try simp (disch := omega) only [wrapI] at hd) <;> have hs := hd <;> (try simp only [Bool.and_eq_true, Bool.and_eq_false_iff, decide_eq_true_eq, decide_eq_false_iff_not, Bool.not_true, Int.not_le] at hd) <;> (try simp at hs)) | refine T_ret ?_ | refine leave_of (.inr rfl) _ rfl ?_ | refine leave_of (.inl rfl) _ rfl ?_ | refine leaveA_of (.inr rfl) _ rfl ?_ | refine leaveA_of (.inl rfl) _ rfl ?_ | refine wif_intro ?_ (fun hc => ?_) | refine And.intro ?_ ?_ | intro hc) | simp (maxSteps := 4000000) only [wops_nil, wops_cons, wstep_none, wstep_some, wguard_true, wguard_ft, wrun_call, wrun_mv, wrun_pick, wrun_bin, wrun_load, wrun_faddr, wrun_iaddrS, wrun_len, wrun_box, get_mk, wop, aop, ev, look, put_some, writes, ores_some, ores_ite_none, ores_map, ores_bind, binV, thenK, intV, lenOf, value, cut, hget, AV.parts, isOne, toLits, mkAgg, tupOf, List.map_cons, List.map_nil, List.length_cons, List.length_nil, List.getElem?_cons_zero, List.set_cons_zero, List.take_succ_cons, List.take_nil, List.drop_succ_cons, List.drop_zero, List.nil_append, List.append_nil, List.replicate_zero, List.replicate_succ, List.getD_cons_zero, List.zipIdx_cons, List.zipIdx_nil, List.all_cons, List.all_nil, List.length_map, Option.pure_def, Option.bind_eq_bind, Option.getD_some, Option.map_some, if_true, if_false, Nat.reduceEqDiff, Nat.reduceAdd, Nat.add_zero, Nat.zero_add, Nat.zero_ne_one, reduceCtorEq, Bool.not_true, Bool.and_true, Bool.true_and, Bool.false_eq_true, eq_self, true_and, and_true, and_self, decide_true, ne_eq, Int.reduceNeg, freeze, lidsL, lids, List.flatMap_cons, List.flatMap_nil, List.all_cons, ren, *] | simp (disch := omega) only [getD_ints, wrapI] | (with_reducible show wcall _ false (.lit (.func (.func 92) _ _)) _ _ _ _; refine wcall_fn (k92 _ _ _) ?_ ?_ ?_; (next => simp [rfyL, rfy, hget, ints, take_rfy]); (next => simp [plainL, plain, plainR])) | omega)
  · exact congrArg bl (by rw [Bool.eq_iff_iff]; simp)
  · have e : ¬ (0 ≤ c ∧ c < ↑ph.length ∧ ph.getD c.toNat 0 ≠ -1) := by omega
    simp only [e, decide_false]
set_option maxHeartbeats 8000000 in
theorem k112 (w : Int) (nil : Bool) (ph : List Int) (a b : Int) (hw : 1 ≤ w ∧ w ≤ 1000000) (ha : -1000000000 ≤ a ∧ a ≤ 1000000000) (hb : -1000000000 ≤ b ∧ b ≤ 1000000000) : Fn Try.prog 112 [fmap w nil ph, i64 a, i64 b] (bl (besideB w a b)) [] := by
  refine fn_of e112 ?_
  unfold c112 besideB
  have h1 : -1000000000 ≤ lo2 a b ∧ lo2 a b ≤ 1000000000 := by unfold lo2; split <;> omega
  have e1 : (if b < a then b else a) = lo2 a b := rfl
  have e2 : (if b > a then b else a) = hi2 a b := rfl
  repeat' (first | (with_reducible first | refine T_seq ?_ | refine T_reg ?_ | refine T_skip ?_ | refine T_exit ?_ | refine T_block ?_ | refine T_cond_t rfl ?_ | refine T_cond_f rfl ?_ | ((first | refine T_cond rfl (fun hc => ?_) (fun hc => ?_) | refine wguard_split (fun hc => ?_) (fun hc => ?_)) <;> have hd := hc <;> (try simp (disch := omega) only [wrapI] at hd) <;> have hs := hd <;> (try simp only [beq_iff_eq, beq_eq_false_iff_ne, Bool.not_true, Bool.not_false, ne_eq] at hd) <;> (try simp at hs)) | refine T_ret ?_ | refine leave_of (.inr rfl) _ rfl ?_ | refine leave_of (.inl rfl) _ rfl ?_ | refine leaveA_of (.inr rfl) _ rfl ?_ | refine leaveA_of (.inl rfl) _ rfl ?_ | refine wif_intro ?_ (fun hc => ?_) | refine And.intro ?_ ?_ | intro hc) | simp (maxSteps := 4000000) only [wops_nil, wops_cons, wstep_none, wstep_some, wguard_true, wguard_ff, wguard_tf, wguard_ft, wguard_undef, wrun_mv, wrun_pick, wrun_bin, wrun_load, wrun_faddr, wrun_minmax, wrun_box, get_mk, wop, aop, ev, look, put_some, writes, ores_some, ores_none_ite, ores_map, binV, thenK, value, cut, hget, AV.parts, isOne, mkAgg, tupOf, List.map_cons, List.map_nil, List.length_cons, List.length_nil, List.getElem?_cons_zero, List.set_cons_zero, List.take_succ_cons, List.take_zero, List.drop_zero, List.nil_append, List.append_nil, List.replicate_zero, List.replicate_succ, List.getD_cons_zero, List.zipIdx_cons, List.zipIdx_nil, List.all_cons, List.all_nil, Option.getD_some, Option.map_some, if_true, if_false, Nat.reduceEqDiff, Nat.reduceAdd, Nat.add_zero, Nat.zero_add, Nat.zero_ne_one, reduceCtorEq, Bool.not_true, Bool.not_false, Bool.and_true, Bool.true_and, Bool.false_and, Bool.true_or, Bool.false_or, Bool.false_eq_true, eq_self, true_and, and_self, decide_true, decide_false, List.all_cons, ren, List.map_cons, *] | simp (disch := omega) only [getD_ints, wrapI] | omega)
end Go.Abs
