import Derived.Test.YtpfmamngjefohaaK309x
set_option linter.all false
set_option linter.unusedVariables false
set_option linter.unusedSimpArgs false
set_option linter.unusedSectionVars false
namespace Go.Abs
open Go.Proofs
/-! sessions -/
structure Ss where
  mi : ByteArray
  st : ByteArray
  mn : Int
def ss0 : Ss := ⟨⟨#[]⟩, ⟨#[]⟩, 0⟩
/-! the limits, the copy -/
end Go.Abs
namespace Go.Abs
open Go.Proofs
/-! sessions: the closures, CheckSessions of the reference -/
end Go.Abs
namespace Go.Abs
open Go.Proofs
/-! first, of so many checks; CheckSessions -/
theorem first3 {H : List Blk} {id : Nat} {o nl : Bool} {g1 g2 g3 : FuncId} {c1 c2 c3 : List AV} {e1 e2 e3 : Int} (hH : H[id]? = some (.cells o nl 1 [[.clo (.func g1) [] c1], [.clo (.func g2) [] c2], [.clo (.func g3) [] c3]])) (h1 : ClA g1 c1 H e1) (h2 : e1 = 0 → ClA g2 c2 H e2) (h3 : e1 = 0 → e2 = 0 → ClA g3 c3 H e3) :
    ACall Try.prog 69 [.lsl id 0 3] H fun r H' => r = i64 (if e1 ≠ 0 then e1 else if e2 ≠ 0 then e2 else e3) ∧ Ext H H' := by
  have h := k69 (n := 3) hH rfl (by omega) (fun k => if k = 0 then e1 else if k = 1 then e2 else e3) fun k hk hz => by
    match k, hk with
    | 0, _ => exact ⟨g1, c1, rfl, h1⟩
    | 1, _ =>
      have : e1 = 0 := by simpa [fe] using hz
      exact ⟨g2, c2, rfl, h2 this⟩
    | 2, _ =>
      by_cases g : e1 = 0
      · have : e2 = 0 := by simpa [fe, g] using hz
        exact ⟨g3, c3, rfl, h3 g this⟩
      · simp [fe, g] at hz
  have e : fe (fun k => if k = 0 then e1 else if k = 1 then e2 else e3) 3 = if e1 ≠ 0 then e1 else if e2 ≠ 0 then e2 else e3 := by
    simp only [fe]
    by_cases g : e1 = 0
    · simp [g]
    · simp [g]
  rw [e] at h
  exact h
/-- strokes as they come -/
structure StV (l : List Sk) (b : Bool) (m : Nat) (E : List (List AV)) : Prop where
  p : plainR E = true
  f : Fn Try.prog 101 [.sl b m E] (.tup [i64 (sN l), i64 (sE l)]) []
  g : sE l = 0 → m = 2 ∧ E = skR l
set_option maxHeartbeats 8000000 in
theorem k101z : Fn Try.prog 101 [.sl true 0 []] (.tup [i64 0, i64 10]) [] := by
  refine fn_of e101 ?_
  unfold c101
  repeat' (first
    | with_reducible first
      | refine T_seq ?_
      | refine T_reg ?_
      | refine T_skip ?_
      | refine T_exit ?_
      | refine T_block ?_
      | refine T_cond_t rfl ?_
      | refine T_cond_f rfl ?_
      | ((first | refine T_cond rfl (fun hc => ?_) (fun hc => ?_) | refine wguard_split (fun hc => ?_) (fun hc => ?_)) <;> have hd := hc <;> (try simp (disch := omega) only [wrapI] at hd) <;> have hs := hd <;> (try simp only [Bool.not_eq_true', Bool.not_eq_false', Bool.and_eq_true, Bool.and_eq_false_iff, Bool.or_eq_true, Bool.or_eq_false_iff, decide_eq_true_eq, decide_eq_false_iff_not, beq_iff_eq, bne_iff_ne, beq_eq_false_iff_ne, bne_eq_false_iff_eq, Bool.not_true, Bool.not_false, gt_iff_lt, ge_iff_le, Int.not_lt, Int.not_le, ne_eq, Decidable.not_not] at hd) <;> (try simp at hs))
      | refine T_ret ?_
      | refine leave_of (.inr rfl) _ rfl ?_
      | refine leave_of (.inl rfl) _ rfl ?_
      | refine leaveA_of (.inr rfl) _ rfl ?_
      | refine leaveA_of (.inl rfl) _ rfl ?_
      | refine wif_intro ?_ (fun hc => ?_)
      | refine And.intro ?_ ?_
      | intro hc
    | simp (maxSteps := 4000000) only [wops_nil, wops_cons, wstep_none, wrun_mv, wrun_bin, wrun_len, get_mk, wop, aop, ev, look, put_some, writes, ores_some, ores_map, ores_bind, binV, thenK, blockK, intV, lenOf, hget, tupOf, List.map_cons, List.map_nil, List.length_nil, List.append_nil, List.replicate_zero, List.zipIdx_cons, List.zipIdx_nil, Option.pure_def, Option.bind_eq_bind, Option.map_some, if_true, if_false, Nat.reduceEqDiff, Nat.zero_add, reduceCtorEq, eq_self, ren, renL, *]
    | simp (disch := omega) only [getD_ints, wrapI]
    | omega)
  all_goals first | rfl
theorem cp_stv {l : List Sk} (hl : l.length < 1000000) (hsz : ∀ k, k < l.length → (l.getD k sk0).nm.size < 1000000 ∧ (l.getD k sk0).wr.length < 1000000) : ∃ b m E, cpS l = .sl b m E ∧ StV (skc l) b m E := by
  by_cases h : l = []
  · subst h
    refine ⟨true, 0, [], rfl, rfl, k101z, fun h => ?_⟩
    simp [sE, skc] at h
  · rw [cpS_ne h]
    refine ⟨false, 2, _, rfl, plainR_sk _, k101 false (skc l) (by rw [skc_len]; exact hl) (fun k hk => ?_), fun _ => ⟨rfl, rfl⟩⟩
    rw [(skc_get l k).1, (skc_get l k).2]
    exact hsz k (by rw [skc_len] at hk; exact hk)
end Go.Abs
