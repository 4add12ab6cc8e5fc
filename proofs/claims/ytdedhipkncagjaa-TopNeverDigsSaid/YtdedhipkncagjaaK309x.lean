import Derived.Test.YtdedhipkncagjaaK308x
set_option linter.all false
set_option linter.unusedVariables false
set_option linter.unusedSimpArgs false
set_option linter.unusedSectionVars false
namespace Go.Abs
open Go.Proofs
/-! demands: the closure, the copy, CheckDemand of the reference -/
abbrev dmV (n1 : Bool) (lo : List Int) (n2 : Bool) (hi : List Int) : AV := .agg [ints n1 lo, ints n2 hi]
abbrev iC (xs : List Int) : Blk := .cells true false 1 (xs.map fun x => [i64 x])
set_option maxHeartbeats 8000000 in
theorem k40 {b : Bool} {m : Nat} {E : List (List AV)} (hE : plainR E = true) (n1 n2 : Bool) (lo hi : List Int) : Fn Try.prog 40 [.sl b m E, dmV n1 lo n2 hi] (.clo (.func 64) [] [.loc 0 0 0, .loc 1 0 0]) [.cells true false 1 [[.sl b m E]], .cells true false 2 [[ints n1 lo, ints n2 hi]]] := by
  refine fn_of e40 ?_
  unfold c40
  have hr := fun ρ => renR_plain ρ E hE
  repeat' (first | (with_reducible first | refine T_seq ?_ | refine T_reg ?_ | refine T_skip ?_ | refine T_exit ?_ | refine T_block ?_ | refine T_cond_t rfl ?_ | refine T_cond_f rfl ?_ | refine T_ret ?_ | refine leave_ids (.inr rfl) _ [0, 1] rfl (by simp) (by simp) ?_ | refine leave_ids (.inl rfl) _ [0, 1] rfl (by simp) (by simp) ?_ | refine leaveA_of (.inr rfl) _ rfl ?_ | refine leaveA_of (.inl rfl) _ rfl ?_ | refine wif_intro ?_ (fun hc => ?_) | refine And.intro ?_ ?_ | intro hc) | simp (maxSteps := 4000000) only [wops_nil, wops_cons, wstep_none, wrun_mv, wrun_mkf, wrun_box, get_mk, wop, aop, ev, look, put_some, writes, ores_some, thenK, hget, AV.parts, isOne, tupOf, List.map_cons, List.map_nil, List.length_cons, List.length_nil, List.getElem?_cons_zero, List.getElem?_cons_succ, List.set_cons_zero, List.set_cons_succ, List.nil_append, List.append_nil, List.replicate_zero, List.replicate_succ, List.zipIdx_cons, List.zipIdx_nil, List.all_cons, List.all_nil, Option.getD_some, Option.map_some, Option.map_none, if_true, if_false, Nat.reduceEqDiff, Nat.reduceAdd, Nat.add_zero, Nat.zero_add, Nat.zero_ne_one, reduceCtorEq, Bool.and_true, eq_self, true_and, and_self, List.all_cons, ren, renL, renR, renB, renO, keepρ, pos, Nat.not_lt_zero, renR_ints, renR_ints, *] | simp (disch := omega) only [getD_ints, wrapI] | omega)
  all_goals first | rfl
end Go.Abs
namespace Go.Abs
open Go.Proofs
/-! sessions -/
structure Ss where
  mi : ByteArray
  st : ByteArray
  mn : Int
def ss0 : Ss := ⟨⟨#[]⟩, ⟨#[]⟩, 0⟩
def ssR (l : List Ss) : List (List AV) := l.map fun g => [tx g.mi, tx g.st, i64 g.mn]
abbrev sss (nil : Bool) (l : List Ss) : AV := .sl nil 3 (ssR l)
theorem ssR_len (l : List Ss) : (ssR l).length = l.length := by simp [ssR]
theorem ssR_get {l : List Ss} {k : Nat} (h : k < l.length) : (ssR l).getD k [] = [tx (l.getD k ss0).mi, tx (l.getD k ss0).st, i64 (l.getD k ss0).mn] := by
  simp [ssR, List.getD_eq_getElem?_getD, h]
theorem plainR_ss (l : List Ss) : plainR (ssR l) = true := plainR_map _ (fun _ => rfl) l
theorem renR_ss (ρ : Nat → Option Nat) (l : List Ss) : renR ρ (ssR l) = ssR l := renR_plain ρ _ (plainR_ss l)
theorem ss_take (l : List Ss) : List.take l.length (ssR l) = ssR l := List.take_of_length_le (by rw [ssR_len]; exact Nat.le_refl _)
def zEr (l : List Sk) (s : List Ss) (k : Nat) : Int := if nmB (s.getD k ss0).mi = false then 4 else if decide (sAt l (s.getD k ss0).st < 0) = true then 6 else if (decide (1 ≤ (s.getD k ss0).mn) && decide ((s.getD k ss0).mn ≤ 10000)) = false then 2 else 0
def zE (l : List Sk) (s : List Ss) : Int := if s.length > 200 then 8 else fe (zEr l s) s.length
/-! the limits, the copy -/
end Go.Abs
