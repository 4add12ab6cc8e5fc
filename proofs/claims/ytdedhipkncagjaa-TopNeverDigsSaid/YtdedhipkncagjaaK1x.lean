import Derived.Test.YtdedhipkncagjaaPCmin
import Derived.Laws.Strings
set_option linter.all false
set_option linter.unusedVariables false
set_option linter.unusedSimpArgs false
set_option linter.unusedSectionVars false
namespace Go.Abs
open Go.Proofs
/-! texts, names -/
abbrev tx (b : ByteArray) : AV := .lit (.string b)
abbrev u8 (n : Int) : AV := .lit (.int .u8 n)
set_option maxHeartbeats 8000000 in
theorem k65 (n lo hi : Int) : Fn Try.prog 65 [i64 n, i64 lo, i64 hi] (bl (decide (lo ≤ n) && decide (n ≤ hi))) [] := by
  refine fn_of e65 ?_
  unfold c65
  repeat' (first | (with_reducible first | refine T_seq ?_ | refine T_reg ?_ | refine T_skip ?_ | refine T_exit ?_ | refine T_block ?_ | refine T_cond_t rfl ?_ | refine T_cond_f rfl ?_ | ((first | refine T_cond rfl (fun hc => ?_) (fun hc => ?_) | refine wguard_split (fun hc => ?_) (fun hc => ?_)) <;> have hd := hc <;> (try simp (disch := omega) only [wrapI] at hd) <;> have hs := hd <;> (try simp only [decide_eq_true_eq, decide_eq_false_iff_not, Bool.not_true, ge_iff_le, Int.not_le] at hd) <;> (try simp at hs)) | refine T_ret ?_ | refine leave_of (.inr rfl) _ rfl ?_ | refine leave_of (.inl rfl) _ rfl ?_ | refine leaveA_of (.inr rfl) _ rfl ?_ | refine leaveA_of (.inl rfl) _ rfl ?_ | refine wif_intro ?_ (fun hc => ?_) | refine And.intro ?_ ?_ | intro hc) | simp (maxSteps := 4000000) only [wops_nil, wops_cons, wstep_none, wstep_some, wguard_true, wguard_ft, wrun_mv, wrun_pick, wrun_bin, get_mk, wop, aop, ev, look, put_some, writes, ores_some, binV, thenK, tupOf, List.map_cons, List.map_nil, List.length_nil, List.append_nil, List.replicate_zero, List.zipIdx_cons, List.zipIdx_nil, Option.map_some, if_true, if_false, Nat.reduceEqDiff, Nat.reduceAdd, Nat.zero_add, Nat.zero_ne_one, reduceCtorEq, Bool.not_true, Bool.true_and, Bool.false_and, Bool.false_eq_true, eq_self, decide_true, ren, *] | simp (disch := omega) only [getD_ints, wrapI] | omega)
  all_goals simp_all
def isLt (c : Int) : Bool := (decide (97 ≤ c) && decide (c ≤ 122)) || (decide (65 ≤ c) && decide (c ≤ 90))
def isDg (c : Int) : Bool := decide (48 ≤ c) && decide (c ≤ 57)
def okCh (c : Int) : Bool := isLt c || isDg c || decide (c = 45)
/-- the bytes of a text as numbers -/
def nums (b : ByteArray) : List Int := b.data.toList.map fun c => (c.toNat : Int)
theorem nums_len (b : ByteArray) : (nums b).length = b.size := by unfold nums; rw [List.length_map, Array.length_toList]; rfl
def nmL : List Int → Bool
  | [] => false
  | c :: r => decide ((c :: r).length ≤ 12) && isLt c && (c :: r).all okCh
def nmB (b : ByteArray) : Bool := nmL (nums b)
theorem nmL_eq (l : List Int) : nmL l = (!decide (l.length = 0) && decide (l.length ≤ 12) && isLt (l.getD 0 0) && l.all okCh) := by
  cases l with
  | nil => rfl
  | cons c r => simp [nmL]
theorem all_nx {p : Int → Bool} {l : List Int} : l.all p = true ↔ ∀ k, k < l.length → p (l.getD k 0) = true := by
  rw [List.all_eq_true]
  constructor
  · intro h k hk
    rw [List.getD_eq_getElem?_getD, List.getElem?_eq_getElem hk]
    exact h _ (List.getElem_mem hk)
  · intro h x hx
    obtain ⟨k, hk, rfl⟩ := List.mem_iff_getElem.1 hx
    have := h k hk
    rw [List.getD_eq_getElem?_getD, List.getElem?_eq_getElem hk] at this
    exact this
end Go.Abs
