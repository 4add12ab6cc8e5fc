import Derived.Test.YtdedhipkncagjaaK302x
import Derived.Test.YtdedhipkncagjaaK504x
import Derived.Test.YtdedhipkncagjaaK801x
set_option linter.all false
set_option linter.unusedVariables false
set_option linter.unusedSimpArgs false
set_option linter.unusedSectionVars false
namespace Go.Abs
open Go.Proofs
/-! the readings of a measured mirror -/
abbrev mV (hn pn en : Bool) (xs : List Int) (ps es : List (Int × Int)) : AV := .agg [ints hn xs, .sl pn 2 (rgR ps), .sl en 2 (rgR es)]
abbrev mB (o hn pn en : Bool) (xs : List Int) (ps es : List (Int × Int)) : Blk := .cells o false 3 [[ints hn xs, .sl pn 2 (rgR ps), .sl en 2 (rgR es)]]
def gH (n : Int) : Prop := -100000 ≤ n ∧ n ≤ 100000
def gP (n : Int) (p e : Int × Int) : Prop := ((0 ≤ p.1 ∧ p.1 ≤ n - 1) ∧ (0 ≤ p.2 ∧ p.2 ≤ n - 1)) ∧ p.1 ≠ p.2 ∧ (0 ≤ e.1 ∧ e.1 ≤ 100000) ∧ (0 ≤ e.2 ∧ e.2 ≤ 100000)
def rdOf (xs : List Int) (p e : Int × Int) : Rd := ⟨p.1, p.2, xs.getD p.2.toNat 0 - xs.getD p.1.toNat 0 - e.1, xs.getD p.2.toNat 0 - xs.getD p.1.toNat 0 + e.2⟩
def rdM (xs : List Int) (ps es : List (Int × Int)) : Nat → List Rd
  | 0 => []
  | k + 1 => rdM xs ps es k ++ [rdOf xs (ps.getD k (0, 0)) (es.getD k (0, 0))]
theorem rdM_len (xs : List Int) (ps es : List (Int × Int)) : ∀ k, (rdM xs ps es k).length = k
  | 0 => rfl
  | k + 1 => by unfold rdM; simp [rdM_len xs ps es k]
/-- what readings accepts -/
structure MOk (xs : List Int) (ps es : List (Int × Int)) : Prop where
  n : 1 ≤ xs.length ∧ xs.length ≤ 8
  p : ps.length ≤ 12
  e : es.length = ps.length
  h : ∀ k, k < xs.length → gH (xs.getD k 0)
  g : ∀ k, k < ps.length → gP xs.length (ps.getD k (0, 0)) (es.getD k (0, 0))
def reV (id : Nat) (l : List Rd) : AV := if l = [] then .sl true 0 [] else .lsl id 0 l.length
def reB (l : List Rd) : List Blk := if l = [] then [] else [.cells true false 4 (rows4 l)]
abbrev S6a (hn pn en : Bool) (xs : List Int) (ps es : List (Int × Int)) (k : Nat) : St := ⟨[(1, i64 1), (2, .loc 0 0 0), (6, i64 xs.length), (7, i64 k)], [mB true hn pn en xs ps es]⟩
def S6b (hn pn en : Bool) (xs : List Int) (ps es : List (Int × Int)) (k : Nat) : St := ⟨[(1, i64 1), (2, .loc 0 0 0), (6, i64 xs.length), (8, reV 1 (rdM xs ps es k)), (9, i64 k)], mB true hn pn en xs ps es :: reB (rdM xs ps es k)⟩
theorem rows4_app (a b : List Rd) : rows4 (a ++ b) = rows4 a ++ rows4 b := by simp [rows4]
theorem rows4_one (r : Rd) : rows4 [r] = [rrow r] := rfl
set_option maxHeartbeats 8000000 in
theorem k6h {hn pn en : Bool} {xs : List Int} {ps es : List (Int × Int)} (hl : xs.length ≤ 8) {k : Nat} (hk : k < xs.length) (hg : gH (xs.getD k 0)) (K : Exit → St → Prop) (hK : ∀ τ : St, τ.only [1, 2, 6, 7] = S6a hn pn en xs ps es (k + 1) → K .normal τ) {q bb : Nat} : T none Try.prog muts q bb c6l0 (S6a hn pn en xs ps es k) K := by
  have h10 := k10 (xs.getD k 0) (-100000) 100000
  have d1 : decide (-100000 ≤ xs.getD k 0) = true := decide_eq_true hg.1
  have d2 : decide (xs.getD k 0 ≤ 100000) = true := decide_eq_true hg.2
  rw [d1, d2, Bool.and_true] at h10
  have g1 : (xs.map fun x => [i64 x]).getD k [] = [i64 (xs.getD k 0)] := getD_ints hk
  have hlh := (by simp : (xs.map fun x => [i64 x]).length = xs.length)
  have hkn : (k : Int) < (xs.length : Int) := by omega
  have f := PLift.up hK
  clear d1 d2 hg hK
  generalize xs.getD k 0 = v at *
  unfold c6l0
  repeat' (first | ((with_reducible refine T_calm ?_ ?_); rfl) | (with_reducible first | refine T_seq ?_ | refine T_reg ?_ | refine T_draw ?_ | refine T_skip ?_ | refine T_exit ?_ | refine T_block ?_ | refine T_cond_t rfl ?_ | refine T_cond_f rfl ?_ | refine wdW_cons rfl ?_ | (show wcall _ false (.lit (.func (.func 10) _ _)) _ _ _ _; refine wcall_fn (h10) rfl (by simp [plainL, plain]) ?_) | (show wcallX _ false (.lit (.func (.func 10) _ _)) _ _ _ _; refine wcallX_fn (h10) rfl (by simp [plainL, plain, plainR, Int.toNat_natCast]) ?_) | refine T_ret ?_ | refine wif_intro ?_ (fun hc => ?_) | refine And.intro ?_ ?_ | intro hc) | simp (maxSteps := 4000000) only [wops_nil, wops_cons, wstep_none, wrun_call, wrun_mv, wrun_bin, wrun_not, wrun_load, wrun_faddr, wrun_iaddrS, wop, aop, ev, look, put_some, writes, ores_some, ores_ite_none, binV, thenK, blockK, boolV, value, cut, hget, mkAgg, List.map_cons, List.map_nil, List.length_cons, List.length_nil, List.getElem?_cons_zero, List.take_succ_cons, List.take_zero, List.take_nil, List.drop_zero, List.append_nil, List.replicate_zero, List.getD_cons_zero, Option.getD_some, Option.map_some, if_true, if_false, Nat.reduceEqDiff, Nat.add_zero, Nat.zero_add, reduceCtorEq, Bool.not_true, Bool.false_eq_true, eq_self, and_true, and_self, decide_true, Int.reduceNeg, freeze, lidsL, lids, List.flatMap_cons, List.flatMap_nil, ren, Int.toNat_natCast, *] | simp (disch := omega) only [wrapI] | (with_reducible show wcall _ false (.lit (.func (.func 10) _ _)) _ _ _ _; refine wcall_fn (h10) ?_ ?_ ?_; (next => simp [rfyL, rfy, hget, ints, take_rfy, Int.toNat_natCast]); (next => simp [plainL, plain, plainR, Int.toNat_natCast])) | (with_reducible show wcallX _ false (.lit (.func (.func 10) _ _)) _ _ _ _; refine wcallX_fn (h10) ?_ ?_ ?_; (next => simp [rfyL, rfy, hget, ints, take_rfy, Int.toNat_natCast]); (next => simp [plainL, plain, plainR, Int.toNat_natCast])) | omega)
  all_goals first | exact f.down _ (by simp [St.only, get_mk, look, S6a])
set_option maxHeartbeats 8000000 in
theorem k6hb {hn pn en : Bool} {xs : List Int} {ps es : List (Int × Int)} (hl : xs.length ≤ 8) {k : Nat} (hk : k < xs.length) (hg : ¬ gH (xs.getD k 0)) (K : Exit → St → Prop) (hK : ∀ τ : St, τ.get 4 = .sl true 0 [] → τ.get 5 = bl false → K .ret τ) {q bb : Nat} : T none Try.prog muts q bb c6l0 (S6a hn pn en xs ps es k) K := by
  have h10 := k10 (xs.getD k 0) (-100000) 100000
  have d1 : (decide (-100000 ≤ xs.getD k 0) && decide (xs.getD k 0 ≤ 100000)) = false := by
    unfold gH at hg
    simpa using hg
  rw [d1] at h10
  have g1 : (xs.map fun x => [i64 x]).getD k [] = [i64 (xs.getD k 0)] := getD_ints hk
  have hlh := (by simp : (xs.map fun x => [i64 x]).length = xs.length)
  have hkn : (k : Int) < (xs.length : Int) := by omega
  have f := PLift.up hK
  clear d1 hg hK
  generalize xs.getD k 0 = v at *
  unfold c6l0
  repeat' (first | ((with_reducible refine T_calm ?_ ?_); rfl) | (with_reducible first | refine T_seq ?_ | refine T_reg ?_ | refine T_draw ?_ | refine T_skip ?_ | refine T_exit ?_ | refine T_block ?_ | refine T_cond_t rfl ?_ | refine T_cond_f rfl ?_ | refine wdW_cons rfl ?_ | (show wcall _ false (.lit (.func (.func 10) _ _)) _ _ _ _; refine wcall_fn (h10) rfl (by simp [plainL, plain]) ?_) | (show wcallX _ false (.lit (.func (.func 10) _ _)) _ _ _ _; refine wcallX_fn (h10) rfl (by simp [plainL, plain, plainR, Int.toNat_natCast]) ?_) | refine T_ret ?_ | refine wif_intro ?_ (fun hc => ?_) | refine And.intro ?_ ?_ | intro hc) | simp (maxSteps := 4000000) only [wops_nil, wops_cons, wstep_none, wrun_call, wrun_mv, wrun_bin, wrun_not, wrun_load, wrun_faddr, wrun_iaddrS, wop, aop, ev, look, put_some, writes, ores_some, ores_ite_none, binV, thenK, blockK, boolV, value, cut, hget, mkAgg, List.map_cons, List.map_nil, List.length_cons, List.length_nil, List.getElem?_cons_zero, List.take_succ_cons, List.take_zero, List.take_nil, List.drop_zero, List.append_nil, List.replicate_zero, List.getD_cons_zero, Option.getD_some, Option.map_some, if_true, if_false, Nat.reduceEqDiff, Nat.add_zero, Nat.zero_add, reduceCtorEq, Bool.not_false, Bool.false_eq_true, eq_self, and_true, and_self, decide_true, Int.reduceNeg, freeze, lidsL, lids, List.flatMap_cons, List.flatMap_nil, ren, Int.toNat_natCast, *] | simp (disch := omega) only [getD_ints, wrapI] | (with_reducible show wcall _ false (.lit (.func (.func 10) _ _)) _ _ _ _; refine wcall_fn (h10) ?_ ?_ ?_; (next => simp [rfyL, rfy, hget, ints, take_rfy, Int.toNat_natCast]); (next => simp [plainL, plain, plainR, Int.toNat_natCast])) | (with_reducible show wcallX _ false (.lit (.func (.func 10) _ _)) _ _ _ _; refine wcallX_fn (h10) ?_ ?_ ?_; (next => simp [rfyL, rfy, hget, ints, take_rfy, Int.toNat_natCast]); (next => simp [plainL, plain, plainR, Int.toNat_natCast])) | omega)
  all_goals first | exact f.down _ rfl rfl
end Go.Abs
