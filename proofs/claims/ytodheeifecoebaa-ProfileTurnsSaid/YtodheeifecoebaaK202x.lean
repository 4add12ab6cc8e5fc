import Derived.Test.YtodheeifecoebaaK201
import Derived.Test.YtodheeifecoebaaPCmin
import Derived.Test.YtodheeifecoebaaK1x
set_option linter.all false
set_option linter.unusedVariables false
set_option linter.unusedSimpArgs false
set_option linter.unusedSectionVars false
namespace Go.Abs
open Go.Proofs
/-! turned maps in memory; the specification's sums; the greatest common divisor; fractions in lowest terms -/
abbrev tmV (S : Int) (nil : Bool) (rows : List (Bool × List Int)) : AV := .agg [i64 S, .sl nil 1 (rows.map fun r => [ints r.1 r.2])]
def rowN (rows : List (Bool × List Int)) (t : Nat) : Bool × List Int := rows.getD t (true, [])
def V (rows : List (Bool × List Int)) (t i : Nat) : Int := (rowN rows t).2.getD i 0
theorem rws_get {rows : List (Bool × List Int)} {t : Nat} (h : t < rows.length) : (rows.map fun r => [ints r.1 r.2]).getD t [] = [ints (rowN rows t).1 (rowN rows t).2] := by
  simp [rowN, List.getD_eq_getElem?_getD, h]
theorem plain_rws (rows : List (Bool × List Int)) : plainR (rows.map fun r => [ints r.1 r.2]) = true := plainR_map _ (fun r => by simp [plainL]) rows
theorem renR_rws (ρ : Nat → Option Nat) (rows : List (Bool × List Int)) : renR ρ (rows.map fun r => [ints r.1 r.2]) = rows.map fun r => [ints r.1 r.2] := renR_plain ρ _ (plain_rws rows)
theorem plain_tm (S : Int) (nil : Bool) (rows : List (Bool × List Int)) : plainL [tmV S nil rows] = true := by simp only [plainL, plain, plain_rws]; rfl
set_option maxHeartbeats 8000000 in
theorem k104 {S : Int} {nil : Bool} {rows : List (Bool × List Int)} {i : Nat} (hk : rows.length ≤ 12) (hr : ∀ t, t < rows.length → i < (rowN rows t).2.length) (hb : ∀ t, t < rows.length → -100000 ≤ V rows t i ∧ V rows t i ≤ 100000) :
    Fn Try.prog 104 [tmV S nil rows, i64 i] (i64 (rst (V rows) rows.length i)) [] := by
  refine fn_of e104 ?_
  unfold c104
  repeat' (first
    | with_reducible first
      | refine T_seq ?_
      | refine T_reg ?_
      | refine T_skip ?_
      | refine T_exit ?_
      | refine T_block ?_
      | refine T_cond_t rfl ?_
      | refine T_cond_f rfl ?_
      | ((first | refine T_cond rfl (fun hc => ?_) (fun hc => ?_) | refine wguard_split (fun hc => ?_) (fun hc => ?_)) <;> have hd := hc <;> (try simp (disch := omega) only [wrapI] at hd) <;> have hs := hd <;> (try simp only [Bool.not_eq_true', Bool.not_eq_false', Bool.and_eq_true, Bool.and_eq_false_iff, Bool.or_eq_true, Bool.or_eq_false_iff, decide_eq_true_eq, decide_eq_false_iff_not, beq_iff_eq, bne_iff_ne, beq_eq_false_iff_ne, bne_eq_false_iff_eq, Bool.not_true, Bool.not_false, gt_iff_lt, ge_iff_le, Int.not_lt, Int.not_le, ne_eq, Decidable.not_not] at hd) <;> (try simp at hs))
      | refine T_ret ?_
      | refine leave_of (.inr rfl) _ rfl ?_
      | refine leave_of (.inl rfl) _ rfl ?_
      | refine leaveA_of (.inr rfl) _ rfl ?_
      | refine leaveA_of (.inl rfl) _ rfl ?_
      | refine wif_intro ?_ (fun hc => ?_)
      | refine And.intro ?_ ?_
      | intro hc
    | simp (maxSteps := 4000000) only [wops_nil, wops_cons, wstep_none, wrun_mv, wrun_box, wop, aop, ev, look, put_some, writes, ores_some, thenK, AV.parts, isOne, List.map_cons, List.map_nil, List.length_cons, List.length_nil, List.getElem?_cons_zero, List.set_cons_zero, List.nil_append, List.append_nil, List.replicate_zero, List.replicate_succ, List.zipIdx_cons, List.zipIdx_nil, List.all_cons, List.all_nil, if_true, if_false, Nat.reduceAdd, Nat.add_zero, Nat.zero_add, reduceCtorEq, Bool.and_true, eq_self, true_and, and_self, List.all_cons, *]
    | simp (disch := omega) only [getD_ints, wrapI]
    | omega)
  refine T_for [1, 2, 5, 6] (fun t => ⟨[(1, i64 i), (2, .loc 0 0 0), (5, i64 (rst (V rows) t i)), (6, i64 t)], [.cells true false 2 [[i64 S, .sl nil 1 (rows.map fun r => [ints r.1 r.2])]]]⟩) rows.length (fun _ => True) 0 rfl trivial (Nat.zero_le _) ?_
  intro t ht _
  have hl : (rows.map fun r => [ints r.1 r.2]).length = rows.length := by simp
  unfold c104l0
  by_cases hkz : t < rows.length
  · have h1 := rws_get hkz
    have h2 := hr t hkz
    have g1 : ((rowN rows t).2.map fun x => [i64 x]).getD i [] = [i64 (V rows t i)] := getD_ints h2
    have h3 := hb t hkz
    have h4 := rst_bd (V := V rows) (B := 100000) (k := t) (i := i) (fun u hu => hb u (by omega))
    have e : rst (V rows) (t + 1) i = rst (V rows) t i + V rows t i := rfl
    have h5 : -1200000 ≤ rst (V rows) t i ∧ rst (V rows) t i ≤ 1200000 := by omega
    have ew : IntKind.i64.wrap (rst (V rows) t i + V rows t i) = rst (V rows) t i + V rows t i := wrapI (by omega) (by omega)
    rw [e]
    clear hr hb h4 e
    repeat' (first
      | with_reducible first
        | refine T_seq ?_
        | refine T_reg ?_
        | refine T_skip ?_
        | refine T_exit ?_
        | refine T_block ?_
        | refine T_cond_t rfl ?_
        | refine T_cond_f rfl ?_
        | ((first | refine T_cond rfl (fun hc => ?_) (fun hc => ?_) | refine wguard_split (fun hc => ?_) (fun hc => ?_)) <;> have hd := hc <;> (try simp (disch := omega) only [wrapI] at hd) <;> have hs := hd <;> (try simp only [decide_eq_true_eq, decide_eq_false_iff_not, Int.not_lt] at hd) <;> (try simp at hs))
        | refine T_ret ?_
        | refine leave_of (.inr rfl) _ rfl ?_
        | refine leave_of (.inl rfl) _ rfl ?_
        | refine leaveA_of (.inr rfl) _ rfl ?_
        | refine leaveA_of (.inl rfl) _ rfl ?_
        | refine wif_intro ?_ (fun hc => ?_)
        | refine And.intro ?_ ?_
        | intro hc
      | simp (maxSteps := 4000000) only [wops_nil, wops_cons, wstep_none, wrun_mv, wrun_bin, wrun_load, wrun_faddr, wrun_iaddrS, wrun_len, get_mk, wop, aop, ev, look, put_some, writes, ores_some, ores_ite_none, ores_map, ores_bind, binV, thenK, blockK, intV, lenOf, value, cut, hget, mkAgg, tupOf, List.length_cons, List.length_nil, List.getElem?_cons_zero, List.take_succ_cons, List.take_nil, List.drop_succ_cons, List.drop_zero, List.append_nil, List.replicate_zero, List.getD_cons_zero, List.length_map, Option.pure_def, Option.bind_eq_bind, Option.getD_some, Option.map_some, if_true, if_false, Nat.reduceEqDiff, Nat.zero_add, reduceCtorEq, Bool.false_eq_true, eq_self, true_and, and_true, and_self, decide_true, ren, Int.toNat_natCast, *]
      | simp (disch := omega) only [wrapI]
      | omega)
    all_goals first | (simp [St.only, get_mk, look]; done)
  · have hke : t = rows.length := by omega
    subst hke
    clear hr hb
    repeat' (first
      | with_reducible first
        | refine T_seq ?_
        | refine T_reg ?_
        | refine T_skip ?_
        | refine T_exit ?_
        | refine T_block ?_
        | refine T_cond_t rfl ?_
        | refine T_cond_f rfl ?_
        | ((first | refine T_cond rfl (fun hc => ?_) (fun hc => ?_) | refine wguard_split (fun hc => ?_) (fun hc => ?_)) <;> have hd := hc <;> (try simp (disch := omega) only [wrapI] at hd) <;> have hs := hd <;> (try simp only [decide_eq_true_eq, decide_eq_false_iff_not, Int.not_lt] at hd) <;> (try simp at hs))
        | refine T_ret ?_
        | refine leave_of (.inr rfl) _ rfl ?_
        | refine leave_of (.inl rfl) _ rfl ?_
        | refine leaveA_of (.inr rfl) _ rfl ?_
        | refine leaveA_of (.inl rfl) _ rfl ?_
        | refine wif_intro ?_ (fun hc => ?_)
        | refine And.intro ?_ ?_
        | intro hc
      | simp (maxSteps := 4000000) only [wops_nil, wops_cons, wstep_none, wrun_mv, wrun_bin, wrun_load, wrun_faddr, wrun_len, get_mk, wop, aop, ev, look, put_some, writes, ores_some, ores_map, ores_bind, binV, thenK, blockK, intV, lenOf, value, cut, hget, mkAgg, tupOf, List.length_cons, List.length_nil, List.getElem?_cons_zero, List.take_succ_cons, List.take_nil, List.drop_succ_cons, List.drop_zero, List.append_nil, List.replicate_zero, List.getD_cons_zero, Option.pure_def, Option.bind_eq_bind, Option.getD_some, Option.map_some, if_true, if_false, Nat.reduceEqDiff, Nat.zero_add, reduceCtorEq, Bool.false_eq_true, eq_self, and_true, false_and, ren, *]
      | simp (disch := omega) only [getD_ints, wrapI]
      | omega)
    all_goals first | (simp [St.only, get_mk, look]; done)
set_option maxHeartbeats 8000000 in
theorem k103 {S : Int} {nil : Bool} {rows : List (Bool × List Int)} {n s j : Nat} (hS : S = n) (hk : 1 ≤ rows.length ∧ rows.length ≤ 12) (hn : rows.length * s = n) (hn2 : 1 ≤ n ∧ n ≤ 24) (hj : j < n)
    (hr : ∀ t, t < rows.length → (rowN rows t).2.length = n) (hb : ∀ t i, t < rows.length → i < n → -100000 ≤ V rows t i ∧ V rows t i ≤ 100000) :
    Fn Try.prog 103 [tmV S nil rows, i64 j] (i64 (mir (V rows) rows.length s n j)) [] := by
  refine fn_of e103 ?_
  subst hS
  have hq : ((n : Nat) : Int).tdiv ((rows.length : Nat) : Int) = (s : Nat) := by
    rw [← hn, Int.natCast_mul]; exact Int.mul_tdiv_cancel_left _ (by omega)
  have hl : (rows.map fun r => [ints r.1 r.2]).length = rows.length := by simp
  have hs : s ≤ 24 := by
    rcases Nat.lt_or_ge 24 s with h | h
    · have := Nat.mul_le_mul hk.1 (Nat.succ_le_of_lt h); omega
    · exact h
  have ew : IntKind.i64.wrap ((s : Nat) : Int) = (s : Nat) := wrapI (by omega) (by omega)
  unfold c103
  repeat' (first
    | ((with_reducible refine T_calm ?_ ?_); rfl)
    | with_reducible first
      | refine T_seq ?_
      | refine T_reg ?_
      | refine T_draw ?_
      | refine T_skip ?_
      | refine T_exit ?_
      | refine T_block ?_
      | refine T_cond_t rfl ?_
      | refine T_cond_f rfl ?_
      | refine wdW_cons rfl ?_
      | ((first | refine T_cond rfl (fun hc => ?_) (fun hc => ?_) | refine wguard_split (fun hc => ?_) (fun hc => ?_) | refine wguardX_split (fun hc => ?_) (fun hc => ?_)) <;> have hd := hc <;> (try simp (disch := omega) only [wrapI] at hd) <;> have hs := hd <;> (try simp only [Bool.not_eq_true', Bool.not_eq_false', Bool.and_eq_true, Bool.and_eq_false_iff, Bool.or_eq_true, Bool.or_eq_false_iff, decide_eq_true_eq, decide_eq_false_iff_not, beq_iff_eq, bne_iff_ne, beq_eq_false_iff_ne, bne_eq_false_iff_eq, Bool.not_true, Bool.not_false, gt_iff_lt, ge_iff_le, Int.not_lt, Int.not_le, ne_eq, Decidable.not_not] at hd) <;> (try simp at hs))
      | refine T_ret ?_
      | refine leave_of (.inr rfl) _ rfl ?_
      | refine leave_of (.inl rfl) _ rfl ?_
      | refine leaveA_of (.inr rfl) _ rfl ?_
      | refine leaveA_of (.inl rfl) _ rfl ?_
      | refine wif_intro ?_ (fun hc => ?_)
      | refine And.intro ?_ ?_
      | intro hc
    | simp (maxSteps := 4000000) only [wops_nil, wops_cons, wstep_none, wrun_mv, wrun_bin, wrun_load, wrun_faddr, wrun_len, wrun_box, wop, aop, ev, look, put_some, writes, ores_some, ores_none_ite, ores_map, ores_bind, binV, thenK, intV, lenOf, value, cut, hget, AV.parts, isOne, mkAgg, List.map_cons, List.map_nil, List.length_cons, List.length_nil, List.getElem?_cons_zero, List.set_cons_zero, List.take_succ_cons, List.take_zero, List.take_nil, List.drop_succ_cons, List.drop_zero, List.nil_append, List.append_nil, List.replicate_zero, List.replicate_succ, List.getD_cons_zero, List.zipIdx_cons, List.zipIdx_nil, List.all_cons, List.all_nil, Option.pure_def, Option.bind_eq_bind, Option.getD_some, Option.map_some, if_true, if_false, Nat.reduceEqDiff, Nat.reduceAdd, Nat.add_zero, Nat.zero_add, reduceCtorEq, Bool.and_true, Bool.false_eq_true, eq_self, true_and, and_self, List.all_cons, *]
    | simp (disch := omega) only [getD_ints, wrapI]
    | omega)
  refine T_for [1, 2, 5, 6, 7, 8] (fun t => ⟨[(1, i64 j), (2, .loc 0 0 0), (5, i64 rows.length), (6, i64 s), (7, i64 (mirp (V rows) rows.length s n t j)), (8, i64 t)], [.cells true false 2 [[i64 n, .sl nil 1 (rows.map fun r => [ints r.1 r.2])]]]⟩) rows.length (fun _ => True) 0 rfl trivial (Nat.zero_le _) ?_
  intro t ht _
  unfold c103l0
  by_cases hkz : t < rows.length
  · have hat : (j + t * s) % n < n := Nat.mod_lt _ (by omega)
    have e : mirp (V rows) rows.length s n (t + 1) j = mirp (V rows) rows.length s n t j + ((rows.length : Int) * V rows t ((j + t * s) % n) - rst (V rows) rows.length ((j + t * s) % n)) := rfl
    have hts : t * s ≤ 24 := by
      have := Nat.mul_le_mul_right s (Nat.le_of_lt hkz); omega
    have er : ((j : Int) + ((t * s : Nat) : Int)).tmod (n : Int) = (((j + t * s) % n : Nat) : Int) := by
      rw [← Int.natCast_add]; exact (Int.ofNat_tmod _ _).symm
    have ets : (t : Int) * (s : Int) = ((t * s : Nat) : Int) := by rw [Int.natCast_mul]
    have hm := mirp_bd (V := V rows) (k := rows.length) (s := s) (n := n) (j := j) (u := t) (by omega) hk.2 (by omega) hb
    have h104 := k104 (S := (n : Int)) (nil := nil) (i := (j + t * s) % n) hk.2 (fun u hu => by rw [hr u hu]; exact hat) (fun u hu => hb u _ hu hat)
    have h1 := rws_get hkz
    have h2 := hr t hkz
    have h3 := hb t _ hkz hat
    have g1 : ((rowN rows t).2.map fun x => [i64 x]).getD ((j + t * s) % n) [] = [i64 (V rows t ((j + t * s) % n))] := getD_ints (by omega)
    have h4 := rst_bd (V := V rows) (B := 100000) (k := rows.length) (i := (j + t * s) % n) (fun u hu => hb u _ hu hat)
    rw [e]
    generalize rst (V rows) rows.length ((j + t * s) % n) = R at *
    generalize V rows t ((j + t * s) % n) = v at *
    have h6 : -1200000 ≤ (rows.length : Int) * v ∧ (rows.length : Int) * v ≤ 1200000 := by
      obtain ⟨a, b⟩ := h3
      have hk0 : (0 : Int) ≤ (rows.length : Int) := by omega
      have e1 : (rows.length : Int) * v ≤ (rows.length : Int) * 100000 := Int.mul_le_mul_of_nonneg_left b hk0
      have e2 : (rows.length : Int) * (-100000) ≤ (rows.length : Int) * v := Int.mul_le_mul_of_nonneg_left a hk0
      omega
    generalize (j + t * s) % n = at' at *
    generalize mirp (V rows) rows.length s n t j = m at *
    have h5 : -1200000 ≤ R ∧ R ≤ 1200000 := by omega
    have ea : m + ((rows.length : Int) * v - R) = m + (rows.length : Int) * v - R := by omega
    rw [ea]
    have eh1 : (rowN rows t).2.length = n := h2
    have ew1 : IntKind.i64.wrap ((rows.length : Int) * v) = (rows.length : Int) * v := wrapI (by omega) (by omega)
    have ew2 : IntKind.i64.wrap (m + (rows.length : Int) * v) = m + (rows.length : Int) * v := wrapI (by omega) (by omega)
    have ew3 : IntKind.i64.wrap (m + (rows.length : Int) * v - R) = m + (rows.length : Int) * v - R := wrapI (by omega) (by omega)
    have ew4 : IntKind.i64.wrap ((t * s : Nat) : Int) = ((t * s : Nat) : Int) := wrapI (by omega) (by omega)
    have ew5 : IntKind.i64.wrap ((j : Int) + ((t * s : Nat) : Int)) = (j : Int) + ((t * s : Nat) : Int) := wrapI (by omega) (by omega)
    clear hr hb h4 e ea
    replace h104 := And.intro h104 trivial
    repeat' (first
      | ((with_reducible refine T_calm ?_ ?_); rfl)
      | with_reducible first
        | refine T_seq ?_
        | refine T_reg ?_
        | refine T_draw ?_
        | refine T_skip ?_
        | refine T_exit ?_
        | refine T_block ?_
        | refine T_cond_t rfl ?_
        | refine T_cond_f rfl ?_
        | refine wdW_cons rfl ?_
        | (show wcall _ false (.lit (.func (.func 104) _ _)) _ _ _ _; refine wcall_fn (h104.1) rfl (by simp [plainL, plain, plainR, Int.toNat_natCast, renR_rws, plain_rws]) ?_)
        | (show wcallX _ false (.lit (.func (.func 104) _ _)) _ _ _ _; refine wcallX_fn (h104.1) rfl (by simp [plainL, plain, plain_rws]) ?_)
        | ((first | refine T_cond rfl (fun hc => ?_) (fun hc => ?_) | refine wguard_split (fun hc => ?_) (fun hc => ?_) | refine wguardX_split (fun hc => ?_) (fun hc => ?_)) <;> have hd := hc <;> (try simp (disch := omega) only [wrapI] at hd) <;> have hs := hd <;> (try simp only [decide_eq_true_eq, decide_eq_false_iff_not, Int.not_lt] at hd) <;> (try simp at hs))
        | refine T_ret ?_
        | refine leave_of (.inr rfl) _ rfl ?_
        | refine leave_of (.inl rfl) _ rfl ?_
        | refine leaveA_of (.inr rfl) _ rfl ?_
        | refine leaveA_of (.inl rfl) _ rfl ?_
        | refine wif_intro ?_ (fun hc => ?_)
        | refine And.intro ?_ ?_
        | intro hc
      | simp (maxSteps := 4000000) only [wops_nil, wops_cons, wstep_none, wrun_mv, wrun_bin, wrun_load, wrun_faddr, wrun_iaddrS, wrunX_mv, wrunX_bin, wrunX_load, wrunX_faddr, wrunX_iaddrS, wdW_nil, wstepX_none, wrunX_call, get_mk, wop, aop, ev, look, put_some, writes, ores_some, ores_ite_none, ores_none_ite, ores_map, binV, thenK, blockK, value, cut, hget, toLits, mkAgg, tupOf, List.map_cons, List.map_nil, List.length_cons, List.length_nil, List.getElem?_cons_zero, List.take_succ_cons, List.take_zero, List.take_nil, List.drop_succ_cons, List.drop_zero, List.append_nil, List.replicate_zero, List.getD_cons_zero, List.length_map, Option.getD_some, Option.map_some, Option.map_none, if_true, if_false, Nat.reduceEqDiff, Nat.reduceAdd, Nat.add_zero, Nat.zero_add, reduceCtorEq, Bool.false_eq_true, eq_self, true_and, and_true, and_self, decide_true, freeze, lidsL, lids, List.flatMap_cons, List.flatMap_nil, ren, Int.toNat_natCast, *]
      | simp (disch := omega) only [wrapI]
      | (with_reducible show wcall _ false (.lit (.func (.func 104) _ _)) _ _ _ _; refine wcall_fn (h104.1) ?_ ?_ ?_; (next => simp [rfyL, rfy, hget, ints, take_rfy, Int.toNat_natCast, renR_rws, plain_rws]); (next => simp [plainL, plain, plainR, Int.toNat_natCast, renR_rws, plain_rws]))
      | (with_reducible show wcallX _ false (.lit (.func (.func 104) _ _)) _ _ _ _; refine wcallX_fn (h104.1) ?_ ?_ ?_; (next => simp [rfyL, rfy, hget, ints, take_rfy, Int.toNat_natCast, renR_rws, plain_rws]); (next => simp [plainL, plain, plainR, Int.toNat_natCast, renR_rws, plain_rws]))
      | omega)
    all_goals first | (simp [St.only, get_mk, look]; done)
  · have hke : t = rows.length := by omega
    subst hke
    clear hr hb
    unfold mir
    repeat' (first
      | ((with_reducible refine T_calm ?_ ?_); rfl)
      | with_reducible first
        | refine T_seq ?_
        | refine T_reg ?_
        | refine T_draw ?_
        | refine T_skip ?_
        | refine T_exit ?_
        | refine T_block ?_
        | refine T_cond_t rfl ?_
        | refine T_cond_f rfl ?_
        | refine wdW_cons rfl ?_
        | ((first | refine T_cond rfl (fun hc => ?_) (fun hc => ?_) | refine wguard_split (fun hc => ?_) (fun hc => ?_) | refine wguardX_split (fun hc => ?_) (fun hc => ?_)) <;> have hd := hc <;> (try simp (disch := omega) only [wrapI] at hd) <;> have hs := hd <;> (try simp only [decide_eq_true_eq, decide_eq_false_iff_not, Int.not_lt] at hd) <;> (try simp at hs))
        | refine T_ret ?_
        | refine leave_of (.inr rfl) _ rfl ?_
        | refine leave_of (.inl rfl) _ rfl ?_
        | refine leaveA_of (.inr rfl) _ rfl ?_
        | refine leaveA_of (.inl rfl) _ rfl ?_
        | refine wif_intro ?_ (fun hc => ?_)
        | refine And.intro ?_ ?_
        | intro hc
      | simp (maxSteps := 4000000) only [wops_nil, wops_cons, wstep_none, wrun_mv, wrun_bin, get_mk, wop, aop, ev, look, put_some, writes, ores_some, binV, thenK, blockK, tupOf, List.length_cons, List.length_nil, List.append_nil, List.replicate_zero, Option.map_some, if_true, if_false, Nat.reduceEqDiff, Nat.zero_add, reduceCtorEq, eq_self, and_true, false_and, ren, *]
      | simp (disch := omega) only [getD_ints, wrapI]
      | omega)
    all_goals first | (simp [St.only, get_mk, look]; done)
end Go.Abs
