import Derived.Test.YtodheeifecoebaaK222x
set_option linter.all false
set_option linter.unusedVariables false
set_option linter.unusedSimpArgs false
set_option linter.unusedSectionVars false
namespace Go.Abs
open Go.Proofs
section
variable {n s : Nat} {nil : Bool} {rows : List (Bool × List Int)}
set_option maxHeartbeats 8000000 in
theorem k22l1 (h : TmOk n s rows) (K : Exit → St → Prop) (t : Nat) (ht : t < rows.length) :
    T none Try.prog muts 85 0 c22l1 (S22o n s nil rows t) (thenK (fun s' => (t < rows.length ∧ True) ∧ s'.only [1, 2, 5, 6, 7, 8, 9, 32, 33, 34] = S22o n s nil rows (t + 1)) K) := by
  have h1 := rws_get ht
  have hlr : (rows.map fun r => [ints r.1 r.2]).length = rows.length := by simp
  have h2 := h.hr t ht
  have hl0 := fun K i hi => k22l0 (nil := nil) h K t ht i hi
  have hmo := mxO_bd (f := mf (V rows) rows.length s n) (n := n) (B := 100000000) (by omega) t fun u j hu hj => mf_bd h (by omega) hj
  have e : mxO (mf (V rows) rows.length s n) n (t + 1) = mxI (mf (V rows) rows.length s n t) (mxO (mf (V rows) rows.length s n) n t) n := rfl
  have e0 : mxI (mf (V rows) rows.length s n t) (mxO (mf (V rows) rows.length s n) n t) 0 = mxO (mf (V rows) rows.length s n) n t := rfl
  have hk := h.hk
  replace hl0 := And.intro hl0 trivial
  clear h
  unfold c22l1 S22o
  repeat' (first
    | ((with_reducible refine T_calm ?_ ?_); rfl)
    | with_reducible first
      | refine T_seq ?_
      | refine T_reg ?_
      | refine T_draw ?_
      | refine T_skip ?_
      | refine T_exit ?_
      | refine T_block ?_
      | refine T_cond_t rfl ?_
      | refine T_cond_f rfl ?_
      | refine wdW_cons rfl ?_
      | ((first | refine T_cond rfl (fun hc => ?_) (fun hc => ?_) | refine wguard_split (fun hc => ?_) (fun hc => ?_) | refine wguardX_split (fun hc => ?_) (fun hc => ?_)) <;> have hd := hc <;> (try simp (disch := omega) only [wrapI] at hd) <;> have hs := hd <;> (try simp only [decide_eq_true_eq, decide_eq_false_iff_not, Int.not_lt] at hd) <;> (try simp at hs))
      | refine T_ret ?_
      | refine leave_of (.inr rfl) _ rfl ?_
      | refine leave_of (.inl rfl) _ rfl ?_
      | refine leaveA_of (.inr rfl) _ rfl ?_
      | refine leaveA_of (.inl rfl) _ rfl ?_
      | refine wif_intro ?_ (fun hc => ?_)
      | refine And.intro ?_ ?_
      | intro hc
    | simp (maxSteps := 4000000) only [wops_nil, wops_cons, wstep_none, wrun_mv, wrun_bin, wrun_load, wrun_iaddrS, wrun_len, wop, aop, ev, look, put_some, writes, ores_some, ores_ite_none, ores_map, ores_bind, binV, thenK, intV, lenOf, value, cut, hget, mkAgg, List.length_cons, List.length_nil, List.take_succ_cons, List.take_nil, List.drop_zero, List.append_nil, List.replicate_zero, List.length_map, Option.pure_def, Option.bind_eq_bind, Option.map_some, if_true, if_false, Nat.reduceEqDiff, Nat.reduceAdd, Nat.zero_add, reduceCtorEq, Bool.false_eq_true, eq_self, true_and, and_true, and_self, decide_true, Int.toNat_natCast, *]
    | simp (disch := omega) only [getD_ints, wrapI]
    | omega)
  refine T_for [1, 2, 5, 6, 7, 8, 9, 10, 32, 33, 34, 39, 40, 41] (S22i n s nil rows t) n (fun _ => True) 0 ?_ trivial (Nat.zero_le _) ?_
  · unfold S22i; rw [e0]; simp [St.only, get_mk, look]
  intro i hi _
  by_cases hin : i < n
  · exact hl0.1 _ i hin
  · have hie : i = n := by omega
    subst hie
    clear hl0
    unfold c22l0 S22i
    rw [← e]
    repeat' (first
      | ((with_reducible refine T_calm ?_ ?_); rfl)
      | with_reducible first
        | refine T_seq ?_
        | refine T_reg ?_
        | refine T_draw ?_
        | refine T_skip ?_
        | refine T_exit ?_
        | refine T_block ?_
        | refine T_cond_t rfl ?_
        | refine T_cond_f rfl ?_
        | refine wdW_cons rfl ?_
        | ((first | refine T_cond rfl (fun hc => ?_) (fun hc => ?_) | refine wguard_split (fun hc => ?_) (fun hc => ?_) | refine wguardX_split (fun hc => ?_) (fun hc => ?_)) <;> have hd := hc <;> (try simp (disch := omega) only [wrapI] at hd) <;> have hs := hd <;> (try simp only [decide_eq_true_eq, decide_eq_false_iff_not, Int.not_lt] at hd) <;> (try simp at hs))
        | refine T_ret ?_
        | refine leave_of (.inr rfl) _ rfl ?_
        | refine leave_of (.inl rfl) _ rfl ?_
        | refine leaveA_of (.inr rfl) _ rfl ?_
        | refine leaveA_of (.inl rfl) _ rfl ?_
        | refine wif_intro ?_ (fun hc => ?_)
        | refine And.intro ?_ ?_
        | intro hc
      | simp (maxSteps := 4000000) only [wops_nil, wops_cons, wstep_none, wrun_mv, wrun_bin, wop, aop, ev, look, put_some, writes, ores_some, binV, thenK, blockK, List.length_cons, List.length_nil, List.append_nil, List.replicate_zero, Option.map_some, if_true, if_false, Nat.reduceEqDiff, Nat.reduceAdd, Nat.zero_add, reduceCtorEq, eq_self, and_true, false_and, Int.toNat_natCast, *]
      | simp (disch := omega) only [wrapI]
      | omega)
    all_goals first | (simp [St.only, get_mk, look]; done)
set_option maxHeartbeats 8000000 in
theorem k22 (h : TmOk n s rows) (h0 : checkT n rows = 0) : Fn Try.prog 22 [tmV n nil rows] (.tup [frV (lowD (mxO (mf (V rows) rows.length s n) n rows.length) (rows.length * rows.length)), i64 0]) [] := by
  refine fn_of e22 ?_
  have hl0 := fun K t ht => k22l1 (nil := nil) h K t ht
  have hmo := mxO_bd (f := mf (V rows) rows.length s n) (n := n) (B := 100000000) (by omega) rows.length fun u j hu hj => mf_bd h (by omega) hj
  obtain ⟨hk, hn, hn2, hr, hb⟩ := h
  have h37 := k37 (S := (n : Int)) (nil := nil) (rows := rows) (by omega) (fun t ht => by rw [hr t ht]; omega)
  rw [h0] at h37
  have h86 := k86 (nil := nil) hk hn hn2 hr hb
  have hkk : 1 ≤ (rows.length : Int) * (rows.length : Int) ∧ (rows.length : Int) * (rows.length : Int) ≤ 144 := by
    have h1 := Nat.mul_le_mul hk.1 hk.1
    have h2 := Nat.mul_le_mul hk.2 hk.2
    rw [← Int.natCast_mul]; omega
  have ew : IntKind.i64.wrap ((rows.length : Int) * (rows.length : Int)) = (rows.length : Int) * (rows.length : Int) := wrapI (by omega) (by omega)
  have hlr : (rows.map fun r => [ints r.1 r.2]).length = rows.length := by simp
  have h88 := k88 (mxO (mf (V rows) rows.length s n) n rows.length) (rows.length * rows.length) (by omega) (by omega)
  have e0 : mxO (mf (V rows) rows.length s n) n 0 = 0 := rfl
  clear hr hb h0 hmo
  replace h37 := And.intro h37 trivial
  replace h86 := And.intro h86 trivial
  replace hl0 := And.intro hl0 trivial
  generalize hq : lowD (mxO (mf (V rows) rows.length s n) n rows.length) (rows.length * rows.length) = q at *
  unfold c22
  repeat' (first
    | ((with_reducible refine T_calm ?_ ?_); rfl)
    | with_reducible first
      | refine T_seq ?_
      | refine T_reg ?_
      | refine T_draw ?_
      | refine T_skip ?_
      | refine T_exit ?_
      | refine T_block ?_
      | refine T_cond_t rfl ?_
      | refine T_cond_f rfl ?_
      | refine wdW_cons rfl ?_
      | (show wcall _ false (.lit (.func (.func 37) _ _)) _ _ _ _; refine wcall_fn (h37.1) rfl (by simp [plainL, plain, plain_rws]) ?_)
      | (show wcallX _ false (.lit (.func (.func 37) _ _)) _ _ _ _; refine wcallX_fn (h37.1) rfl (by simp [plainL, plain, plainR, renR_rws, plain_rws, renR_ints]) ?_)
      | (show wcall _ false (.lit (.func (.func 86) _ _)) _ _ _ _; refine wcall_fn (h86.1) rfl (by simp [plainL, plain, plain_rws]) ?_)
      | (show wcallX _ false (.lit (.func (.func 86) _ _)) _ _ _ _; refine wcallX_fn (h86.1) rfl (by simp [plainL, plain, plainR, renR_rws, plain_rws, renR_ints]) ?_)
      | ((first | refine T_cond rfl (fun hc => ?_) (fun hc => ?_) | refine wguard_split (fun hc => ?_) (fun hc => ?_) | refine wguardX_split (fun hc => ?_) (fun hc => ?_)) <;> have hd := hc <;> (try simp (disch := omega) only [wrapI] at hd) <;> have hs := hd <;> (try simp only [Bool.not_eq_true', Bool.not_eq_false', Bool.and_eq_true, Bool.and_eq_false_iff, Bool.or_eq_true, Bool.or_eq_false_iff, decide_eq_true_eq, decide_eq_false_iff_not, beq_iff_eq, bne_iff_ne, beq_eq_false_iff_ne, bne_eq_false_iff_eq, Bool.not_true, Bool.not_false, gt_iff_lt, ge_iff_le, Int.not_lt, Int.not_le, ne_eq, Decidable.not_not] at hd) <;> (try simp at hs))
      | refine T_ret ?_
      | refine leave_of (.inr rfl) _ rfl ?_
      | refine leave_of (.inl rfl) _ rfl ?_
      | refine leaveA_of (.inr rfl) _ rfl ?_
      | refine leaveA_of (.inl rfl) _ rfl ?_
      | refine wif_intro ?_ (fun hc => ?_)
      | refine And.intro ?_ ?_
      | intro hc
    | simp (maxSteps := 4000000) only [wops_nil, wops_cons, wstep_none, wrun_call, wrun_mv, wrun_bin, wrun_ext, wrun_load, wrun_faddr, wrun_len, wrun_alloc, wrun_box, wop, aop, ev, look, put_some, writes, ores_some, ores_map, ores_bind, binV, thenK, intV, lenOf, value, cut, hget, AV.parts, isOne, toLits, mkAgg, List.map_cons, List.map_nil, List.length_cons, List.length_nil, List.getElem?_cons_zero, List.getElem?_cons_succ, List.set_cons_zero, List.set_cons_succ, List.take_succ_cons, List.take_zero, List.take_nil, List.drop_succ_cons, List.drop_zero, List.cons_append, List.nil_append, List.append_nil, List.replicate_zero, List.replicate_succ, List.getD_cons_zero, List.zipIdx_cons, List.zipIdx_nil, List.all_cons, List.all_nil, Option.pure_def, Option.bind_eq_bind, Option.getD_some, Option.map_some, Option.map_none, if_true, if_false, Nat.reduceEqDiff, Nat.reduceAdd, Nat.add_zero, Nat.zero_add, Nat.zero_ne_one, reduceCtorEq, Bool.and_true, Bool.false_eq_true, eq_self, true_and, and_self, freeze, lidsL, lids, List.flatMap_cons, List.flatMap_nil, List.all_cons, ren, renL, renB, shiftρ, renR_ints, renR_ints, *]
    | simp (disch := omega) only [getD_ints, wrapI]
    | (with_reducible show wcall _ false (.lit (.func (.func 37) _ _)) _ _ _ _; refine wcall_fn (h37.1) ?_ ?_ ?_; (next => simp [rfyL, rfy, hget, ints, take_rfy, renR_rws, plain_rws, renR_ints]); (next => simp [plainL, plain, plainR, renR_rws, plain_rws, renR_ints]))
    | (with_reducible show wcallX _ false (.lit (.func (.func 37) _ _)) _ _ _ _; refine wcallX_fn (h37.1) ?_ ?_ ?_; (next => simp [rfyL, rfy, hget, ints, take_rfy, renR_rws, plain_rws, renR_ints]); (next => simp [plainL, plain, plainR, renR_rws, plain_rws, renR_ints]))
    | (with_reducible show wcall _ false (.lit (.func (.func 86) _ _)) _ _ _ _; refine wcall_fn (h86.1) ?_ ?_ ?_; (next => simp [rfyL, rfy, hget, ints, take_rfy, renR_rws, plain_rws, renR_ints]); (next => simp [plainL, plain, plainR, renR_rws, plain_rws, renR_ints]))
    | (with_reducible show wcallX _ false (.lit (.func (.func 86) _ _)) _ _ _ _; refine wcallX_fn (h86.1) ?_ ?_ ?_; (next => simp [rfyL, rfy, hget, ints, take_rfy, renR_rws, plain_rws, renR_ints]); (next => simp [plainL, plain, plainR, renR_rws, plain_rws, renR_ints]))
    | omega)
  refine T_for [1, 2, 5, 6, 7, 8, 9, 32, 33, 34] (S22o n s nil rows) rows.length (fun _ => True) 0 ?_ trivial (Nat.zero_le _) ?_
  · unfold S22o; rw [e0]; simp [St.only, get_mk, look]
  intro t ht _
  by_cases htn : t < rows.length
  · exact hl0.1 _ t htn
  · have hte : t = rows.length := by omega
    subst hte
    clear hl0 hq
    unfold c22l1 S22o
    repeat' (first
      | ((with_reducible refine T_calm ?_ ?_); rfl)
      | with_reducible first
        | refine T_seq ?_
        | refine T_reg ?_
        | refine T_draw ?_
        | refine T_skip ?_
        | refine T_exit ?_
        | refine T_block ?_
        | refine T_cond_t rfl ?_
        | refine T_cond_f rfl ?_
        | refine wdW_cons rfl ?_
        | (show wcall _ false (.lit (.func (.func 88) _ _)) _ _ _ _; refine wcall_fn (h88) rfl (by simp [plainL, plain]) ?_)
        | (show wcallX _ false (.lit (.func (.func 88) _ _)) _ _ _ _; refine wcallX_fn (h88) rfl (by simp [plainL, plain, plainR, renR_rws, plain_rws]) ?_)
        | ((first | refine T_cond rfl (fun hc => ?_) (fun hc => ?_) | refine wguard_split (fun hc => ?_) (fun hc => ?_) | refine wguardX_split (fun hc => ?_) (fun hc => ?_)) <;> have hd := hc <;> (try simp (disch := omega) only [wrapI] at hd) <;> have hs := hd <;> (try simp only [decide_eq_true_eq, decide_eq_false_iff_not, Int.not_lt] at hd) <;> (try simp at hs))
        | refine T_ret ?_
        | refine leave_of (.inr rfl) _ rfl ?_
        | refine leave_of (.inl rfl) _ rfl ?_
        | refine leaveA_of (.inr rfl) _ rfl ?_
        | refine leaveA_of (.inl rfl) _ rfl ?_
        | refine wif_intro ?_ (fun hc => ?_)
        | refine And.intro ?_ ?_
        | intro hc
      | simp (maxSteps := 4000000) only [wops_nil, wops_cons, wstep_none, wrun_call, wrun_mv, wrun_bin, wrun_store, get_mk, wop, aop, ev, look, put_some, put_none, writes, ores_some, binV, thenK, blockK, cut, hget, putCells, AV.parts, isOne, toLits, mkAgg, tupOf, ofValue_int, List.map_cons, List.map_nil, List.length_cons, List.length_nil, List.getElem?_cons_zero, List.getElem?_cons_succ, List.set_cons_zero, List.set_cons_succ, List.take_succ_cons, List.take_zero, List.take_nil, List.drop_succ_cons, List.drop_zero, List.drop_nil, List.nil_append, List.append_nil, List.replicate_zero, List.getD_cons_zero, List.all_cons, List.all_nil, Option.getD_some, Option.map_some, if_true, if_false, Nat.reduceEqDiff, Nat.reduceAdd, Nat.reduceLT, Nat.zero_add, Nat.le_refl, reduceCtorEq, Bool.and_true, eq_self, and_true, and_self, false_and, freeze, lidsL, lids, List.flatMap_cons, List.flatMap_nil, List.all_cons, ren, renL, *]
      | simp (disch := omega) only [getD_ints, wrapI]
      | (with_reducible show wcall _ false (.lit (.func (.func 88) _ _)) _ _ _ _; refine wcall_fn (h88) ?_ ?_ ?_; (next => simp [rfyL, rfy, hget, ints, take_rfy, renR_rws, plain_rws]); (next => simp [plainL, plain, plainR, renR_rws, plain_rws]))
      | (with_reducible show wcallX _ false (.lit (.func (.func 88) _ _)) _ _ _ _; refine wcallX_fn (h88) ?_ ?_ ?_; (next => simp [rfyL, rfy, hget, ints, take_rfy, renR_rws, plain_rws]); (next => simp [plainL, plain, plainR, renR_rws, plain_rws]))
      | omega)
    all_goals first | rfl
def S40i (n s : Nat) (nil : Bool) (rows : List (Bool × List Int)) (t i : Nat) : St := ⟨[(1, .loc 0 0 0), (2, .loc 1 0 0), (3, i64 rows.length), (4, i64 (mxI (mf (V rows) rows.length s n t) (mxO (mf (V rows) rows.length s n) n t) i)), (5, i64 t), (6, i64 i)], [pB n nil rows, .cells true false 2 [[i64 0, i64 0]]]⟩
def S40o (n s : Nat) (nil : Bool) (rows : List (Bool × List Int)) (t : Nat) : St := ⟨[(1, .loc 0 0 0), (2, .loc 1 0 0), (3, i64 rows.length), (4, i64 (mxO (mf (V rows) rows.length s n) n t)), (5, i64 t)], [pB n nil rows, .cells true false 2 [[i64 0, i64 0]]]⟩
theorem maxA (w x : Int) : (if w < (x.natAbs : Int) then (x.natAbs : Int) else w) = mxA w x := rfl
set_option maxHeartbeats 8000000 in
theorem k40l0 (h : TmOk n s rows) (K : Exit → St → Prop) (t : Nat) (ht : t < rows.length) (i : Nat) (hi : i < n) :
    T none Try.prog muts 63 0 c40l0 (S40i n s nil rows t i) (thenK (fun s' => (i < n ∧ True) ∧ s'.only [1, 2, 3, 4, 5, 6] = S40i n s nil rows t (i + 1)) K) := by
  have hmf := fun j (hj : j < n) => mf_bd h ht hj
  have hmo := mxO_bd (f := mf (V rows) rows.length s n) (n := n) (B := 100000000) (by omega) t fun u j hu hj => mf_bd h (by omega) hj
  have hmi := mxI_bd (f := mf (V rows) rows.length s n t) (w := mxO (mf (V rows) rows.length s n) n t) (B := 100000000) (by omega) i fun j hj => hmf j (by omega)
  have hmx := hmf i hi
  obtain ⟨hk, hn, hn2, hr, hb⟩ := h
  have hts : t * s ≤ n := by have := Nat.mul_le_mul_right s (Nat.le_of_lt ht); omega
  have hs24 : s ≤ 24 := by
    rcases Nat.lt_or_ge 24 s with h | h
    · have := Nat.mul_le_mul hk.1 (Nat.succ_le_of_lt h); omega
    · exact h
  have hq : ((n : Nat) : Int).tdiv ((rows.length : Nat) : Int) = (s : Nat) := by
    rw [← hn, Int.natCast_mul]; exact Int.mul_tdiv_cancel_left _ (by omega)
  have ets : (t : Int) * (s : Int) = ((t * s : Nat) : Int) := by rw [Int.natCast_mul]
  have hat : (i + n - t * s) % n < n := Nat.mod_lt _ (by omega)
  have emod : ((i : Int) - ((t * s : Nat) : Int)) % (n : Int) = (((i + n - t * s) % n : Nat) : Int) := by
    rw [← Int.add_emod_right, show (i : Int) - ((t * s : Nat) : Int) + (n : Int) = ((i + n - t * s : Nat) : Int) by omega]; rfl
  have h24 := k24 ((i : Int) - ((t * s : Nat) : Int)) n (by omega) (by omega)
  rw [emod] at h24
  have h103 := k103 (S := (n : Int)) (nil := nil) (j := (i + n - t * s) % n) rfl hk hn hn2 hat hr hb
  have h104 := k104 (S := (n : Int)) (nil := nil) (i := i) hk.2 (fun u hu => by rw [hr u hu]; exact hi) (fun u hu => hb u _ hu hi)
  have h2 := hr t ht
  have hlr : (rows.map fun r => [ints r.1 r.2]).length = rows.length := by simp
  have h1 := rws_get ht
  have g1 : ((rowN rows t).2.map fun x => [i64 x]).getD i [] = [i64 (V rows t i)] := getD_ints (by omega)
  have b1 := mirp_bd (V := V rows) (k := rows.length) (s := s) (n := n) (j := (i + n - t * s) % n) (u := rows.length) (by omega) hk.2 (Nat.le_refl _) hb
  have e1 : ∀ j, mirp (V rows) rows.length s n rows.length j = mir (V rows) rows.length s n j := fun _ => rfl
  rw [e1] at b1
  have b2 := rst_bd (V := V rows) (B := 100000) (k := rows.length) (i := i) (fun u hu => hb u i hu hi)
  have b0 := hb t i ht hi
  have e : mxI (mf (V rows) rows.length s n t) (mxO (mf (V rows) rows.length s n) n t) (i + 1) = mxA (mxI (mf (V rows) rows.length s n t) (mxO (mf (V rows) rows.length s n) n t) i) (mf (V rows) rows.length s n t i) := rfl
  have ef : mf (V rows) rows.length s n t i = (rows.length : Int) * rows.length * V rows t i - mir (V rows) rows.length s n ((i + n - t * s) % n) - rows.length * rst (V rows) rows.length i := rfl
  have hp := plain_rws rows
  unfold c40l0 S40i
  rw [e]
  clear hr hb hmf hmo e e1
  generalize mxI (mf (V rows) rows.length s n t) (mxO (mf (V rows) rows.length s n) n t) i = w at *
  generalize mf (V rows) rows.length s n t i = x at *
  generalize mir (V rows) rows.length s n ((i + n - t * s) % n) = m at *
  generalize V rows t i = v at *
  generalize rst (V rows) rows.length i = r at *
  generalize (i + n - t * s) % n = a at *
  have hkk : 1 ≤ (rows.length : Int) * (rows.length : Int) ∧ (rows.length : Int) * (rows.length : Int) ≤ 144 := by
    have h1 := Nat.mul_le_mul hk.1 hk.1
    have h2 := Nat.mul_le_mul hk.2 hk.2
    rw [← Int.natCast_mul]; omega
  have b4 := kv_bd (k := rows.length) (v := r) (B := 1200000) (by omega) (by omega) (by omega)
  have b5 : -14400000 ≤ (rows.length : Int) * rows.length * v ∧ (rows.length : Int) * rows.length * v ≤ 14400000 := by
    have h1 := kv_bd (k := rows.length) (v := v) (B := 100000) (by omega) b0 (by omega)
    have h2 := kv_bd (k := rows.length) (v := (rows.length : Int) * v) (B := 1200000) (by omega) (by omega) (by omega)
    rw [Int.mul_assoc]; omega
  have ew0 : IntKind.i64.wrap ((s : Nat) : Int) = (s : Nat) := wrapI (by omega) (by omega)
  have ew1 : IntKind.i64.wrap ((rows.length : Int) * rows.length) = (rows.length : Int) * rows.length := wrapI (by omega) (by omega)
  have ew2 : IntKind.i64.wrap ((rows.length : Int) * rows.length * v) = (rows.length : Int) * rows.length * v := wrapI (by omega) (by omega)
  have ew3 : IntKind.i64.wrap ((rows.length : Int) * rows.length * v - m) = (rows.length : Int) * rows.length * v - m := wrapI (by omega) (by omega)
  have ew4 : IntKind.i64.wrap ((t * s : Nat) : Int) = ((t * s : Nat) : Int) := wrapI (by omega) (by omega)
  have ew6 : IntKind.i64.wrap ((i : Int) - ((t * s : Nat) : Int)) = (i : Int) - ((t * s : Nat) : Int) := wrapI (by omega) (by omega)
  have ew7 : IntKind.i64.wrap ((rows.length : Int) * r) = (rows.length : Int) * r := wrapI (by omega) (by omega)
  have ew8 : IntKind.i64.wrap ((rows.length : Int) * rows.length * v - m - rows.length * r) = x := by rw [← ef]; exact wrapI (by omega) (by omega)
  have h59 := k59 x (by omega)
  have hm3 := maxA w x
  clear ef
  replace h103 := And.intro h103 trivial
  replace h104 := And.intro h104 trivial
  repeat' (first
    | ((with_reducible refine T_calm ?_ ?_); rfl)
    | with_reducible first
      | refine T_seq ?_
      | refine T_reg ?_
      | refine T_draw ?_
      | refine T_skip ?_
      | refine T_exit ?_
      | refine T_block ?_
      | refine T_cond_t rfl ?_
      | refine T_cond_f rfl ?_
      | refine wdW_cons rfl ?_
      | (show wcall _ false (.lit (.func (.func 24) _ _)) _ _ _ _; refine wcall_fn (h24) rfl (by simp [plainL, plain, plainR, Int.toNat_natCast, renR_rws, plain_rws]) ?_)
      | (show wcallX _ false (.lit (.func (.func 24) _ _)) _ _ _ _; refine wcallX_fn (h24) rfl (by simp [plainL, plain]) ?_)
      | (show wcall _ false (.lit (.func (.func 103) _ _)) _ _ _ _; refine wcall_fn (h103.1) rfl (by simp [plainL, plain, plainR, Int.toNat_natCast, renR_rws, plain_rws]) ?_)
      | (show wcallX _ false (.lit (.func (.func 103) _ _)) _ _ _ _; refine wcallX_fn (h103.1) rfl (by simp [plainL, plain, plain_rws]) ?_)
      | (show wcall _ false (.lit (.func (.func 104) _ _)) _ _ _ _; refine wcall_fn (h104.1) rfl (by simp [plainL, plain, plainR, Int.toNat_natCast, renR_rws, plain_rws]) ?_)
      | (show wcallX _ false (.lit (.func (.func 104) _ _)) _ _ _ _; refine wcallX_fn (h104.1) rfl (by simp [plainL, plain, plain_rws]) ?_)
      | (show wcall _ false (.lit (.func (.func 59) _ _)) _ _ _ _; refine wcall_fn (h59) rfl (by simp [plainL, plain, plainR, Int.toNat_natCast, renR_rws, plain_rws]) ?_)
      | (show wcallX _ false (.lit (.func (.func 59) _ _)) _ _ _ _; refine wcallX_fn (h59) rfl (by simp [plainL, plain]) ?_)
      | ((first | refine T_cond rfl (fun hc => ?_) (fun hc => ?_) | refine wguard_split (fun hc => ?_) (fun hc => ?_) | refine wguardX_split (fun hc => ?_) (fun hc => ?_)) <;> have hd := hc <;> (try simp (disch := omega) only [wrapI] at hd) <;> have hs := hd <;> (try simp only [decide_eq_true_eq, decide_eq_false_iff_not, Int.not_lt] at hd) <;> (try simp at hs))
      | refine T_ret ?_
      | refine leave_of (.inr rfl) _ rfl ?_
      | refine leave_of (.inl rfl) _ rfl ?_
      | refine leaveA_of (.inr rfl) _ rfl ?_
      | refine leaveA_of (.inl rfl) _ rfl ?_
      | refine wif_intro ?_ (fun hc => ?_)
      | refine And.intro ?_ ?_
      | intro hc
    | simp (maxSteps := 4000000) only [wops_nil, wops_cons, wstep_none, wrun_mv, wrun_bin, wrun_load, wrun_faddr, wrun_iaddrS, wrun_minmax, wrunX_mv, wrunX_bin, wrunX_load, wrunX_faddr, wrunX_iaddrS, wrunX_minmax, wdW_nil, wstepX_none, wrunX_call, wop, aop, ev, look, put_some, writes, ores_some, ores_ite_none, ores_none_ite, ores_map, binV, thenK, blockK, value, cut, hget, toLits, mkAgg, List.map_cons, List.map_nil, List.length_cons, List.length_nil, List.getElem?_cons_zero, List.take_succ_cons, List.take_zero, List.take_nil, List.drop_succ_cons, List.drop_zero, List.append_nil, List.replicate_zero, List.getD_cons_zero, List.length_map, Option.getD_some, Option.map_some, Option.map_none, if_true, if_false, Nat.reduceEqDiff, Nat.reduceAdd, Nat.add_zero, Nat.zero_add, reduceCtorEq, Bool.false_eq_true, eq_self, true_and, and_true, and_self, decide_true, freeze, lidsL, lids, List.flatMap_cons, List.flatMap_nil, ren, Int.toNat_natCast, *]
    | simp (disch := omega) only [wrapI]
    | (with_reducible show wcall _ false (.lit (.func (.func 24) _ _)) _ _ _ _; refine wcall_fn (h24) ?_ ?_ ?_; (next => simp [rfyL, rfy, hget, ints, take_rfy, Int.toNat_natCast, renR_rws, plain_rws]); (next => simp [plainL, plain, plainR, Int.toNat_natCast, renR_rws, plain_rws]))
    | (with_reducible show wcallX _ false (.lit (.func (.func 24) _ _)) _ _ _ _; refine wcallX_fn (h24) ?_ ?_ ?_; (next => simp [rfyL, rfy, hget, ints, take_rfy, Int.toNat_natCast, renR_rws, plain_rws]); (next => simp [plainL, plain, plainR, Int.toNat_natCast, renR_rws, plain_rws]))
    | (with_reducible show wcall _ false (.lit (.func (.func 103) _ _)) _ _ _ _; refine wcall_fn (h103.1) ?_ ?_ ?_; (next => simp [rfyL, rfy, hget, ints, take_rfy, Int.toNat_natCast, renR_rws, plain_rws]); (next => simp [plainL, plain, plainR, Int.toNat_natCast, renR_rws, plain_rws]))
    | (with_reducible show wcallX _ false (.lit (.func (.func 103) _ _)) _ _ _ _; refine wcallX_fn (h103.1) ?_ ?_ ?_; (next => simp [rfyL, rfy, hget, ints, take_rfy, Int.toNat_natCast, renR_rws, plain_rws]); (next => simp [plainL, plain, plainR, Int.toNat_natCast, renR_rws, plain_rws]))
    | (with_reducible show wcall _ false (.lit (.func (.func 104) _ _)) _ _ _ _; refine wcall_fn (h104.1) ?_ ?_ ?_; (next => simp [rfyL, rfy, hget, ints, take_rfy, Int.toNat_natCast, renR_rws, plain_rws]); (next => simp [plainL, plain, plainR, Int.toNat_natCast, renR_rws, plain_rws]))
    | (with_reducible show wcallX _ false (.lit (.func (.func 104) _ _)) _ _ _ _; refine wcallX_fn (h104.1) ?_ ?_ ?_; (next => simp [rfyL, rfy, hget, ints, take_rfy, Int.toNat_natCast, renR_rws, plain_rws]); (next => simp [plainL, plain, plainR, Int.toNat_natCast, renR_rws, plain_rws]))
    | (with_reducible show wcall _ false (.lit (.func (.func 59) _ _)) _ _ _ _; refine wcall_fn (h59) ?_ ?_ ?_; (next => simp [rfyL, rfy, hget, ints, take_rfy, Int.toNat_natCast, renR_rws, plain_rws]); (next => simp [plainL, plain, plainR, Int.toNat_natCast, renR_rws, plain_rws]))
    | (with_reducible show wcallX _ false (.lit (.func (.func 59) _ _)) _ _ _ _; refine wcallX_fn (h59) ?_ ?_ ?_; (next => simp [rfyL, rfy, hget, ints, take_rfy, Int.toNat_natCast, renR_rws, plain_rws]); (next => simp [plainL, plain, plainR, Int.toNat_natCast, renR_rws, plain_rws]))
    | omega)
  all_goals first | (simp [St.only, get_mk, look]; done)
set_option maxHeartbeats 8000000 in
theorem k40 (h : TmOk n s rows) : Fn Try.prog 40 [tmV n nil rows] (frV (lowD (mxO (mf (V rows) rows.length s n) n rows.length) (rows.length * rows.length))) [] := by
  refine fn_of e40 ?_
  have hl0 := fun K t ht i hi => k40l0 (nil := nil) h K t ht i hi
  have hmo := mxO_bd (f := mf (V rows) rows.length s n) (n := n) (B := 100000000) (by omega) rows.length fun u j hu hj => mf_bd h (by omega) hj
  obtain ⟨hk, hn, hn2, hr, hb⟩ := h
  have hkk : 1 ≤ (rows.length : Int) * (rows.length : Int) ∧ (rows.length : Int) * (rows.length : Int) ≤ 144 := by
    have h1 := Nat.mul_le_mul hk.1 hk.1
    have h2 := Nat.mul_le_mul hk.2 hk.2
    rw [← Int.natCast_mul]; omega
  have ew : IntKind.i64.wrap ((rows.length : Int) * (rows.length : Int)) = (rows.length : Int) * (rows.length : Int) := wrapI (by omega) (by omega)
  have hlr : (rows.map fun r => [ints r.1 r.2]).length = rows.length := by simp
  have h102 := k102 (mxO (mf (V rows) rows.length s n) n rows.length) (rows.length * rows.length) (by omega) (by omega)
  have e0 : mxO (mf (V rows) rows.length s n) n 0 = 0 := rfl
  have e1 : ∀ t, mxI (mf (V rows) rows.length s n t) (mxO (mf (V rows) rows.length s n) n t) 0 = mxO (mf (V rows) rows.length s n) n t := fun _ => rfl
  have e2 : ∀ t, mxI (mf (V rows) rows.length s n t) (mxO (mf (V rows) rows.length s n) n t) n = mxO (mf (V rows) rows.length s n) n (t + 1) := fun _ => rfl
  clear hr hb hmo
  replace hl0 := And.intro hl0 trivial
  generalize hq : lowD (mxO (mf (V rows) rows.length s n) n rows.length) (rows.length * rows.length) = q at *
  unfold c40
  repeat' (first
    | ((with_reducible refine T_calm ?_ ?_); rfl)
    | with_reducible first
      | refine T_seq ?_
      | refine T_reg ?_
      | refine T_draw ?_
      | refine T_skip ?_
      | refine T_exit ?_
      | refine T_block ?_
      | refine T_cond_t rfl ?_
      | refine T_cond_f rfl ?_
      | refine wdW_cons rfl ?_
      | ((first | refine T_cond rfl (fun hc => ?_) (fun hc => ?_) | refine wguard_split (fun hc => ?_) (fun hc => ?_) | refine wguardX_split (fun hc => ?_) (fun hc => ?_)) <;> have hd := hc <;> (try simp (disch := omega) only [wrapI] at hd) <;> have hs := hd <;> (try simp only [Bool.not_eq_true', Bool.not_eq_false', Bool.and_eq_true, Bool.and_eq_false_iff, Bool.or_eq_true, Bool.or_eq_false_iff, decide_eq_true_eq, decide_eq_false_iff_not, beq_iff_eq, bne_iff_ne, beq_eq_false_iff_ne, bne_eq_false_iff_eq, Bool.not_true, Bool.not_false, gt_iff_lt, ge_iff_le, Int.not_lt, Int.not_le, ne_eq, Decidable.not_not] at hd) <;> (try simp at hs))
      | refine T_ret ?_
      | refine leave_of (.inr rfl) _ rfl ?_
      | refine leave_of (.inl rfl) _ rfl ?_
      | refine leaveA_of (.inr rfl) _ rfl ?_
      | refine leaveA_of (.inl rfl) _ rfl ?_
      | refine wif_intro ?_ (fun hc => ?_)
      | refine And.intro ?_ ?_
      | intro hc
    | simp (maxSteps := 4000000) only [wops_nil, wops_cons, wstep_none, wrun_mv, wrun_load, wrun_faddr, wrun_len, wrun_alloc, wrun_box, wop, aop, ev, look, put_some, writes, ores_some, ores_map, ores_bind, thenK, intV, lenOf, value, cut, hget, AV.parts, isOne, mkAgg, List.map_cons, List.map_nil, List.length_cons, List.length_nil, List.getElem?_cons_zero, List.getElem?_cons_succ, List.set_cons_zero, List.set_cons_succ, List.take_succ_cons, List.take_nil, List.drop_succ_cons, List.drop_zero, List.nil_append, List.append_nil, List.replicate_zero, List.replicate_succ, List.getD_cons_zero, List.zipIdx_cons, List.zipIdx_nil, List.all_cons, List.all_nil, Option.pure_def, Option.bind_eq_bind, Option.getD_some, Option.map_some, if_true, if_false, Nat.reduceEqDiff, Nat.reduceAdd, Nat.add_zero, Nat.zero_add, Nat.zero_ne_one, reduceCtorEq, Bool.and_true, Bool.false_eq_true, eq_self, true_and, and_self, List.all_cons, *]
    | simp (disch := omega) only [getD_ints, wrapI]
    | omega)
  refine T_for [1, 2, 3, 4, 5] (S40o n s nil rows) rows.length (fun _ => True) 0 ?_ trivial (Nat.zero_le _) ?_
  · unfold S40o; rw [e0]; simp [St.only, get_mk, look]
  intro t ht _
  by_cases htn : t < rows.length
  · have hl1 := fun K i hi => hl0.1 K t htn i hi
    clear hl0 h102
    replace hl1 := And.intro hl1 trivial
    have e1t := e1 t
    have e2t := e2 t
    clear e0 e1 e2 hq
    unfold c40l1 S40o
    repeat' (first
      | ((with_reducible refine T_calm ?_ ?_); rfl)
      | with_reducible first
        | refine T_seq ?_
        | refine T_reg ?_
        | refine T_draw ?_
        | refine T_skip ?_
        | refine T_exit ?_
        | refine T_block ?_
        | refine T_cond_t rfl ?_
        | refine T_cond_f rfl ?_
        | refine wdW_cons rfl ?_
        | ((first | refine T_cond rfl (fun hc => ?_) (fun hc => ?_) | refine wguard_split (fun hc => ?_) (fun hc => ?_) | refine wguardX_split (fun hc => ?_) (fun hc => ?_)) <;> have hd := hc <;> (try simp (disch := omega) only [wrapI] at hd) <;> have hs := hd <;> (try simp only [decide_eq_true_eq, decide_eq_false_iff_not, Int.not_lt] at hd) <;> (try simp at hs))
        | refine T_ret ?_
        | refine leave_of (.inr rfl) _ rfl ?_
        | refine leave_of (.inl rfl) _ rfl ?_
        | refine leaveA_of (.inr rfl) _ rfl ?_
        | refine leaveA_of (.inl rfl) _ rfl ?_
        | refine wif_intro ?_ (fun hc => ?_)
        | refine And.intro ?_ ?_
        | intro hc
      | simp (maxSteps := 4000000) only [wops_nil, wops_cons, wstep_none, wrun_call, wrun_mv, wrun_bin, wop, aop, ev, look, put_some, writes, ores_some, binV, thenK, blockK, List.map_cons, List.map_nil, List.length_cons, List.length_nil, List.append_nil, List.replicate_zero, Option.map_some, if_true, if_false, Nat.reduceEqDiff, Nat.reduceAdd, Nat.zero_add, reduceCtorEq, eq_self, true_and, and_self, decide_true, *]
      | simp (disch := omega) only [getD_ints, wrapI]
      | omega)
    refine T_for [1, 2, 3, 4, 5, 6] (S40i n s nil rows t) n (fun _ => True) 0 ?_ trivial (Nat.zero_le _) ?_
    · unfold S40i; rw [e1t]; simp [St.only, get_mk, look]
    intro i hi _
    by_cases hin : i < n
    · exact hl1.1 _ i hin
    · have hie : i = n := by omega
      subst hie
      clear hl1
      unfold c40l0 S40i
      rw [e2t]
      repeat' (first
        | ((with_reducible refine T_calm ?_ ?_); rfl)
        | with_reducible first
          | refine T_seq ?_
          | refine T_reg ?_
          | refine T_draw ?_
          | refine T_skip ?_
          | refine T_exit ?_
          | refine T_block ?_
          | refine T_cond_t rfl ?_
          | refine T_cond_f rfl ?_
          | refine wdW_cons rfl ?_
          | ((first | refine T_cond rfl (fun hc => ?_) (fun hc => ?_) | refine wguard_split (fun hc => ?_) (fun hc => ?_) | refine wguardX_split (fun hc => ?_) (fun hc => ?_)) <;> have hd := hc <;> (try simp (disch := omega) only [wrapI] at hd) <;> have hs := hd <;> (try simp only [decide_eq_true_eq, decide_eq_false_iff_not, Int.not_lt] at hd) <;> (try simp at hs))
          | refine T_ret ?_
          | refine leave_of (.inr rfl) _ rfl ?_
          | refine leave_of (.inl rfl) _ rfl ?_
          | refine leaveA_of (.inr rfl) _ rfl ?_
          | refine leaveA_of (.inl rfl) _ rfl ?_
          | refine wif_intro ?_ (fun hc => ?_)
          | refine And.intro ?_ ?_
          | intro hc
        | simp (maxSteps := 4000000) only [wops_nil, wops_cons, wstep_none, wrun_mv, wrun_bin, wrun_load, wrun_faddr, wop, aop, ev, look, put_some, writes, ores_some, binV, thenK, blockK, value, cut, hget, mkAgg, List.length_cons, List.length_nil, List.getElem?_cons_zero, List.take_succ_cons, List.take_zero, List.drop_zero, List.append_nil, List.replicate_zero, List.getD_cons_zero, Option.getD_some, Option.map_some, if_true, if_false, Nat.reduceEqDiff, Nat.reduceAdd, Nat.add_zero, Nat.zero_add, reduceCtorEq, Bool.false_eq_true, eq_self, and_true, false_and, *]
        | simp (disch := omega) only [wrapI]
        | omega)
      all_goals first | (simp [St.only, get_mk, look]; done)
  · have hte : t = rows.length := by omega
    subst hte
    clear hl0 hq e0 e1 e2
    unfold c40l1 S40o
    repeat' (first
      | ((with_reducible refine T_calm ?_ ?_); rfl)
      | with_reducible first
        | refine T_seq ?_
        | refine T_reg ?_
        | refine T_draw ?_
        | refine T_skip ?_
        | refine T_exit ?_
        | refine T_block ?_
        | refine T_cond_t rfl ?_
        | refine T_cond_f rfl ?_
        | refine wdW_cons rfl ?_
        | (show wcall _ false (.lit (.func (.func 102) _ _)) _ _ _ _; refine wcall_fn (h102) rfl (by simp [plainL, plain]) ?_)
        | (show wcallX _ false (.lit (.func (.func 102) _ _)) _ _ _ _; refine wcallX_fn (h102) rfl (by simp [plainL, plain, plainR, renR_rws, plain_rws]) ?_)
        | ((first | refine T_cond rfl (fun hc => ?_) (fun hc => ?_) | refine wguard_split (fun hc => ?_) (fun hc => ?_) | refine wguardX_split (fun hc => ?_) (fun hc => ?_)) <;> have hd := hc <;> (try simp (disch := omega) only [wrapI] at hd) <;> have hs := hd <;> (try simp only [decide_eq_true_eq, decide_eq_false_iff_not, Int.not_lt] at hd) <;> (try simp at hs))
        | refine T_ret ?_
        | refine leave_of (.inr rfl) _ rfl ?_
        | refine leave_of (.inl rfl) _ rfl ?_
        | refine leaveA_of (.inr rfl) _ rfl ?_
        | refine leaveA_of (.inl rfl) _ rfl ?_
        | refine wif_intro ?_ (fun hc => ?_)
        | refine And.intro ?_ ?_
        | intro hc
      | simp (maxSteps := 4000000) only [wops_nil, wops_cons, wstep_none, wrun_call, wrun_mv, wrun_bin, wrun_store, wop, aop, ev, look, put_some, put_none, writes, ores_some, binV, thenK, blockK, cut, hget, putCells, AV.parts, isOne, toLits, mkAgg, tupOf, ofValue_int, List.map_cons, List.map_nil, List.length_cons, List.length_nil, List.getElem?_cons_zero, List.getElem?_cons_succ, List.set_cons_zero, List.set_cons_succ, List.take_succ_cons, List.take_zero, List.take_nil, List.drop_succ_cons, List.drop_zero, List.drop_nil, List.nil_append, List.append_nil, List.replicate_zero, List.getD_cons_zero, List.all_cons, List.all_nil, Option.getD_some, Option.map_some, if_true, if_false, Nat.reduceEqDiff, Nat.reduceAdd, Nat.reduceLT, Nat.zero_add, Nat.le_refl, reduceCtorEq, Bool.and_true, eq_self, and_true, and_self, false_and, freeze, lidsL, lids, List.flatMap_cons, List.flatMap_nil, List.all_cons, ren, *]
      | simp (disch := omega) only [getD_ints, wrapI]
      | (with_reducible show wcall _ false (.lit (.func (.func 102) _ _)) _ _ _ _; refine wcall_fn (h102) ?_ ?_ ?_; (next => simp [rfyL, rfy, hget, ints, take_rfy, renR_rws, plain_rws]); (next => simp [plainL, plain, plainR, renR_rws, plain_rws]))
      | (with_reducible show wcallX _ false (.lit (.func (.func 102) _ _)) _ _ _ _; refine wcallX_fn (h102) ?_ ?_ ?_; (next => simp [rfyL, rfy, hget, ints, take_rfy, renR_rws, plain_rws]); (next => simp [plainL, plain, plainR, renR_rws, plain_rws]))
      | omega)
    all_goals first | rfl
end
end Go.Abs
