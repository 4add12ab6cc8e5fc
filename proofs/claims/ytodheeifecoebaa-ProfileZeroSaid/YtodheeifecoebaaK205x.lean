import Derived.Test.YtodheeifecoebaaK204x
set_option linter.all false
set_option linter.unusedVariables false
set_option linter.unusedSimpArgs false
set_option linter.unusedSectionVars false
namespace Go.Abs
open Go.Proofs
/-! split: the rest and the mirror's part -/
theorem set_ints (xs : List Int) (i : Nat) (v : Int) : (xs.map fun x => [i64 x]).set i [i64 v] = (xs.set i v).map fun x => [i64 x] := by rw [List.map_set]
theorem mk_rep (n : Nat) : List.replicate n [i64 0] = (mk n fun _ => 0).map fun x => [i64 x] := by
  unfold mk
  refine List.ext_getElem (by simp) fun k h1 h2 => by simp
def fR (V : Nat → Nat → Int) (t i j : Nat) : Int := rst V t j + if j < i then V t j else 0
def fM (V : Nat → Nat → Int) (k s n t i j : Nat) : Int := mirp V k s n t j + if (j + t * s) % n < i then (k : Int) * V t ((j + t * s) % n) - rst V k ((j + t * s) % n) else 0
theorem fR_zero (V : Nat → Nat → Int) (t n : Nat) : mk n (fR V t 0) = mk n (rst V t) := mk_congr fun j _ => by simp [fR]
theorem fR_full (V : Nat → Nat → Int) (t n : Nat) : mk n (fR V t n) = mk n (rst V (t + 1)) := mk_congr fun j hj => by unfold fR; rw [if_pos hj]; rfl
theorem fR_at (V : Nat → Nat → Int) (t i : Nat) : fR V t i i = rst V t i := by simp [fR]
theorem fR_set (V : Nat → Nat → Int) (t i n : Nat) : (mk n (fR V t i)).set i (rst V t i + V t i) = mk n (fR V t (i + 1)) := by
  rw [mk_set]
  refine mk_congr fun j hj => ?_
  by_cases h : j = i
  · subst h; simp [fR]
  · rw [if_neg h]; unfold fR
    by_cases h2 : j < i
    · rw [if_pos h2, if_pos (by omega)]
    · rw [if_neg h2, if_neg (by omega)]
theorem fM_zero (V : Nat → Nat → Int) (k s n t : Nat) : mk n (fM V k s n t 0) = mk n (mirp V k s n t) := mk_congr fun j _ => by simp [fM]
theorem fM_full (V : Nat → Nat → Int) (k s n t : Nat) : mk n (fM V k s n t n) = mk n (mirp V k s n (t + 1)) := mk_congr fun j hj => by
  unfold fM; rw [if_pos (Nat.mod_lt _ (by omega))]; rfl
theorem fM_at {V : Nat → Nat → Int} {k s n t i : Nat} (hi : i < n) (ht : t * s ≤ n) : fM V k s n t i ((i + n - t * s) % n) = mirp V k s n t ((i + n - t * s) % n) := by
  unfold fM; rw [at_inv hi ht, if_neg (by omega)]; omega
theorem fM_set {V : Nat → Nat → Int} {k s n t i : Nat} (hi : i < n) (ht : t * s ≤ n) : (mk n (fM V k s n t i)).set ((i + n - t * s) % n) (mirp V k s n t ((i + n - t * s) % n) + ((k : Int) * V t i - rst V k i)) = mk n (fM V k s n t (i + 1)) := by
  rw [mk_set]
  refine mk_congr fun j hj => ?_
  have h := at_iff hi hj ht
  by_cases e : j = (i + n - t * s) % n
  · rw [if_pos e, ← e]
    unfold fM
    rw [h.2 e, if_pos (by omega)]
  · rw [if_neg e]
    have h2 : (j + t * s) % n ≠ i := fun x => e (h.1 x)
    unfold fM
    by_cases h3 : (j + t * s) % n < i
    · rw [if_pos h3, if_pos (by omega)]
    · rw [if_neg h3, if_neg (by omega)]
abbrev pB (n : Nat) (nil : Bool) (rows : List (Bool × List Int)) : Blk := .cells true false 2 [[i64 n, .sl nil 1 (rows.map fun r => [ints r.1 r.2])]]
abbrev iB (xs : List Int) : Blk := .cells true false 1 (xs.map fun x => [i64 x])
def S86a (n : Nat) (nil : Bool) (rows : List (Bool × List Int)) (t i : Nat) : St := ⟨[(1, .loc 0 0 0), (2, .lsl 1 0 n), (3, .lsl 2 0 n), (4, i64 n), (5, i64 rows.length), (25, .sl nil 1 (rows.map fun r => [ints r.1 r.2])), (26, i64 rows.length), (27, i64 t), (31, ints (rowN rows t).1 (rowN rows t).2), (32, i64 n), (33, i64 i)], [pB n nil rows, iB (mk n (fR (V rows) t i)), iB (mk n fun _ => 0)]⟩
def S86b (n : Nat) (nil : Bool) (rows : List (Bool × List Int)) (t : Nat) : St := ⟨[(1, .loc 0 0 0), (2, .lsl 1 0 n), (3, .lsl 2 0 n), (4, i64 n), (5, i64 rows.length), (25, .sl nil 1 (rows.map fun r => [ints r.1 r.2])), (26, i64 rows.length), (27, i64 t)], [pB n nil rows, iB (mk n (rst (V rows) t)), iB (mk n fun _ => 0)]⟩
def S86c (n s : Nat) (nil : Bool) (rows : List (Bool × List Int)) (t i : Nat) : St := ⟨[(1, .loc 0 0 0), (2, .lsl 1 0 n), (3, .lsl 2 0 n), (4, i64 n), (5, i64 rows.length), (10, i64 t), (48, .sl nil 1 (rows.map fun r => [ints r.1 r.2])), (49, i64 rows.length), (50, i64 t), (55, ints (rowN rows t).1 (rowN rows t).2), (56, i64 n), (57, i64 i)], [pB n nil rows, iB (mk n (rst (V rows) rows.length)), iB (mk n (fM (V rows) rows.length s n t i))]⟩
def S86d (n s : Nat) (nil : Bool) (rows : List (Bool × List Int)) (t : Nat) : St := ⟨[(1, .loc 0 0 0), (2, .lsl 1 0 n), (3, .lsl 2 0 n), (4, i64 n), (5, i64 rows.length), (48, .sl nil 1 (rows.map fun r => [ints r.1 r.2])), (49, i64 rows.length), (50, i64 t)], [pB n nil rows, iB (mk n (rst (V rows) rows.length)), iB (mk n (mirp (V rows) rows.length s n t))]⟩
section
variable {n s : Nat} {nil : Bool} {rows : List (Bool × List Int)}
set_option maxHeartbeats 8000000 in
theorem k86l0 (hk : 1 ≤ rows.length ∧ rows.length ≤ 12) (hn2 : 1 ≤ n ∧ n ≤ 24)
    (hr : ∀ t, t < rows.length → (rowN rows t).2.length = n) (hb : ∀ t i, t < rows.length → i < n → -100000 ≤ V rows t i ∧ V rows t i ≤ 100000) (K : Exit → St → Prop) (t : Nat) (ht : t < rows.length) (i : Nat) (hi : i < n) :
    T none Try.prog muts 91 0 c86l0 (S86a n nil rows t i) (thenK (fun s' => (i < n ∧ True) ∧ s'.only [1, 2, 3, 4, 5, 25, 26, 27, 31, 32, 33] = S86a n nil rows t (i + 1)) K) := by
  have h2 := hr t ht
  have g1 : ((rowN rows t).2.map fun x => [i64 x]).getD i [] = [i64 (V rows t i)] := getD_ints (by omega)
  have g2 : ((mk n (fR (V rows) t i)).map fun x => [i64 x]).getD i [] = [i64 (rst (V rows) t i)] := by rw [getD_ints (by rw [mk_len]; exact hi), mk_get hi, fR_at]
  have hl := mk_len n (fR (V rows) t i)
  have h3 := hb t i ht hi
  have h4 := rst_bd (V := V rows) (B := 100000) (k := t) (i := i) (fun u hu => hb u i (by omega) hi)
  have ew : IntKind.i64.wrap (rst (V rows) t i + V rows t i) = rst (V rows) t i + V rows t i := wrapI (by omega) (by omega)
  have est := fR_set (V rows) t i n
  unfold c86l0 S86a
  rw [← est]
  clear hr hb h4 est
  generalize V rows t i = v at *
  generalize rst (V rows) t i = w at *
  generalize mk n (fR (V rows) t i) = L at *
  repeat' (first
    | ((with_reducible refine T_calm ?_ ?_); rfl)
    | with_reducible first
      | refine T_seq ?_
      | refine T_reg ?_
      | refine T_draw ?_
      | refine T_skip ?_
      | refine T_exit ?_
      | refine T_block ?_
      | refine T_cond_t rfl ?_
      | refine T_cond_f rfl ?_
      | refine wdW_cons rfl ?_
      | ((first | refine T_cond rfl (fun hc => ?_) (fun hc => ?_) | refine wguard_split (fun hc => ?_) (fun hc => ?_) | refine wguardX_split (fun hc => ?_) (fun hc => ?_)) <;> have hd := hc <;> (try simp (disch := omega) only [wrapI] at hd) <;> have hs := hd <;> (try simp only [decide_eq_true_eq, decide_eq_false_iff_not, Int.not_lt] at hd) <;> (try simp at hs))
      | refine T_ret ?_
      | refine leave_of (.inr rfl) _ rfl ?_
      | refine leave_of (.inl rfl) _ rfl ?_
      | refine leaveA_of (.inr rfl) _ rfl ?_
      | refine leaveA_of (.inl rfl) _ rfl ?_
      | refine wif_intro ?_ (fun hc => ?_)
      | refine And.intro ?_ ?_
      | intro hc
    | simp (maxSteps := 4000000) only [wops_nil, wops_cons, wstep_none, wrun_mv, wrun_bin, wrun_load, wrun_store, wrun_iaddrS, wop, aop, ev, look, put_some, put_none, writes, ores_some, ores_ite_none, binV, thenK, blockK, value, cut, hget, putCells, AV.parts, isOne, mkAgg, List.length_cons, List.length_nil, List.getElem?_cons_zero, List.getElem?_cons_succ, List.set_cons_zero, List.set_cons_succ, List.take_succ_cons, List.take_zero, List.take_nil, List.drop_succ_cons, List.drop_zero, List.drop_nil, List.cons_append, List.nil_append, List.append_nil, List.append_assoc, List.replicate_zero, List.all_cons, List.all_nil, List.length_map, Option.getD_some, Option.map_some, if_true, if_false, Nat.reduceEqDiff, Nat.reduceAdd, Nat.zero_add, Nat.le_refl, reduceCtorEq, Bool.and_true, Bool.false_eq_true, eq_self, true_and, and_true, and_self, decide_true, List.all_cons, Int.toNat_natCast, set_ints, *]
    | simp (disch := omega) only [wrapI]
    | omega)
  all_goals first | (simp [St.only, get_mk, look]; done)
set_option maxHeartbeats 8000000 in
theorem k86l1 (hk : 1 ≤ rows.length ∧ rows.length ≤ 12) (hn2 : 1 ≤ n ∧ n ≤ 24)
    (hr : ∀ t, t < rows.length → (rowN rows t).2.length = n) (hb : ∀ t i, t < rows.length → i < n → -100000 ≤ V rows t i ∧ V rows t i ≤ 100000) (K : Exit → St → Prop) (t : Nat) (ht : t < rows.length) :
    T none Try.prog muts 91 0 c86l1 (S86b n nil rows t) (thenK (fun s' => (t < rows.length ∧ True) ∧ s'.only [1, 2, 3, 4, 5, 25, 26, 27] = S86b n nil rows (t + 1)) K) := by
  have h1 := rws_get ht
  have hl : (rows.map fun r => [ints r.1 r.2]).length = rows.length := by simp
  have h2 := hr t ht
  have hl0 := fun K i hi => k86l0 (nil := nil) hk hn2 hr hb K t ht i hi
  have e0 := fR_zero (V rows) t n
  have e1 := fR_full (V rows) t n
  replace hl0 := And.intro hl0 trivial
  clear hr hb
  unfold c86l1 S86b
  repeat' (first
    | ((with_reducible refine T_calm ?_ ?_); rfl)
    | with_reducible first
      | refine T_seq ?_
      | refine T_reg ?_
      | refine T_draw ?_
      | refine T_skip ?_
      | refine T_exit ?_
      | refine T_block ?_
      | refine T_cond_t rfl ?_
      | refine T_cond_f rfl ?_
      | refine wdW_cons rfl ?_
      | ((first | refine T_cond rfl (fun hc => ?_) (fun hc => ?_) | refine wguard_split (fun hc => ?_) (fun hc => ?_) | refine wguardX_split (fun hc => ?_) (fun hc => ?_)) <;> have hd := hc <;> (try simp (disch := omega) only [wrapI] at hd) <;> have hs := hd <;> (try simp only [decide_eq_true_eq, decide_eq_false_iff_not, Int.not_lt] at hd) <;> (try simp at hs))
      | refine T_ret ?_
      | refine leave_of (.inr rfl) _ rfl ?_
      | refine leave_of (.inl rfl) _ rfl ?_
      | refine leaveA_of (.inr rfl) _ rfl ?_
      | refine leaveA_of (.inl rfl) _ rfl ?_
      | refine wif_intro ?_ (fun hc => ?_)
      | refine And.intro ?_ ?_
      | intro hc
    | simp (maxSteps := 4000000) only [wops_nil, wops_cons, wstep_none, wrun_mv, wrun_bin, wrun_load, wrun_iaddrS, wrun_len, wop, aop, ev, look, put_some, writes, ores_some, ores_ite_none, ores_map, ores_bind, binV, thenK, intV, lenOf, value, cut, hget, mkAgg, List.length_cons, List.length_nil, List.take_succ_cons, List.take_nil, List.drop_zero, List.append_nil, List.replicate_zero, List.length_map, Option.pure_def, Option.bind_eq_bind, Option.map_some, if_true, if_false, Nat.reduceEqDiff, Nat.reduceAdd, Nat.zero_add, reduceCtorEq, Bool.false_eq_true, eq_self, true_and, and_true, and_self, decide_true, Int.toNat_natCast, *]
    | simp (disch := omega) only [getD_ints, wrapI]
    | omega)
  refine T_for [1, 2, 3, 4, 5, 25, 26, 27, 31, 32, 33] (S86a n nil rows t) n (fun _ => True) 0 ?_ trivial (Nat.zero_le _) ?_
  · unfold S86a; rw [e0]; simp [St.only, get_mk, look]
  intro i hi _
  by_cases hin : i < n
  · exact hl0.1 _ i hin
  · have hie : i = n := by omega
    subst hie
    clear hl0
    unfold c86l0 S86a
    rw [e1]
    repeat' (first
      | ((with_reducible refine T_calm ?_ ?_); rfl)
      | with_reducible first
        | refine T_seq ?_
        | refine T_reg ?_
        | refine T_draw ?_
        | refine T_skip ?_
        | refine T_exit ?_
        | refine T_block ?_
        | refine T_cond_t rfl ?_
        | refine T_cond_f rfl ?_
        | refine wdW_cons rfl ?_
        | ((first | refine T_cond rfl (fun hc => ?_) (fun hc => ?_) | refine wguard_split (fun hc => ?_) (fun hc => ?_) | refine wguardX_split (fun hc => ?_) (fun hc => ?_)) <;> have hd := hc <;> (try simp (disch := omega) only [wrapI] at hd) <;> have hs := hd <;> (try simp only [decide_eq_true_eq, decide_eq_false_iff_not, Int.not_lt] at hd) <;> (try simp at hs))
        | refine T_ret ?_
        | refine leave_of (.inr rfl) _ rfl ?_
        | refine leave_of (.inl rfl) _ rfl ?_
        | refine leaveA_of (.inr rfl) _ rfl ?_
        | refine leaveA_of (.inl rfl) _ rfl ?_
        | refine wif_intro ?_ (fun hc => ?_)
        | refine And.intro ?_ ?_
        | intro hc
      | simp (maxSteps := 4000000) only [wops_nil, wops_cons, wstep_none, wrun_mv, wrun_bin, wop, aop, ev, look, put_some, writes, ores_some, binV, thenK, blockK, List.length_cons, List.length_nil, List.append_nil, List.replicate_zero, Option.map_some, if_true, if_false, Nat.reduceEqDiff, Nat.reduceAdd, Nat.zero_add, reduceCtorEq, eq_self, and_true, false_and, Int.toNat_natCast, *]
      | simp (disch := omega) only [wrapI]
      | omega)
    all_goals first | (simp [St.only, get_mk, look]; done)
set_option maxHeartbeats 8000000 in
theorem k86l2 (hk : 1 ≤ rows.length ∧ rows.length ≤ 12) (hn : rows.length * s = n) (hn2 : 1 ≤ n ∧ n ≤ 24)
    (hr : ∀ t, t < rows.length → (rowN rows t).2.length = n) (hb : ∀ t i, t < rows.length → i < n → -100000 ≤ V rows t i ∧ V rows t i ≤ 100000) (K : Exit → St → Prop) (t : Nat) (ht : t < rows.length) (i : Nat) (hi : i < n) :
    T none Try.prog muts 91 0 c86l2 (S86c n s nil rows t i) (thenK (fun s' => (i < n ∧ True) ∧ s'.only [1, 2, 3, 4, 5, 10, 48, 49, 50, 55, 56, 57] = S86c n s nil rows t (i + 1)) K) := by
  have hts : t * s ≤ n := by have := Nat.mul_le_mul_right s (Nat.le_of_lt ht); omega
  have hs24 : s ≤ 24 := by
    rcases Nat.lt_or_ge 24 s with h | h
    · have := Nat.mul_le_mul hk.1 (Nat.succ_le_of_lt h); omega
    · exact h
  have hq : ((n : Nat) : Int).tdiv ((rows.length : Nat) : Int) = (s : Nat) := by
    rw [← hn, Int.natCast_mul]; exact Int.mul_tdiv_cancel_left _ (by omega)
  have ets : (t : Int) * (s : Int) = ((t * s : Nat) : Int) := by rw [Int.natCast_mul]
  have est := fM_set (V := V rows) (k := rows.length) (s := s) (n := n) (t := t) hi hts
  have eat := fM_at (V := V rows) (k := rows.length) (s := s) (n := n) (t := t) hi hts
  have hat : (i + n - t * s) % n < n := Nat.mod_lt _ (by omega)
  have emod : ((i : Int) + (n : Int) - ((t * s : Nat) : Int)).tmod (n : Int) = (((i + n - t * s) % n : Nat) : Int) := by
    rw [show (i : Int) + (n : Int) - ((t * s : Nat) : Int) = ((i + n - t * s : Nat) : Int) by omega]; exact (Int.ofNat_tmod _ _).symm
  have h2 := hr t ht
  have g1 : ((rowN rows t).2.map fun x => [i64 x]).getD i [] = [i64 (V rows t i)] := getD_ints (by omega)
  have g2 : ((mk n (fM (V rows) rows.length s n t i)).map fun x => [i64 x]).getD ((i + n - t * s) % n) [] = [i64 (mirp (V rows) rows.length s n t ((i + n - t * s) % n))] := by rw [getD_ints (by rw [mk_len]; exact hat), mk_get hat, eat]
  have g3 : ((mk n (rst (V rows) rows.length)).map fun x => [i64 x]).getD i [] = [i64 (rst (V rows) rows.length i)] := by rw [getD_ints (by rw [mk_len]; exact hi), mk_get hi]
  have hl := mk_len n (fM (V rows) rows.length s n t i)
  have hl2 := mk_len n (rst (V rows) rows.length)
  have h3 := hb t i ht hi
  have h4 := rst_bd (V := V rows) (B := 100000) (k := rows.length) (i := i) (fun u hu => hb u i (by omega) hi)
  have h5 := mirp_bd (V := V rows) (k := rows.length) (s := s) (n := n) (j := (i + n - t * s) % n) (u := t) (by omega) hk.2 (by omega) hb
  unfold c86l2 S86c
  rw [← est]
  clear hr hb est eat
  generalize mirp (V rows) rows.length s n t ((i + n - t * s) % n) = m at *
  generalize V rows t i = v at *
  generalize rst (V rows) rows.length i = w at *
  generalize mk n (fM (V rows) rows.length s n t i) = L at *
  generalize mk n (rst (V rows) rows.length) = R at *
  generalize (i + n - t * s) % n = a at *
  have h6 : -1200000 ≤ (rows.length : Int) * v ∧ (rows.length : Int) * v ≤ 1200000 := by
    obtain ⟨a, b⟩ := h3
    have hk0 : (0 : Int) ≤ (rows.length : Int) := by omega
    have e1 : (rows.length : Int) * v ≤ (rows.length : Int) * 100000 := Int.mul_le_mul_of_nonneg_left b hk0
    have e2 : (rows.length : Int) * (-100000) ≤ (rows.length : Int) * v := Int.mul_le_mul_of_nonneg_left a hk0
    omega
  have ew0 : IntKind.i64.wrap ((s : Nat) : Int) = (s : Nat) := wrapI (by omega) (by omega)
  have ew1 : IntKind.i64.wrap ((rows.length : Int) * v) = (rows.length : Int) * v := wrapI (by omega) (by omega)
  have ew2 : IntKind.i64.wrap ((rows.length : Int) * v - w) = (rows.length : Int) * v - w := wrapI (by omega) (by omega)
  have ew3 : IntKind.i64.wrap (m + ((rows.length : Int) * v - w)) = m + ((rows.length : Int) * v - w) := wrapI (by omega) (by omega)
  have ew4 : IntKind.i64.wrap ((t * s : Nat) : Int) = ((t * s : Nat) : Int) := wrapI (by omega) (by omega)
  have ew5 : IntKind.i64.wrap ((i : Int) + (n : Int)) = (i : Int) + (n : Int) := wrapI (by omega) (by omega)
  have ew6 : IntKind.i64.wrap ((i : Int) + (n : Int) - ((t * s : Nat) : Int)) = (i : Int) + (n : Int) - ((t * s : Nat) : Int) := wrapI (by omega) (by omega)
  repeat' (first
    | ((with_reducible refine T_calm ?_ ?_); rfl)
    | with_reducible first
      | refine T_seq ?_
      | refine T_reg ?_
      | refine T_draw ?_
      | refine T_skip ?_
      | refine T_exit ?_
      | refine T_block ?_
      | refine T_cond_t rfl ?_
      | refine T_cond_f rfl ?_
      | refine wdW_cons rfl ?_
      | ((first | refine T_cond rfl (fun hc => ?_) (fun hc => ?_) | refine wguard_split (fun hc => ?_) (fun hc => ?_) | refine wguardX_split (fun hc => ?_) (fun hc => ?_)) <;> have hd := hc <;> (try simp (disch := omega) only [wrapI] at hd) <;> have hs := hd <;> (try simp only [decide_eq_true_eq, decide_eq_false_iff_not, Int.not_lt] at hd) <;> (try simp at hs))
      | refine T_ret ?_
      | refine leave_of (.inr rfl) _ rfl ?_
      | refine leave_of (.inl rfl) _ rfl ?_
      | refine leaveA_of (.inr rfl) _ rfl ?_
      | refine leaveA_of (.inl rfl) _ rfl ?_
      | refine wif_intro ?_ (fun hc => ?_)
      | refine And.intro ?_ ?_
      | intro hc
    | simp (maxSteps := 4000000) only [wops_nil, wops_cons, wstep_none, wrun_mv, wrun_bin, wrun_load, wrun_store, wrun_iaddrS, wrunX_mv, wrunX_bin, wrunX_load, wrunX_store, wrunX_iaddrS, wdW_nil, wstepX_none, wop, aop, ev, look, put_some, put_none, writes, ores_some, ores_ite_none, ores_none_ite, ores_map, binV, thenK, blockK, value, cut, hget, putCells, AV.parts, isOne, toLits, mkAgg, List.length_cons, List.length_nil, List.getElem?_cons_zero, List.getElem?_cons_succ, List.set_cons_zero, List.set_cons_succ, List.take_succ_cons, List.take_zero, List.take_nil, List.drop_succ_cons, List.drop_zero, List.drop_nil, List.nil_append, List.append_nil, List.replicate_zero, List.all_cons, List.all_nil, List.length_map, Option.getD_some, Option.map_some, if_true, if_false, Nat.reduceEqDiff, Nat.reduceAdd, Nat.zero_add, Nat.le_refl, reduceCtorEq, Bool.and_true, Bool.false_eq_true, eq_self, true_and, and_true, and_self, decide_true, List.all_cons, Int.toNat_natCast, set_ints, *]
    | simp (disch := omega) only [wrapI]
    | omega)
  all_goals first | (simp [St.only, get_mk, look]; done)
set_option maxHeartbeats 8000000 in
theorem k86l3 (hk : 1 ≤ rows.length ∧ rows.length ≤ 12) (hn : rows.length * s = n) (hn2 : 1 ≤ n ∧ n ≤ 24)
    (hr : ∀ t, t < rows.length → (rowN rows t).2.length = n) (hb : ∀ t i, t < rows.length → i < n → -100000 ≤ V rows t i ∧ V rows t i ≤ 100000) (K : Exit → St → Prop) (t : Nat) (ht : t < rows.length) :
    T none Try.prog muts 91 0 c86l3 (S86d n s nil rows t) (thenK (fun s' => (t < rows.length ∧ True) ∧ s'.only [1, 2, 3, 4, 5, 48, 49, 50] = S86d n s nil rows (t + 1)) K) := by
  have h1 := rws_get ht
  have hl : (rows.map fun r => [ints r.1 r.2]).length = rows.length := by simp
  have h2 := hr t ht
  have hl0 := fun K i hi => k86l2 (nil := nil) hk hn hn2 hr hb K t ht i hi
  have e0 := fM_zero (V rows) rows.length s n t
  have e1 := fM_full (V rows) rows.length s n t
  replace hl0 := And.intro hl0 trivial
  clear hr hb
  unfold c86l3 S86d
  repeat' (first
    | ((with_reducible refine T_calm ?_ ?_); rfl)
    | with_reducible first
      | refine T_seq ?_
      | refine T_reg ?_
      | refine T_draw ?_
      | refine T_skip ?_
      | refine T_exit ?_
      | refine T_block ?_
      | refine T_cond_t rfl ?_
      | refine T_cond_f rfl ?_
      | refine wdW_cons rfl ?_
      | ((first | refine T_cond rfl (fun hc => ?_) (fun hc => ?_) | refine wguard_split (fun hc => ?_) (fun hc => ?_) | refine wguardX_split (fun hc => ?_) (fun hc => ?_)) <;> have hd := hc <;> (try simp (disch := omega) only [wrapI] at hd) <;> have hs := hd <;> (try simp only [decide_eq_true_eq, decide_eq_false_iff_not, Int.not_lt] at hd) <;> (try simp at hs))
      | refine T_ret ?_
      | refine leave_of (.inr rfl) _ rfl ?_
      | refine leave_of (.inl rfl) _ rfl ?_
      | refine leaveA_of (.inr rfl) _ rfl ?_
      | refine leaveA_of (.inl rfl) _ rfl ?_
      | refine wif_intro ?_ (fun hc => ?_)
      | refine And.intro ?_ ?_
      | intro hc
    | simp (maxSteps := 4000000) only [wops_nil, wops_cons, wstep_none, wrun_mv, wrun_bin, wrun_load, wrun_iaddrS, wrun_len, wop, aop, ev, look, put_some, writes, ores_some, ores_ite_none, ores_map, ores_bind, binV, thenK, intV, lenOf, value, cut, hget, mkAgg, List.length_cons, List.length_nil, List.take_succ_cons, List.take_nil, List.drop_zero, List.append_nil, List.replicate_zero, List.length_map, Option.pure_def, Option.bind_eq_bind, Option.map_some, if_true, if_false, Nat.reduceEqDiff, Nat.reduceAdd, Nat.zero_add, reduceCtorEq, Bool.false_eq_true, eq_self, true_and, and_true, and_self, decide_true, Int.toNat_natCast, *]
    | simp (disch := omega) only [getD_ints, wrapI]
    | omega)
  refine T_for [1, 2, 3, 4, 5, 10, 48, 49, 50, 55, 56, 57] (S86c n s nil rows t) n (fun _ => True) 0 ?_ trivial (Nat.zero_le _) ?_
  · unfold S86c; rw [e0]; simp [St.only, get_mk, look]
  intro i hi _
  by_cases hin : i < n
  · exact hl0.1 _ i hin
  · have hie : i = n := by omega
    subst hie
    clear hl0
    unfold c86l2 S86c
    rw [e1]
    repeat' (first
      | ((with_reducible refine T_calm ?_ ?_); rfl)
      | with_reducible first
        | refine T_seq ?_
        | refine T_reg ?_
        | refine T_draw ?_
        | refine T_skip ?_
        | refine T_exit ?_
        | refine T_block ?_
        | refine T_cond_t rfl ?_
        | refine T_cond_f rfl ?_
        | refine wdW_cons rfl ?_
        | ((first | refine T_cond rfl (fun hc => ?_) (fun hc => ?_) | refine wguard_split (fun hc => ?_) (fun hc => ?_) | refine wguardX_split (fun hc => ?_) (fun hc => ?_)) <;> have hd := hc <;> (try simp (disch := omega) only [wrapI] at hd) <;> have hs := hd <;> (try simp only [decide_eq_true_eq, decide_eq_false_iff_not, Int.not_lt] at hd) <;> (try simp at hs))
        | refine T_ret ?_
        | refine leave_of (.inr rfl) _ rfl ?_
        | refine leave_of (.inl rfl) _ rfl ?_
        | refine leaveA_of (.inr rfl) _ rfl ?_
        | refine leaveA_of (.inl rfl) _ rfl ?_
        | refine wif_intro ?_ (fun hc => ?_)
        | refine And.intro ?_ ?_
        | intro hc
      | simp (maxSteps := 4000000) only [wops_nil, wops_cons, wstep_none, wrun_mv, wrun_bin, wop, aop, ev, look, put_some, writes, ores_some, binV, thenK, blockK, List.length_cons, List.length_nil, List.append_nil, List.replicate_zero, Option.map_some, if_true, if_false, Nat.reduceEqDiff, Nat.reduceAdd, Nat.zero_add, reduceCtorEq, eq_self, and_true, false_and, Int.toNat_natCast, *]
      | simp (disch := omega) only [wrapI]
      | omega)
    all_goals first | (simp [St.only, get_mk, look]; done)
set_option maxHeartbeats 8000000 in
theorem k86 (hk : 1 ≤ rows.length ∧ rows.length ≤ 12) (hn : rows.length * s = n) (hn2 : 1 ≤ n ∧ n ≤ 24)
    (hr : ∀ t, t < rows.length → (rowN rows t).2.length = n) (hb : ∀ t i, t < rows.length → i < n → -100000 ≤ V rows t i ∧ V rows t i ≤ 100000) :
    Fn Try.prog 86 [tmV n nil rows] (.tup [.lsl 0 0 n, .lsl 1 0 n]) [iB (mk n (rst (V rows) rows.length)), iB (mk n (mir (V rows) rows.length s n))] := by
  refine fn_of e86 ?_
  have hl0 := fun K t ht => k86l1 (nil := nil) hk hn2 hr hb K t ht
  have hl1 := fun K t ht => k86l3 (nil := nil) hk hn hn2 hr hb K t ht
  have hl : (rows.map fun r => [ints r.1 r.2]).length = rows.length := by simp
  have e1 : mk n (rst (V rows) 0) = mk n fun _ => 0 := rfl
  have e2 : mk n (mirp (V rows) rows.length s n 0) = mk n fun _ => 0 := rfl
  have e3 : mk n (mirp (V rows) rows.length s n rows.length) = mk n (mir (V rows) rows.length s n) := rfl
  have l1 := mk_len n (rst (V rows) rows.length)
  have l2 := mk_len n (mir (V rows) rows.length s n)
  replace hl0 := And.intro hl0 trivial
  replace hl1 := And.intro hl1 trivial
  clear hr hb
  unfold c86
  repeat' (first
    | ((with_reducible refine T_calm ?_ ?_); rfl)
    | with_reducible first
      | refine T_seq ?_
      | refine T_reg ?_
      | refine T_draw ?_
      | refine T_skip ?_
      | refine T_exit ?_
      | refine T_block ?_
      | refine T_cond_t rfl ?_
      | refine T_cond_f rfl ?_
      | refine wdW_cons rfl ?_
      | ((first | refine T_cond rfl (fun hc => ?_) (fun hc => ?_) | refine wguard_split (fun hc => ?_) (fun hc => ?_) | refine wguardX_split (fun hc => ?_) (fun hc => ?_)) <;> have hd := hc <;> (try simp (disch := omega) only [wrapI] at hd) <;> have hs := hd <;> (try simp only [Bool.not_eq_true', Bool.not_eq_false', Bool.and_eq_true, Bool.and_eq_false_iff, Bool.or_eq_true, Bool.or_eq_false_iff, decide_eq_true_eq, decide_eq_false_iff_not, beq_iff_eq, bne_iff_ne, beq_eq_false_iff_ne, bne_eq_false_iff_eq, Bool.not_true, Bool.not_false, gt_iff_lt, ge_iff_le, Int.not_lt, Int.not_le, ne_eq, Decidable.not_not] at hd) <;> (try simp at hs))
      | refine T_ret ?_
      | refine leave_of (.inr rfl) _ rfl ?_
      | refine leave_of (.inl rfl) _ rfl ?_
      | refine leaveA_of (.inr rfl) _ rfl ?_
      | refine leaveA_of (.inl rfl) _ rfl ?_
      | refine wif_intro ?_ (fun hc => ?_)
      | refine And.intro ?_ ?_
      | intro hc
    | simp (maxSteps := 4000000) only [wops_nil, wops_cons, wstep_none, wrun_mv, wrun_load, wrun_faddr, wrun_len, wrun_box, wrun_mks, wrunX_mv, wrunX_mks, wdW_nil, wstepX_none, wop, aop, ev, look, put_some, writes, ores_some, ores_ite_none, ores_map, ores_bind, thenK, intV, lenOf, value, cut, hget, AV.parts, isOne, mkAgg, List.map_cons, List.map_nil, List.length_cons, List.length_nil, List.getElem?_cons_zero, List.getElem?_cons_succ, List.set_cons_zero, List.set_cons_succ, List.take_succ_cons, List.take_zero, List.take_nil, List.drop_succ_cons, List.drop_zero, List.cons_append, List.nil_append, List.append_nil, List.replicate_zero, List.replicate_succ, List.getD_cons_zero, List.zipIdx_cons, List.zipIdx_nil, List.all_cons, List.all_nil, Option.pure_def, Option.bind_eq_bind, Option.getD_some, Option.map_some, if_true, if_false, Nat.reduceEqDiff, Nat.reduceAdd, Nat.add_zero, Nat.zero_add, Nat.zero_ne_one, reduceCtorEq, Bool.and_true, Bool.false_eq_true, eq_self, true_and, and_self, List.all_cons, Int.toNat_natCast, mk_rep, *]
    | simp (disch := omega) only [getD_ints, wrapI]
    | omega)
  refine T_for [1, 2, 3, 4, 5, 25, 26, 27] (S86b n nil rows) rows.length (fun _ => True) 0 ?_ trivial (Nat.zero_le _) ?_
  · unfold S86b; rw [e1]; simp [St.only, get_mk, look]
  intro t ht _
  by_cases htn : t < rows.length
  · exact hl0.1 _ t htn
  · have hte : t = rows.length := by omega
    subst hte
    clear hl0
    unfold c86l1 S86b
    repeat' (first
      | ((with_reducible refine T_calm ?_ ?_); rfl)
      | with_reducible first
        | refine T_seq ?_
        | refine T_reg ?_
        | refine T_draw ?_
        | refine T_skip ?_
        | refine T_exit ?_
        | refine T_block ?_
        | refine T_cond_t rfl ?_
        | refine T_cond_f rfl ?_
        | refine wdW_cons rfl ?_
        | ((first | refine T_cond rfl (fun hc => ?_) (fun hc => ?_) | refine wguard_split (fun hc => ?_) (fun hc => ?_) | refine wguardX_split (fun hc => ?_) (fun hc => ?_)) <;> have hd := hc <;> (try simp (disch := omega) only [wrapI] at hd) <;> have hs := hd <;> (try simp only [decide_eq_true_eq, decide_eq_false_iff_not, Int.not_lt] at hd) <;> (try simp at hs))
        | refine T_ret ?_
        | refine leave_of (.inr rfl) _ rfl ?_
        | refine leave_of (.inl rfl) _ rfl ?_
        | refine leaveA_of (.inr rfl) _ rfl ?_
        | refine leaveA_of (.inl rfl) _ rfl ?_
        | refine wif_intro ?_ (fun hc => ?_)
        | refine And.intro ?_ ?_
        | intro hc
      | simp (maxSteps := 4000000) only [wops_nil, wops_cons, wstep_none, wrun_mv, wrun_bin, wrun_load, wrun_faddr, wrun_len, wop, aop, ev, look, put_some, writes, ores_some, ores_map, ores_bind, binV, thenK, blockK, intV, lenOf, value, cut, hget, mkAgg, List.length_cons, List.length_nil, List.getElem?_cons_zero, List.take_succ_cons, List.take_nil, List.drop_succ_cons, List.drop_zero, List.append_nil, List.replicate_zero, List.getD_cons_zero, Option.pure_def, Option.bind_eq_bind, Option.getD_some, Option.map_some, if_true, if_false, Nat.reduceEqDiff, Nat.reduceAdd, Nat.zero_add, reduceCtorEq, Bool.false_eq_true, eq_self, and_true, false_and, Int.toNat_natCast, *]
      | simp (disch := omega) only [getD_ints, wrapI]
      | omega)
    refine T_for [1, 2, 3, 4, 5, 48, 49, 50] (S86d n s nil rows) rows.length (fun _ => True) 0 ?_ trivial (Nat.zero_le _) ?_
    · unfold S86d; rw [e2]; simp [St.only, get_mk, look]
    intro t ht _
    by_cases htn : t < rows.length
    · exact hl1.1 _ t htn
    · have hte : t = rows.length := by omega
      subst hte
      clear hl1
      unfold c86l3 S86d
      rw [e3]
      repeat' (first
        | ((with_reducible refine T_calm ?_ ?_); rfl)
        | with_reducible first
          | refine T_seq ?_
          | refine T_reg ?_
          | refine T_draw ?_
          | refine T_skip ?_
          | refine T_exit ?_
          | refine T_block ?_
          | refine T_cond_t rfl ?_
          | refine T_cond_f rfl ?_
          | refine wdW_cons rfl ?_
          | ((first | refine T_cond rfl (fun hc => ?_) (fun hc => ?_) | refine wguard_split (fun hc => ?_) (fun hc => ?_) | refine wguardX_split (fun hc => ?_) (fun hc => ?_)) <;> have hd := hc <;> (try simp (disch := omega) only [wrapI] at hd) <;> have hs := hd <;> (try simp only [Bool.not_eq_true', Bool.not_eq_false', Bool.and_eq_true, Bool.and_eq_false_iff, Bool.or_eq_true, Bool.or_eq_false_iff, decide_eq_true_eq, decide_eq_false_iff_not, beq_iff_eq, bne_iff_ne, beq_eq_false_iff_ne, bne_eq_false_iff_eq, Bool.not_true, Bool.not_false, gt_iff_lt, ge_iff_le, Int.not_lt, Int.not_le, ne_eq, Decidable.not_not] at hd) <;> (try simp at hs))
          | refine T_ret ?_
          | refine leave_ids (.inr rfl) _ [1, 2] rfl (by simp) (by simp) ?_
          | refine leave_ids (.inl rfl) _ [1, 2] rfl (by simp) (by simp) ?_
          | refine leaveA_of (.inr rfl) _ rfl ?_
          | refine leaveA_of (.inl rfl) _ rfl ?_
          | refine wif_intro ?_ (fun hc => ?_)
          | refine And.intro ?_ ?_
          | intro hc
        | simp (maxSteps := 4000000) only [wops_nil, wops_cons, wstep_none, wrun_mv, wrun_bin, get_mk, wop, aop, ev, look, put_some, writes, ores_some, binV, thenK, blockK, hget, tupOf, List.map_cons, List.map_nil, List.length_cons, List.length_nil, List.getElem?_cons_zero, List.getElem?_cons_succ, List.append_nil, List.replicate_zero, Option.getD_some, Option.map_some, Option.map_none, if_true, if_false, Nat.reduceEqDiff, Nat.reduceAdd, Nat.zero_add, reduceCtorEq, eq_self, and_true, false_and, ren, renL, renB, renO, keepρ, pos, Nat.not_lt_zero, renR_ints, Int.toNat_natCast, renR_ints, *]
        | simp (disch := omega) only [getD_ints, wrapI]
        | omega)
      all_goals first | rfl | (simp [St.only, get_mk, look]; done)
end
end Go.Abs
