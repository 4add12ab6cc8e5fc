import Derived.Test.YtodheeifecoebaaK221x
set_option linter.all false
set_option linter.unusedVariables false
set_option linter.unusedSimpArgs false
set_option linter.unusedSectionVars false
namespace Go.Abs
open Go.Proofs
/-! Misfit of both sides -/
def mxA (w x : Int) : Int := if (x.natAbs : Int) > w then x.natAbs else w
def mxI (f : Nat → Int) (w : Int) : Nat → Int
  | 0 => w
  | i + 1 => mxA (mxI f w i) (f i)
def mxO (f : Nat → Nat → Int) (n : Nat) : Nat → Int
  | 0 => 0
  | t + 1 => mxI (f t) (mxO f n t) n
theorem mxI_bd {f : Nat → Int} {B w : Int} (hw : 0 ≤ w ∧ w ≤ B) : ∀ i, (∀ j, j < i → -B ≤ f j ∧ f j ≤ B) → 0 ≤ mxI f w i ∧ mxI f w i ≤ B
  | 0, _ => hw
  | i + 1, h => by
    have h1 := mxI_bd hw i fun j hj => h j (by omega)
    have h2 := h i (by omega)
    unfold mxI mxA
    split <;> omega
theorem mxO_bd {f : Nat → Nat → Int} {n : Nat} {B : Int} (hB : 0 ≤ B) : ∀ t, (∀ u j, u < t → j < n → -B ≤ f u j ∧ f u j ≤ B) → 0 ≤ mxO f n t ∧ mxO f n t ≤ B
  | 0, _ => ⟨Int.le_refl _, hB⟩
  | t + 1, h => by
    have h1 := mxO_bd hB t fun u j hu hj => h u j (by omega) hj
    exact mxI_bd h1 n fun j hj => h t j (by omega) hj
/-- what is over at one value -/
def mf (V : Nat → Nat → Int) (k s n t i : Nat) : Int := (k : Int) * k * V t i - mir V k s n ((i + n - t * s) % n) - k * rst V k i
theorem kv_bd {k v B : Int} (hk : 0 ≤ k ∧ k ≤ 12) (hv : -B ≤ v ∧ v ≤ B) (hB : 0 ≤ B) : -(12 * B) ≤ k * v ∧ k * v ≤ 12 * B := by
  have e1 : k * v ≤ k * B := Int.mul_le_mul_of_nonneg_left hv.2 hk.1
  have e2 : k * (-B) ≤ k * v := Int.mul_le_mul_of_nonneg_left hv.1 hk.1
  have e3 : k * B ≤ 12 * B := Int.mul_le_mul_of_nonneg_right hk.2 hB
  have e4 : k * (-B) = -(k * B) := Int.mul_neg ..
  omega
theorem max3 (w x : Int) : (if (if w < x then x else w) < -x then -x else (if w < x then x else w)) = mxA w x := by
  unfold mxA
  split <;> split <;> split <;> omega
section
variable {n s : Nat} {nil : Bool} {rows : List (Bool × List Int)}
theorem mf_bd (h : TmOk n s rows) {t i : Nat} (ht : t < rows.length) (hi : i < n) : -100000000 ≤ mf (V rows) rows.length s n t i ∧ mf (V rows) rows.length s n t i ≤ 100000000 := by
  obtain ⟨hk, hn, hn2, hr, hb⟩ := h
  have h1 := mirp_bd (V := V rows) (k := rows.length) (s := s) (n := n) (j := (i + n - t * s) % n) (u := rows.length) (by omega) hk.2 (Nat.le_refl _) hb
  have e1 : ∀ j, mirp (V rows) rows.length s n rows.length j = mir (V rows) rows.length s n j := fun _ => rfl
  rw [e1] at h1
  have h2 := rst_bd (V := V rows) (B := 100000) (k := rows.length) (i := i) (fun u hu => hb u i hu hi)
  have h3 := kv_bd (k := rows.length) (v := rst (V rows) rows.length i) (B := 1200000) (by omega) (by omega) (by omega)
  have h4 := kv_bd (k := rows.length) (v := V rows t i) (B := 100000) (by omega) (hb t i ht hi) (by omega)
  have h5 := kv_bd (k := rows.length) (v := (rows.length : Int) * V rows t i) (B := 1200000) (by omega) (by omega) (by omega)
  unfold mf
  rw [Int.mul_assoc]
  omega
def S22i (n s : Nat) (nil : Bool) (rows : List (Bool × List Int)) (t i : Nat) : St := ⟨[(1, .loc 0 0 0), (2, .loc 1 0 0), (5, .lsl 2 0 n), (6, .lsl 3 0 n), (7, i64 n), (8, i64 rows.length), (9, i64 (mxI (mf (V rows) rows.length s n t) (mxO (mf (V rows) rows.length s n) n t) i)), (10, i64 t), (32, .sl nil 1 (rows.map fun r => [ints r.1 r.2])), (33, i64 rows.length), (34, i64 t), (39, ints (rowN rows t).1 (rowN rows t).2), (40, i64 n), (41, i64 i)], [pB n nil rows, .cells true false 2 [[i64 0, i64 0]], iB (mk n (rst (V rows) rows.length)), iB (mk n (mir (V rows) rows.length s n))]⟩
def S22o (n s : Nat) (nil : Bool) (rows : List (Bool × List Int)) (t : Nat) : St := ⟨[(1, .loc 0 0 0), (2, .loc 1 0 0), (5, .lsl 2 0 n), (6, .lsl 3 0 n), (7, i64 n), (8, i64 rows.length), (9, i64 (mxO (mf (V rows) rows.length s n) n t)), (32, .sl nil 1 (rows.map fun r => [ints r.1 r.2])), (33, i64 rows.length), (34, i64 t)], [pB n nil rows, .cells true false 2 [[i64 0, i64 0]], iB (mk n (rst (V rows) rows.length)), iB (mk n (mir (V rows) rows.length s n))]⟩
set_option maxHeartbeats 8000000 in
theorem k22l0 (h : TmOk n s rows) (K : Exit → St → Prop) (t : Nat) (ht : t < rows.length) (i : Nat) (hi : i < n) :
    T none Try.prog muts 85 0 c22l0 (S22i n s nil rows t i) (thenK (fun s' => (i < n ∧ True) ∧ s'.only [1, 2, 5, 6, 7, 8, 9, 10, 32, 33, 34, 39, 40, 41] = S22i n s nil rows t (i + 1)) K) := by
  have hmf := fun j (hj : j < n) => mf_bd h ht hj
  have hmo := mxO_bd (f := mf (V rows) rows.length s n) (n := n) (B := 100000000) (by omega) t fun u j hu hj => mf_bd h (by omega) hj
  have hmi := mxI_bd (f := mf (V rows) rows.length s n t) (w := mxO (mf (V rows) rows.length s n) n t) (B := 100000000) (by omega) i fun j hj => hmf j (by omega)
  have hmx := hmf i hi
  obtain ⟨hk, hn, hn2, hr, hb⟩ := h
  have hts : t * s ≤ n := by have := Nat.mul_le_mul_right s (Nat.le_of_lt ht); omega
  have hs24 : s ≤ 24 := by
    rcases Nat.lt_or_ge 24 s with h | h
    · have := Nat.mul_le_mul hk.1 (Nat.succ_le_of_lt h); omega
    · exact h
  have hq : ((n : Nat) : Int).tdiv ((rows.length : Nat) : Int) = (s : Nat) := by
    rw [← hn, Int.natCast_mul]; exact Int.mul_tdiv_cancel_left _ (by omega)
  have ets : (t : Int) * (s : Int) = ((t * s : Nat) : Int) := by rw [Int.natCast_mul]
  have hat : (i + n - t * s) % n < n := Nat.mod_lt _ (by omega)
  have emod : ((i : Int) + (n : Int) - ((t * s : Nat) : Int)).tmod (n : Int) = (((i + n - t * s) % n : Nat) : Int) := by
    rw [show (i : Int) + (n : Int) - ((t * s : Nat) : Int) = ((i + n - t * s : Nat) : Int) by omega]; exact (Int.ofNat_tmod _ _).symm
  have h2 := hr t ht
  have g1 : ((rowN rows t).2.map fun x => [i64 x]).getD i [] = [i64 (V rows t i)] := getD_ints (by omega)
  have g2 : ((mk n (mir (V rows) rows.length s n)).map fun x => [i64 x]).getD ((i + n - t * s) % n) [] = [i64 (mir (V rows) rows.length s n ((i + n - t * s) % n))] := by rw [getD_ints (by rw [mk_len]; exact hat), mk_get hat]
  have g3 : ((mk n (rst (V rows) rows.length)).map fun x => [i64 x]).getD i [] = [i64 (rst (V rows) rows.length i)] := by rw [getD_ints (by rw [mk_len]; exact hi), mk_get hi]
  have hl := mk_len n (mir (V rows) rows.length s n)
  have hl2 := mk_len n (rst (V rows) rows.length)
  have b1 := mirp_bd (V := V rows) (k := rows.length) (s := s) (n := n) (j := (i + n - t * s) % n) (u := rows.length) (by omega) hk.2 (Nat.le_refl _) hb
  have e1 : ∀ j, mirp (V rows) rows.length s n rows.length j = mir (V rows) rows.length s n j := fun _ => rfl
  rw [e1] at b1
  have b2 := rst_bd (V := V rows) (B := 100000) (k := rows.length) (i := i) (fun u hu => hb u i hu hi)
  have b0 := hb t i ht hi
  have e : mxI (mf (V rows) rows.length s n t) (mxO (mf (V rows) rows.length s n) n t) (i + 1) = mxA (mxI (mf (V rows) rows.length s n t) (mxO (mf (V rows) rows.length s n) n t) i) (mf (V rows) rows.length s n t i) := rfl
  have ef : mf (V rows) rows.length s n t i = (rows.length : Int) * rows.length * V rows t i - mir (V rows) rows.length s n ((i + n - t * s) % n) - rows.length * rst (V rows) rows.length i := rfl
  unfold c22l0 S22i
  rw [e]
  clear hr hb hmf hmo e e1
  generalize mxI (mf (V rows) rows.length s n t) (mxO (mf (V rows) rows.length s n) n t) i = w at *
  generalize mf (V rows) rows.length s n t i = x at *
  generalize mir (V rows) rows.length s n ((i + n - t * s) % n) = m at *
  generalize V rows t i = v at *
  generalize rst (V rows) rows.length i = r at *
  generalize mk n (mir (V rows) rows.length s n) = M at *
  generalize mk n (rst (V rows) rows.length) = R at *
  generalize (i + n - t * s) % n = a at *
  have hkk : 1 ≤ (rows.length : Int) * (rows.length : Int) ∧ (rows.length : Int) * (rows.length : Int) ≤ 144 := by
    have h1 := Nat.mul_le_mul hk.1 hk.1
    have h2 := Nat.mul_le_mul hk.2 hk.2
    rw [← Int.natCast_mul]; omega
  have b4 := kv_bd (k := rows.length) (v := r) (B := 1200000) (by omega) (by omega) (by omega)
  have b5 : -14400000 ≤ (rows.length : Int) * rows.length * v ∧ (rows.length : Int) * rows.length * v ≤ 14400000 := by
    have h1 := kv_bd (k := rows.length) (v := v) (B := 100000) (by omega) b0 (by omega)
    have h2 := kv_bd (k := rows.length) (v := (rows.length : Int) * v) (B := 1200000) (by omega) (by omega) (by omega)
    rw [Int.mul_assoc]; omega
  have ew0 : IntKind.i64.wrap ((s : Nat) : Int) = (s : Nat) := wrapI (by omega) (by omega)
  have ew1 : IntKind.i64.wrap ((rows.length : Int) * rows.length) = (rows.length : Int) * rows.length := wrapI (by omega) (by omega)
  have ew2 : IntKind.i64.wrap ((rows.length : Int) * rows.length * v) = (rows.length : Int) * rows.length * v := wrapI (by omega) (by omega)
  have ew3 : IntKind.i64.wrap ((rows.length : Int) * rows.length * v - m) = (rows.length : Int) * rows.length * v - m := wrapI (by omega) (by omega)
  have ew4 : IntKind.i64.wrap ((t * s : Nat) : Int) = ((t * s : Nat) : Int) := wrapI (by omega) (by omega)
  have ew5 : IntKind.i64.wrap ((i : Int) + (n : Int)) = (i : Int) + (n : Int) := wrapI (by omega) (by omega)
  have ew6 : IntKind.i64.wrap ((i : Int) + (n : Int) - ((t * s : Nat) : Int)) = (i : Int) + (n : Int) - ((t * s : Nat) : Int) := wrapI (by omega) (by omega)
  have ew7 : IntKind.i64.wrap ((rows.length : Int) * r) = (rows.length : Int) * r := wrapI (by omega) (by omega)
  have ew8 : IntKind.i64.wrap ((rows.length : Int) * rows.length * v - m - rows.length * r) = x := by rw [← ef]; exact wrapI (by omega) (by omega)
  have ew9 : IntKind.i64.wrap (-x) = -x := wrapI (by omega) (by omega)
  have e0 : 0 - x = -x := by omega
  have hm3 := max3 w x
  clear ef
  repeat' (first
    | ((with_reducible refine T_calm ?_ ?_); rfl)
    | with_reducible first
      | refine T_seq ?_
      | refine T_reg ?_
      | refine T_draw ?_
      | refine T_skip ?_
      | refine T_exit ?_
      | refine T_block ?_
      | refine T_cond_t rfl ?_
      | refine T_cond_f rfl ?_
      | refine wdW_cons rfl ?_
      | ((first | refine T_cond rfl (fun hc => ?_) (fun hc => ?_) | refine wguard_split (fun hc => ?_) (fun hc => ?_) | refine wguardX_split (fun hc => ?_) (fun hc => ?_)) <;> have hd := hc <;> (try simp (disch := omega) only [wrapI] at hd) <;> have hs := hd <;> (try simp only [decide_eq_true_eq, decide_eq_false_iff_not, Int.not_lt] at hd) <;> (try simp at hs))
      | refine T_ret ?_
      | refine leave_of (.inr rfl) _ rfl ?_
      | refine leave_of (.inl rfl) _ rfl ?_
      | refine leaveA_of (.inr rfl) _ rfl ?_
      | refine leaveA_of (.inl rfl) _ rfl ?_
      | refine wif_intro ?_ (fun hc => ?_)
      | refine And.intro ?_ ?_
      | intro hc
    | simp (maxSteps := 4000000) only [wops_nil, wops_cons, wstep_none, wrun_mv, wrun_bin, wrun_neg, wrun_load, wrun_iaddrS, wrun_minmax, wop, aop, ev, look, put_some, writes, ores_some, ores_ite_none, ores_none_ite, ores_map, binV, thenK, blockK, value, cut, hget, mkAgg, List.map_cons, List.map_nil, List.length_cons, List.length_nil, List.getElem?_cons_zero, List.getElem?_cons_succ, List.take_succ_cons, List.take_nil, List.drop_zero, List.append_nil, List.replicate_zero, List.length_map, Option.getD_some, Option.map_some, if_true, if_false, Nat.reduceEqDiff, Nat.reduceAdd, Nat.zero_add, reduceCtorEq, Bool.false_eq_true, eq_self, true_and, and_true, and_self, decide_true, Int.toNat_natCast, *]
    | simp (disch := omega) only [wrapI]
    | omega)
  all_goals first | (simp [St.only, get_mk, look]; done)
end
end Go.Abs
