import Derived.Test.YtodheeifecoebaaGreatDoorPCmin
import Derived.Test.YtodheeifecoebaaGreatDoorK90
import Derived.Test.YtodheeifecoebaaGreatDoorK91x
set_option linter.all false
set_option linter.unusedVariables false
set_option linter.unusedSimpArgs false
set_option linter.unusedSectionVars false
namespace Go.Abs
open Go.Proofs
theorem Bd.le {z : Nat} {M : List (List Int)} (h : Bd z M) (hs : Sq z M) : ∀ a b, a < z → b < z → -1000000000000 ≤ mget (toR M) a b ∧ mget (toR M) a b ≤ 1000000000000 := fun a b ha hb => by
  have hfar : far = 1099511627776 := rfl
  have hF : FAR = 1000000000000 := rfl
  rw [toR_get hs ha hb]
  have := h a b ha hb
  unfold rv
  split <;> omega
set_option maxHeartbeats 8000000 in
theorem k29l4 {A : List Ar} {z k : Nat} {M : List (List Int)} (hz : z ≤ 40) (hk : k < z) (hA : okAr A z) (hS : Stt A z k M) (K : Exit → St → Prop) (i : Nat) (hi : i < z) (H : List Blk) (hH : IsQ z (toR (fwI z k M i)) H) :
    T none Tryz.prog muts 174 0 c29l4 ⟨[(0, i64 z), (6, .lsl 0 0 z), (11, i64 k), (12, i64 i)], H⟩ (thenK (fun s' => i < z ∧ IsQ z (toR (fwI z k M (i + 1))) s'.heap ∧ (s'.only [0, 6, 11, 12]).slots = [(0, i64 z), (6, .lsl 0 0 z), (11, i64 k), (12, i64 ((i + 1 : Nat) : Int))]) K) := by
  have e : fwI z k M (i + 1) = fwJ k i (fwI z k M i) z := rfl
  rw [e]
  have hmid := fun j (hj : j ≤ z) => hS.mid hA hk hz hi hj
  replace hmid := And.intro hmid trivial
  have hH0 : id (IsQ z (toR (fwI z k M i)) H) := hH
  clear hH hS hA
  unfold c29l4
  repeat' (first | ((with_reducible refine T_calm ?_ ?_); rfl) | (with_reducible first | refine T_seq ?_ | refine T_reg ?_ | refine T_draw ?_ | refine T_skip ?_ | refine T_exit ?_ | refine T_block ?_ | refine T_cond_t rfl ?_ | refine T_cond_f rfl ?_ | refine wdW_cons rfl ?_ | ((first | refine T_cond rfl (fun hc => ?_) (fun hc => ?_) | refine wguard_split (fun hc => ?_) (fun hc => ?_) | refine wguardX_split (fun hc => ?_) (fun hc => ?_)) <;> have hd := hc <;> (try simp (disch := omega) only [wrapI] at hd) <;> have hs := hd <;> (try simp only [decide_eq_true_eq, decide_eq_false_iff_not, Int.not_lt] at hd) <;> (try simp at hs)) | refine T_ret ?_ | refine leave_of (.inr rfl) _ rfl ?_ | refine leave_of (.inl rfl) _ rfl ?_ | refine wif_intro ?_ (fun hc => ?_) | refine And.intro ?_ ?_ | intro hc) | simp (maxSteps := 4000000) only [wops_nil, wops_cons, wstep_none, wrun_mv, wrun_bin, wop, aop, ev, look, put_some, writes, ores_some, binV, thenK, List.append_nil, List.replicate_zero, Option.map_some, if_true, if_false, Nat.reduceEqDiff, reduceCtorEq, eq_self, true_and, decide_true, *] | simp (disch := omega) only [getD_ints, wrapI] | omega)
  refine T_forH [0, 6, 11, 12, 13] (QL3 z k i) z (fun j H => IsQ z (toR (fwJ k i (fwI z k M i) j)) H) 0 ?_ ?_ (Nat.zero_le _) ?_
  · simp [St.only, get_mk, look]
  · exact hH0
  intro j H' hj hH'
  by_cases hjz : j < z
  · obtain ⟨h1, h2⟩ := hmid.1 j (by omega)
    have key : ∀ K, T none Tryz.prog muts 174 0 c29l3 ⟨QL3 z k i j, H'⟩ (thenK (fun s' => j < z ∧ IsQ z (toR (fwJ k i (fwI z k M i) (j + 1))) s'.heap ∧ (s'.only [0, 6, 11, 12, 13]).slots = QL3 z k i (j + 1)) K) := fun K => by
      have := k29l3 hz hk hi (toR_sq h1) (h2.le h1) K j hjz H' hH'
      rw [rfC_eq h1 h2 hk hi hjz] at this
      exact this
    exact key _
  · have hje : j = z := by omega
    subst hje
    have hH1 : id (IsQ j (toR (fwJ k i (fwI j k M i) j)) H') := hH'
    clear hH' hmid
    unfold c29l3
    repeat' (first | ((with_reducible refine T_calm ?_ ?_); rfl) | (with_reducible first | refine T_seq ?_ | refine T_reg ?_ | refine T_draw ?_ | refine T_skip ?_ | refine T_exit ?_ | refine T_block ?_ | refine T_cond_t rfl ?_ | refine T_cond_f rfl ?_ | refine wdW_cons rfl ?_ | ((first | refine T_cond rfl (fun hc => ?_) (fun hc => ?_) | refine wguard_split (fun hc => ?_) (fun hc => ?_) | refine wguardX_split (fun hc => ?_) (fun hc => ?_)) <;> have hd := hc <;> (try simp (disch := omega) only [wrapI] at hd) <;> have hs := hd <;> (try simp only [decide_eq_true_eq, decide_eq_false_iff_not, Int.not_lt] at hd) <;> (try simp at hs)) | refine T_ret ?_ | refine leave_of (.inr rfl) _ rfl ?_ | refine leave_of (.inl rfl) _ rfl ?_ | refine wif_intro ?_ (fun hc => ?_) | refine And.intro ?_ ?_ | intro hc) | simp (maxSteps := 4000000) only [wops_nil, wops_cons, wstep_none, wrun_mv, wrun_bin, wop, aop, ev, look, put_some, writes, ores_some, binV, thenK, blockK, List.append_nil, List.replicate_zero, Option.map_some, if_true, if_false, Nat.reduceEqDiff, reduceCtorEq, eq_self, false_and, Int.reduceNeg, *] | simp (disch := omega) only [wrapI] | omega)
    · exact hH1
    · simp [St.only, get_mk, look]
/-! one stage, with the look at the diagonal -/
theorem ifK_pos {c : Prop} [Decidable c] (h : c) (A B : Exit → St → Prop) : (fun e s => if c then A e s else B e s) = A := by funext e s; rw [if_pos h]
theorem ifK_neg {c : Prop} [Decidable c] (h : ¬ c) (A B : Exit → St → Prop) : (fun e s => if c then A e s else B e s) = B := by funext e s; rw [if_neg h]
set_option maxHeartbeats 8000000 in
theorem k29l6 {A : List Ar} {z k : Nat} {M : List (List Int)} (hz : z ≤ 40) (hk : k < z) (hA : okAr A z) (hS : Stt A z k M) (K : Exit → St → Prop) (H : List Blk) (hH : IsQ z (toR M) H) :
    T none Tryz.prog muts 174 0 c29l6 ⟨[(0, i64 z), (6, .lsl 0 0 z), (11, i64 k)], H⟩ (fun e s => if (∀ i, i < z → 0 ≤ mget (fwI z k M z) i i) then thenK (fun s' => IsQ z (toR (fwI z k M z)) s'.heap ∧ (s'.only [0, 6, 11]).slots = [(0, i64 z), (6, .lsl 0 0 z), (11, i64 ((k + 1 : Nat) : Int))]) K e s else e = .ret ∧ look s.slots 4 = .sl true 0 [] ∧ look s.slots 5 = bl false) := by
  have hH0 : id (IsQ z (toR M) H) := hH
  have hfar : far = 1099511627776 := rfl
  have hF : FAR = 1000000000000 := rfl
  have hmid := hS.mid hA hk hz (i := z - 1) (j := z) (by omega) (Nat.le_refl _)
  have efin : fwI z k M z = fwJ k (z - 1) (fwI z k M (z - 1)) z := by
    have : fwI z k M (z - 1 + 1) = fwJ k (z - 1) (fwI z k M (z - 1)) z := rfl
    rwa [show z - 1 + 1 = z by omega] at this
  rw [← efin] at hmid
  obtain ⟨hsq, hbd⟩ := hmid
  have hl4 := fun K i (hi : i < z) H h => k29l4 hz hk hA hS K i hi H h
  replace hl4 := And.intro hl4 trivial
  have hS0 := True.intro
  clear hH hS hA efin
  replace hbd := And.intro hbd trivial
  replace hsq : id (Sq z (fwI z k M z)) := hsq
  by_cases hP : ∀ i, i < z → 0 ≤ mget (fwI z k M z) i i
  · rw [ifK_pos hP]
    replace hP := And.intro hP trivial
    unfold c29l6
    repeat' (first | ((with_reducible refine T_calm ?_ ?_); rfl) | (with_reducible first | refine T_seq ?_ | refine T_reg ?_ | refine T_draw ?_ | refine T_skip ?_ | refine T_exit ?_ | refine T_block ?_ | refine T_cond_t rfl ?_ | refine T_cond_f rfl ?_ | refine wdW_cons rfl ?_ | ((first | refine T_cond rfl (fun hc => ?_) (fun hc => ?_) | refine wguard_split (fun hc => ?_) (fun hc => ?_) | refine wguardX_split (fun hc => ?_) (fun hc => ?_)) <;> have hd := hc <;> (try simp (disch := omega) only [wrapI] at hd) <;> have hs := hd <;> (try simp only [decide_eq_true_eq, decide_eq_false_iff_not, Int.not_lt] at hd) <;> (try simp at hs)) | refine T_ret ?_ | refine leave_of (.inr rfl) _ rfl ?_ | refine leave_of (.inl rfl) _ rfl ?_ | refine wif_intro ?_ (fun hc => ?_) | refine And.intro ?_ ?_ | intro hc) | simp (maxSteps := 4000000) only [wops_nil, wops_cons, wstep_none, wrun_mv, wrun_bin, wop, aop, ev, look, put_some, writes, ores_some, binV, thenK, List.append_nil, List.replicate_zero, Option.map_some, if_true, if_false, Nat.reduceEqDiff, reduceCtorEq, eq_self, decide_true, *] | simp (disch := omega) only [getD_ints, wrapI] | omega)
    refine T_forH [0, 6, 11, 12] (fun i => [(0, i64 z), (6, .lsl 0 0 z), (11, i64 k), (12, i64 i)]) z (fun i H => IsQ z (toR (fwI z k M i)) H) 0 ?_ ?_ (Nat.zero_le _) ?_
    · simp [St.only, get_mk, look]
    · exact hH0
    clear hH0
    intro i H' hi hH'
    by_cases hiz : i < z
    · exact hl4.1 _ i hiz H' hH'
    · have hie : i = z := by omega
      subst hie
      have hH1 : id (IsQ i (toR (fwI i k M i)) H') := hH'
      clear hH' hl4
      unfold c29l4
      repeat' (first | ((with_reducible refine T_calm ?_ ?_); rfl) | (with_reducible first | refine T_seq ?_ | refine T_reg ?_ | refine T_draw ?_ | refine T_skip ?_ | refine T_exit ?_ | refine T_block ?_ | refine T_cond_t rfl ?_ | refine T_cond_f rfl ?_ | refine wdW_cons rfl ?_ | ((first | refine T_cond rfl (fun hc => ?_) (fun hc => ?_) | refine wguard_split (fun hc => ?_) (fun hc => ?_) | refine wguardX_split (fun hc => ?_) (fun hc => ?_)) <;> have hd := hc <;> (try simp (disch := omega) only [wrapI] at hd) <;> have hs := hd <;> (try simp only [decide_eq_true_eq, decide_eq_false_iff_not, Int.not_lt] at hd) <;> (try simp at hs)) | refine T_ret ?_ | refine leave_of (.inr rfl) _ rfl ?_ | refine leave_of (.inl rfl) _ rfl ?_ | refine wif_intro ?_ (fun hc => ?_) | refine And.intro ?_ ?_ | intro hc) | simp (maxSteps := 4000000) only [wops_nil, wops_cons, wstep_none, wrun_mv, wrun_bin, wop, aop, ev, look, put_some, writes, ores_some, binV, thenK, blockK, List.append_nil, List.replicate_zero, Option.map_some, if_true, if_false, Nat.reduceEqDiff, reduceCtorEq, eq_self, false_and, *] | simp (disch := omega) only [getD_ints, wrapI] | omega)
      refine T_forH [0, 6, 11, 14] (fun j => [(0, i64 i), (6, .lsl 0 0 i), (11, i64 k), (14, i64 j)]) i (fun j H => IsQ i (toR (fwI i k M i)) H ∧ ∀ a, a < j → 0 ≤ mget (fwI i k M i) a a) 0 ?_ ?_ (Nat.zero_le _) ?_
      · simp [St.only, get_mk, look]
      · exact ⟨hH1, fun a ha => by omega⟩
      clear hH1
      intro j H'' hj ⟨hH2, hpre⟩
      have ht := hH2.t
      by_cases hjz : j < i
      · have hr := hH2.r j hjz
        have htj := qRows_get hjz
        have hx := hbd.1 j j hjz hjz
        have hrs := (toR_sq (show Sq i (fwI i k M i) from hsq)).hr j hjz
        have g1 : (((toR (fwI i k M i)).getD j []).map fun x => [i64 x]).getD j [] = [i64 (rv (mget (fwI i k M i) j j))] := by
          rw [getD_ints (by omega)]
          have := toR_get (show Sq i (fwI i k M i) from hsq) hjz hjz
          unfold mget at this
          unfold mget
          rw [this]
        have hgl : (((toR (fwI i k M i)).getD j []).map fun x => [i64 x]).length = i := by rw [List.length_map]; exact hrs
        have hrv : rv (mget (fwI i k M i) j j) < 0 ↔ mget (fwI i k M i) j j < 0 := by unfold rv; split <;> omega
        have hH3 : id (IsQ i (toR (fwI i k M i)) H'') := hH2
        replace hpre : id (∀ a, a < j → 0 ≤ mget (fwI i k M i) a a) := hpre
        clear hH2 hbd
        unfold c29l5
        by_cases hneg : mget (fwI i k M i) j j < 0
        · have hb : decide (rv (mget (fwI i k M i) j j) < 0) = true := by simp only [decide_eq_true_eq]; exact hrv.2 hneg
          exfalso
          have := hP.1 j hjz
          omega
        · have hb : decide (rv (mget (fwI i k M i) j j) < 0) = false := by simp only [decide_eq_false_iff_not]; exact fun h => hneg (hrv.1 h)
          have hpre2 : ∀ a, a < j + 1 → 0 ≤ mget (fwI i k M i) a a := fun a ha => by
            rcases Nat.lt_succ_iff_lt_or_eq.1 ha with h | h
            · exact hpre a h
            · rw [h]; omega
          replace hpre2 := And.intro hpre2 trivial
          clear hrv hneg
          repeat' (first | ((with_reducible refine T_calm ?_ ?_); rfl) | (with_reducible first | refine T_seq ?_ | refine T_reg ?_ | refine T_draw ?_ | refine T_skip ?_ | refine T_exit ?_ | refine T_block ?_ | refine T_cond_t rfl ?_ | refine T_cond_f rfl ?_ | refine wdW_cons rfl ?_ | ((first | refine T_cond rfl (fun hc => ?_) (fun hc => ?_) | refine wguard_split (fun hc => ?_) (fun hc => ?_) | refine wguardX_split (fun hc => ?_) (fun hc => ?_)) <;> have hd := hc <;> (try simp (disch := omega) only [wrapI] at hd) <;> have hs := hd <;> (try simp only [decide_eq_true_eq, decide_eq_false_iff_not, Int.not_lt] at hd) <;> (try simp at hs)) | refine T_ret ?_ | refine leave_of (.inr rfl) _ rfl ?_ | refine leave_of (.inl rfl) _ rfl ?_ | refine wif_intro ?_ (fun hc => ?_) | refine And.intro ?_ ?_ | intro hc) | simp (maxSteps := 4000000) only [wops_nil, wops_cons, wstep_none, wrun_mv, wrun_bin, wrun_load, wrun_iaddrS, wop, aop, ev, look, put_some, writes, ores_some, ores_ite_none, binV, thenK, blockK, value, cut, hget, mkAgg, List.length_cons, List.length_nil, List.take_succ_cons, List.take_nil, List.drop_zero, List.append_nil, List.replicate_zero, Option.getD_some, Option.map_some, if_true, if_false, Nat.reduceEqDiff, Nat.zero_add, reduceCtorEq, Bool.false_eq_true, eq_self, true_and, and_true, and_self, decide_true, Int.toNat_natCast, *] | simp (disch := omega) only [wrapI] | omega)
          · exact hH3
          · simp [St.only, get_mk, look]
      · have hje : j = i := by omega
        subst hje
        have hH3 : id (IsQ j (toR (fwI j k M j)) H'') := hH2
        replace hpre : id (∀ a, a < j → 0 ≤ mget (fwI j k M j) a a) := hpre
        clear hH2 hbd
        unfold c29l5
        repeat' (first | ((with_reducible refine T_calm ?_ ?_); rfl) | (with_reducible first | refine T_seq ?_ | refine T_reg ?_ | refine T_draw ?_ | refine T_skip ?_ | refine T_exit ?_ | refine T_block ?_ | refine T_cond_t rfl ?_ | refine T_cond_f rfl ?_ | refine wdW_cons rfl ?_ | refine T_ret ?_ | refine leave_of (.inr rfl) _ rfl ?_ | refine leave_of (.inl rfl) _ rfl ?_ | refine wif_intro ?_ (fun hc => ?_) | refine And.intro ?_ ?_ | intro hc) | simp (maxSteps := 4000000) only [wops_nil, wops_cons, wstep_none, wrun_mv, wrun_bin, wop, aop, ev, look, put_some, writes, ores_some, binV, thenK, blockK, List.append_nil, List.replicate_zero, Option.map_some, if_true, if_false, Nat.reduceEqDiff, reduceCtorEq, eq_self, false_and, *] | simp (disch := omega) only [wrapI] | omega)
        · exact hH3
        · simp [St.only, get_mk, look]
  · rw [ifK_neg hP]
    replace hP := And.intro hP trivial
    unfold c29l6
    repeat' (first | ((with_reducible refine T_calm ?_ ?_); rfl) | (with_reducible first | refine T_seq ?_ | refine T_reg ?_ | refine T_draw ?_ | refine T_skip ?_ | refine T_exit ?_ | refine T_block ?_ | refine T_cond_t rfl ?_ | refine T_cond_f rfl ?_ | refine wdW_cons rfl ?_ | ((first | refine T_cond rfl (fun hc => ?_) (fun hc => ?_) | refine wguard_split (fun hc => ?_) (fun hc => ?_) | refine wguardX_split (fun hc => ?_) (fun hc => ?_)) <;> have hd := hc <;> (try simp (disch := omega) only [wrapI] at hd) <;> have hs := hd <;> (try simp only [decide_eq_true_eq, decide_eq_false_iff_not, Int.not_lt] at hd) <;> (try simp at hs)) | refine T_ret ?_ | refine leave_of (.inr rfl) _ rfl ?_ | refine leave_of (.inl rfl) _ rfl ?_ | refine wif_intro ?_ (fun hc => ?_) | refine And.intro ?_ ?_ | intro hc) | simp (maxSteps := 4000000) only [wops_nil, wops_cons, wstep_none, wrun_mv, wrun_bin, wop, aop, ev, look, put_some, writes, ores_some, binV, thenK, List.append_nil, List.replicate_zero, Option.map_some, if_true, if_false, Nat.reduceEqDiff, reduceCtorEq, eq_self, and_self, decide_true, *] | simp (disch := omega) only [getD_ints, wrapI] | omega)
    refine T_forH [0, 6, 11, 12] (fun i => [(0, i64 z), (6, .lsl 0 0 z), (11, i64 k), (12, i64 i)]) z (fun i H => IsQ z (toR (fwI z k M i)) H) 0 ?_ ?_ (Nat.zero_le _) ?_
    · simp [St.only, get_mk, look]
    · exact hH0
    clear hH0
    intro i H' hi hH'
    by_cases hiz : i < z
    · exact hl4.1 _ i hiz H' hH'
    · have hie : i = z := by omega
      subst hie
      have hH1 : id (IsQ i (toR (fwI i k M i)) H') := hH'
      clear hH' hl4
      unfold c29l4
      repeat' (first | ((with_reducible refine T_calm ?_ ?_); rfl) | (with_reducible first | refine T_seq ?_ | refine T_reg ?_ | refine T_draw ?_ | refine T_skip ?_ | refine T_exit ?_ | refine T_block ?_ | refine T_cond_t rfl ?_ | refine T_cond_f rfl ?_ | refine wdW_cons rfl ?_ | ((first | refine T_cond rfl (fun hc => ?_) (fun hc => ?_) | refine wguard_split (fun hc => ?_) (fun hc => ?_) | refine wguardX_split (fun hc => ?_) (fun hc => ?_)) <;> have hd := hc <;> (try simp (disch := omega) only [wrapI] at hd) <;> have hs := hd <;> (try simp only [decide_eq_true_eq, decide_eq_false_iff_not, Int.not_lt] at hd) <;> (try simp at hs)) | refine T_ret ?_ | refine leave_of (.inr rfl) _ rfl ?_ | refine leave_of (.inl rfl) _ rfl ?_ | refine wif_intro ?_ (fun hc => ?_) | refine And.intro ?_ ?_ | intro hc) | simp (maxSteps := 4000000) only [wops_nil, wops_cons, wstep_none, wrun_mv, wrun_bin, wop, aop, ev, look, put_some, writes, ores_some, binV, thenK, blockK, List.append_nil, List.replicate_zero, Option.map_some, if_true, if_false, Nat.reduceEqDiff, reduceCtorEq, eq_self, and_self, false_and, *] | simp (disch := omega) only [getD_ints, wrapI] | omega)
      refine T_forH [0, 6, 11, 14] (fun j => [(0, i64 i), (6, .lsl 0 0 i), (11, i64 k), (14, i64 j)]) i (fun j H => IsQ i (toR (fwI i k M i)) H ∧ ∀ a, a < j → 0 ≤ mget (fwI i k M i) a a) 0 ?_ ?_ (Nat.zero_le _) ?_
      · simp [St.only, get_mk, look]
      · exact ⟨hH1, fun a ha => by omega⟩
      clear hH1
      intro j H'' hj ⟨hH2, hpre⟩
      have ht := hH2.t
      by_cases hjz : j < i
      · have hr := hH2.r j hjz
        have htj := qRows_get hjz
        have hx := hbd.1 j j hjz hjz
        have hrs := (toR_sq (show Sq i (fwI i k M i) from hsq)).hr j hjz
        have g1 : (((toR (fwI i k M i)).getD j []).map fun x => [i64 x]).getD j [] = [i64 (rv (mget (fwI i k M i) j j))] := by
          rw [getD_ints (by omega)]
          have := toR_get (show Sq i (fwI i k M i) from hsq) hjz hjz
          unfold mget at this
          unfold mget
          rw [this]
        have hgl : (((toR (fwI i k M i)).getD j []).map fun x => [i64 x]).length = i := by rw [List.length_map]; exact hrs
        have hrv : rv (mget (fwI i k M i) j j) < 0 ↔ mget (fwI i k M i) j j < 0 := by unfold rv; split <;> omega
        have hH3 : id (IsQ i (toR (fwI i k M i)) H'') := hH2
        replace hpre : id (∀ a, a < j → 0 ≤ mget (fwI i k M i) a a) := hpre
        clear hH2 hbd
        unfold c29l5
        by_cases hneg : mget (fwI i k M i) j j < 0
        · have hb : decide (rv (mget (fwI i k M i) j j) < 0) = true := by simp only [decide_eq_true_eq]; exact hrv.2 hneg
          clear hrv hneg
          repeat' (first | ((with_reducible refine T_calm ?_ ?_); rfl) | (with_reducible first | refine T_seq ?_ | refine T_reg ?_ | refine T_draw ?_ | refine T_skip ?_ | refine T_exit ?_ | refine T_block ?_ | refine T_cond_t rfl ?_ | refine T_cond_f rfl ?_ | refine wdW_cons rfl ?_ | ((first | refine T_cond rfl (fun hc => ?_) (fun hc => ?_) | refine wguard_split (fun hc => ?_) (fun hc => ?_) | refine wguardX_split (fun hc => ?_) (fun hc => ?_)) <;> have hd := hc <;> (try simp (disch := omega) only [wrapI] at hd) <;> have hs := hd <;> (try simp only [decide_eq_true_eq, decide_eq_false_iff_not, Int.not_lt] at hd) <;> (try simp at hs)) | refine T_ret ?_ | refine leave_of (.inr rfl) _ rfl ?_ | refine leave_of (.inl rfl) _ rfl ?_ | refine wif_intro ?_ (fun hc => ?_) | refine And.intro ?_ ?_ | intro hc) | simp (maxSteps := 4000000) only [wops_nil, wops_cons, wstep_none, wrun_mv, wrun_bin, wrun_load, wrun_iaddrS, wop, aop, ev, look, put_some, writes, ores_some, ores_ite_none, binV, thenK, blockK, value, cut, hget, mkAgg, List.length_cons, List.length_nil, List.take_succ_cons, List.take_nil, List.drop_zero, List.append_nil, List.replicate_zero, Option.getD_some, Option.map_some, if_true, if_false, Nat.reduceEqDiff, Nat.zero_add, reduceCtorEq, Bool.false_eq_true, eq_self, true_and, and_true, and_self, false_and, decide_true, Int.toNat_natCast, *] | simp (disch := omega) only [getD_ints, wrapI] | omega)
        · have hb : decide (rv (mget (fwI i k M i) j j) < 0) = false := by simp only [decide_eq_false_iff_not]; exact fun h => hneg (hrv.1 h)
          have hpre2 : ∀ a, a < j + 1 → 0 ≤ mget (fwI i k M i) a a := fun a ha => by
            rcases Nat.lt_succ_iff_lt_or_eq.1 ha with h | h
            · exact hpre a h
            · rw [h]; omega
          replace hpre2 := And.intro hpre2 trivial
          clear hrv hneg
          repeat' (first | ((with_reducible refine T_calm ?_ ?_); rfl) | (with_reducible first | refine T_seq ?_ | refine T_reg ?_ | refine T_draw ?_ | refine T_skip ?_ | refine T_exit ?_ | refine T_block ?_ | refine T_cond_t rfl ?_ | refine T_cond_f rfl ?_ | refine wdW_cons rfl ?_ | ((first | refine T_cond rfl (fun hc => ?_) (fun hc => ?_) | refine wguard_split (fun hc => ?_) (fun hc => ?_) | refine wguardX_split (fun hc => ?_) (fun hc => ?_)) <;> have hd := hc <;> (try simp (disch := omega) only [wrapI] at hd) <;> have hs := hd <;> (try simp only [decide_eq_true_eq, decide_eq_false_iff_not, Int.not_lt] at hd) <;> (try simp at hs)) | refine T_ret ?_ | refine leave_of (.inr rfl) _ rfl ?_ | refine leave_of (.inl rfl) _ rfl ?_ | refine wif_intro ?_ (fun hc => ?_) | refine And.intro ?_ ?_ | intro hc) | simp (maxSteps := 4000000) only [wops_nil, wops_cons, wstep_none, wrun_mv, wrun_bin, wrun_load, wrun_iaddrS, wop, aop, ev, look, put_some, writes, ores_some, ores_ite_none, binV, thenK, blockK, value, cut, hget, mkAgg, List.length_cons, List.length_nil, List.take_succ_cons, List.take_nil, List.drop_zero, List.append_nil, List.replicate_zero, Option.getD_some, Option.map_some, if_true, if_false, Nat.reduceEqDiff, Nat.zero_add, reduceCtorEq, Bool.false_eq_true, eq_self, true_and, and_true, and_self, false_and, decide_true, Int.toNat_natCast, *] | simp (disch := omega) only [wrapI] | omega)
          · exact hH3
          · simp [St.only, get_mk, look]
      · have hje : j = i := by omega
        subst hje
        have hH3 : id (IsQ j (toR (fwI j k M j)) H'') := hH2
        replace hpre : id (∀ a, a < j → 0 ≤ mget (fwI j k M j) a a) := hpre
        clear hH2 hbd
        unfold c29l5
        exact (hP.1 hpre).elim
end Go.Abs
