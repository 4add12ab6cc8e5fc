import Derived.Test.YtookdheldelepaaGreatDoorKN3
set_option linter.all false
set_option linter.unusedVariables false
set_option linter.unusedSimpArgs false
set_option linter.unusedSectionVars false
namespace Go.Abs
open Go.Proofs
/-! the document's Number -/
def vk (w : ByteArray) (k : Nat) : Int := valN 0 ((dgs w).take k)
theorem dgs0 {w : ByteArray} {c : UInt8} (h : w[0]? = some c) (hc : c.toNat ≠ 45) : sgn w = false := by
  unfold sgn
  have e : w.data.toList.head? = some c := by
    rw [List.head?_eq_getElem?, Array.getElem?_toList]; exact h
  rw [e]
  simp only [Option.some.injEq, decide_eq_false_iff_not]
  rintro rfl
  exact hc rfl
theorem dgs1 {w : ByteArray} {c : UInt8} (h : w[0]? = some c) (hc : c.toNat = 45) : sgn w = true := by
  unfold sgn
  have e : w.data.toList.head? = some c := by
    rw [List.head?_eq_getElem?, Array.getElem?_toList]; exact h
  rw [e]
  simp only [Option.some.injEq, decide_eq_true_eq]
  exact UInt8.toNat_inj.1 hc
theorem dgs_get {w : ByteArray} (i : Nat) : (dgs w)[i]? = w[i + (if sgn w then 1 else 0)]? := by
  unfold dgs
  split
  · rw [List.getElem?_drop, Array.getElem?_toList, Nat.add_comm]; rfl
  · rw [Array.getElem?_toList]; rfl
theorem dgs_len {w : ByteArray} : (dgs w).length = w.size - (if sgn w then 1 else 0) := by
  unfold dgs
  split
  · rw [List.length_drop, ba_len]
  · rw [ba_len]; rfl
theorem vk_step {w : ByteArray} {i : Nat} {c : UInt8} (h : (dgs w)[i]? = some c) (hc : 48 ≤ c.toNat) : vk w (i + 1) = 10 * vk w i + ((c.toNat : Int) - 48) := by
  unfold vk
  rw [List.take_succ, h, valN_app]
  simp only [Option.toList_some]
  rw [valN_cons, valN_nil]
  omega
theorem vk_bd {w : ByteArray} {k : Nat} (hk : k ≤ 10) (h : ∀ c ∈ (dgs w).take k, isD c) : 0 ≤ vk w k ∧ vk w k < 10000000000 := by
  have h1 := valN_lt _ 0 h
  have h2 : (10 : Nat) ^ ((dgs w).take k).length ≤ 10 ^ 10 := Nat.pow_le_pow_right (by omega) (by simp; omega)
  have h301 : (10 : Nat) ^ 10 = 10000000000 := by decide
  unfold vk
  omega
theorem isDg_D {c : UInt8} : isDg (c.toNat : Int) = true ↔ isD c := by
  unfold isDg isD; simp; omega
theorem numV_vk {w : ByteArray} {n : Nat} (h : n = (dgs w).length) : numV w = if sgn w then -(vk w n) else vk w n := by
  subst h
  unfold numV vk
  rw [List.take_length]
set_option maxHeartbeats 8000000 in
theorem k54g0 {w : ByteArray} {c0 : UInt8} {R : AV} (g0 : w[0]? = some c0) (hc : c0.toNat ≠ 45) (hlen : 0 < w.size ∧ w.size ≤ 7)
    (hbad : ∀ (i : Nat) (c : UInt8), (dgs w)[i]? = some c → ¬ isD c → R = .tup [i64 0, bl false])
    (hgood : (∀ c ∈ dgs w, isD c) → R = .tup [i64 (numV w), bl ((itoaB (numV w)).toList == w.toList)]) : Fn Tryz.prog 54 [tx w, i64 7] R [] := by
  refine fn_of e54 ?_
  have hs : sgn w = false := dgs0 g0 hc
  have d0 : (((c0.toNat : Nat) : Int) == 45) = false := by simp only [beq_eq_false_iff_ne]; omega
  have dl : (dgs w).length = w.size := by rw [dgs_len, hs]; rfl
  have d1 : ((w.size : Int) == 0) = false := by simp only [beq_eq_false_iff_ne]; omega
  have d2 : decide ((w.size : Int) > 7) = false := decide_eq_false (by omega)
  have d3 : decide ((w.size : Int) > 0) = true := decide_eq_true (by omega)
  have hend : (∀ c ∈ dgs w, isD c) → R = .tup [i64 ( (vk w w.size)), bl ((itoaB ( (vk w w.size))).toList == w.toList)] ∧ 0 ≤ vk w w.size ∧ vk w w.size < 10000000000 := fun h => by
    have e := numV_vk dl.symm
    rw [hs] at e
    simp only [Bool.false_eq_true, if_false] at e
    rw [e] at hgood
    exact ⟨hgood h, vk_bd (by omega) (fun c hx => h c (List.mem_of_mem_take hx))⟩
  have hstep : ∀ k, 0 ≤ k → k < w.size → (∀ c ∈ (dgs w).take k, isD c) → ∃ c, w[k]? = some c ∧ ((¬ isD c ∧ R = .tup [i64 0, bl false]) ∨ (isD c ∧ (∀ c ∈ (dgs w).take (k + 1), isD c) ∧ vk w (k + 1) = 10 * vk w k + ((c.toNat : Int) - 48) ∧ 0 ≤ vk w k ∧ vk w k < 10000000000 ∧ 0 ≤ vk w (k + 1) ∧ vk w (k + 1) < 10000000000)) := fun k h1 h2 h300 => by
    have hg := dgs_get (w := w) k
    rw [hs] at hg
    rw [show k + (if false = true then 1 else 0) = k by simp <;> omega] at hg
    obtain ⟨c, hcx⟩ : ∃ c, w[k]? = some c := ⟨w[k], getElem?_pos w k h2⟩
    rw [hcx] at hg
    refine ⟨c, hcx, ?_⟩
    by_cases hd : isD c
    · right
      have h301 : ∀ c ∈ (dgs w).take (k + 1), isD c := by
        rw [show k + 1 = k + 1 by omega, List.take_succ, hg]
        intro x hx
        rcases List.mem_append.1 hx with hx | hx
        · exact h300 x hx
        · simp only [Option.toList_some, List.mem_singleton] at hx; subst hx; exact hd
      have b1 := vk_bd (w := w) (k := k) (by omega) h300
      have b2 := vk_bd (w := w) (k := k + 1) (by omega) h301
      refine ⟨hd, h301, ?_, b1.1, b1.2, b2.1, b2.2⟩
      rw [show k + 1 = k + 1 by omega]
      exact vk_step hg hd.1
    · exact .inl ⟨hd, hbad _ c hg hd⟩
  have hfin : (∀ c ∈ (dgs w).take w.size, isD c) → ∀ c ∈ dgs w, isD c := by
    rw [← dl, List.take_length]; exact id
  replace hend := PLift.up hend
  replace hstep := PLift.up hstep
  replace hfin := PLift.up hfin
  clear hbad hgood hs dl
  unfold c54
  repeat' (first | (with_reducible first | refine T_seq ?_ | refine T_reg ?_ | refine T_skip ?_ | refine T_exit ?_ | refine T_block ?_ | refine T_cond_t rfl ?_ | refine T_cond_f rfl ?_ | ((first | refine T_cond rfl (fun hc => ?_) (fun hc => ?_) | refine wguard_split (fun hc => ?_) (fun hc => ?_)) <;> have hd := hc <;> (try simp (disch := omega) only [wrapI] at hd) <;> have hs := hd <;> (try simp only [decide_eq_true_eq, decide_eq_false_iff_not, Bool.not_false, gt_iff_lt, Int.not_lt] at hd) <;> (try simp at hs)) | refine T_ret ?_ | refine leave_of (.inr rfl) _ rfl ?_ | refine leave_of (.inl rfl) _ rfl ?_ | refine wif_intro ?_ (fun hc => ?_) | refine And.intro ?_ ?_ | intro hc) | simp (maxSteps := 4000000) only [wops_nil, wops_cons, wstep_none, wstep_some, wguard_true, wguard_ff, wguard_tf, wrun_mv, wrun_pick, wrun_bin, wrun_idxS, wrun_lenS, get_mk, wop, aop, ev, look, put_some, writes, ores_some, ores_ite_none, binV, thenK, intV, tupOf, List.map_cons, List.map_nil, List.length_nil, List.append_nil, List.replicate_zero, List.zipIdx_cons, List.zipIdx_nil, Option.map_some, if_true, if_false, Nat.reduceEqDiff, Nat.reduceAdd, Nat.zero_add, Nat.zero_ne_one, reduceCtorEq, Bool.not_false, Bool.false_eq_true, eq_self, ren, renL, Int.toNat_zero, *] | simp (disch := omega) only [wrapI] | omega)
  refine T_for [0, 1, 6, 7, 8] (fun k => ⟨[(0, tx w), (1, i64 7), (6, i64 (vk w k)), (7, i64 0), (8, i64 k)], []⟩) w.size (fun k => 0 ≤ k ∧ ∀ c ∈ (dgs w).take k, isD c) 0 rfl ⟨Nat.le_refl _, by simp⟩ (by omega) ?_
  clear d0 d1 d2 d3 g0 hc
  rintro k hk ⟨hk1, hI⟩
  by_cases hkn : k < w.size
  · obtain ⟨c, g, hcase⟩ := hstep.down k hk1 hkn hI
    have h57 := k57 ((c.toNat : Nat) : Int)
    rcases hcase with ⟨hd, hR⟩ | ⟨hd, h301, hv, b1, b2, b3, b4⟩
    · have : isDg ((c.toNat : Nat) : Int) = false := by
        cases hx : isDg ((c.toNat : Nat) : Int) with
        | false => rfl
        | true => exact absurd (isDg_D.1 hx) hd
      rw [this] at h57
      subst hR
      clear hend hstep hfin hI hlen
      unfold c54l0
      repeat' (first | (with_reducible first | refine T_seq ?_ | refine T_reg ?_ | refine T_skip ?_ | refine T_exit ?_ | refine T_block ?_ | refine T_cond_t rfl ?_ | refine T_cond_f rfl ?_ | (show wcall _ false (.lit (.func (.func 57) _ _)) _ _ _ _; refine wcall_fn (h57) rfl (by simp [plainL, plain]) ?_) | ((first | refine T_cond rfl (fun hc => ?_) (fun hc => ?_) | refine wguard_split (fun hc => ?_) (fun hc => ?_)) <;> have hd := hc <;> (try simp (disch := omega) only [wrapI] at hd) <;> have hs := hd <;> (try simp only [decide_eq_true_eq, decide_eq_false_iff_not, Int.not_lt] at hd) <;> (try simp at hs)) | refine T_ret ?_ | refine leave_of (.inr rfl) _ rfl ?_ | refine leave_of (.inl rfl) _ rfl ?_ | refine wif_intro ?_ (fun hc => ?_) | refine And.intro ?_ ?_ | intro hc) | simp (maxSteps := 4000000) only [wops_nil, wops_cons, wstep_none, wrun_call, wrun_mv, wrun_bin, wrun_not, wrun_idxS, wrun_lenS, get_mk, wop, aop, ev, look, put_some, writes, ores_some, ores_ite_none, binV, thenK, blockK, boolV, intV, tupOf, List.map_cons, List.map_nil, List.length_nil, List.append_nil, List.replicate_zero, Option.map_some, if_true, if_false, Nat.reduceEqDiff, Nat.reduceLeDiff, reduceCtorEq, Bool.not_false, eq_self, true_and, decide_true, freeze, lidsL, lids, List.flatMap_cons, List.flatMap_nil, ren, renL, Int.toNat_natCast, *] | simp (disch := omega) only [getD_ints, wrapI] | (with_reducible show wcall _ false (.lit (.func (.func 57) _ _)) _ _ _ _; refine wcall_fn (h57) ?_ ?_ ?_; (next => simp [rfyL, rfy, hget, ints, take_rfy, Int.toNat_natCast]); (next => simp [plainL, plain, plainR, Int.toNat_natCast])) | omega)
      all_goals first | rfl
    · rw [isDg_D.2 hd] at h57
      have hw8 : IntKind.u8.wrap ((c.toNat : Int) - 48) = (c.toNat : Int) - 48 := by unfold isD at hd; rw [IntKind.wrap_u8]; omega
      have hw1 : IntKind.i64.wrap ((c.toNat : Int) - 48) = (c.toNat : Int) - 48 := wrapI (by unfold isD at hd; omega) (by unfold isD at hd; omega)
      have hw2 : IntKind.i64.wrap (10 * vk w k) = 10 * vk w k := wrapI (by omega) (by omega)
      have hw3 : IntKind.i64.wrap (10 * vk w k + ((c.toNat : Int) - 48)) = vk w (k + 1) := by rw [wrapI (by omega) (by omega)]; exact hv.symm
      have hI2 : 0 ≤ k + 1 ∧ ∀ c ∈ (dgs w).take (k + 1), isD c := ⟨by omega, h301⟩
      replace hI2 := PLift.up hI2
      clear hend hstep hfin hI h301 hd hv
      unfold c54l0
      repeat' (first | (with_reducible first | refine T_seq ?_ | refine T_reg ?_ | refine T_skip ?_ | refine T_exit ?_ | refine T_block ?_ | refine T_cond_t rfl ?_ | refine T_cond_f rfl ?_ | (show wcall _ false (.lit (.func (.func 57) _ _)) _ _ _ _; refine wcall_fn (h57) rfl (by simp [plainL, plain]) ?_) | ((first | refine T_cond rfl (fun hc => ?_) (fun hc => ?_) | refine wguard_split (fun hc => ?_) (fun hc => ?_)) <;> have hd := hc <;> (try simp (disch := omega) only [wrapI] at hd) <;> have hs := hd <;> (try simp only [decide_eq_true_eq, decide_eq_false_iff_not, Int.not_lt] at hd) <;> (try simp at hs)) | refine T_ret ?_ | refine leave_of (.inr rfl) _ rfl ?_ | refine leave_of (.inl rfl) _ rfl ?_ | refine wif_intro ?_ (fun hc => ?_) | refine And.intro ?_ ?_ | intro hc) | simp (maxSteps := 4000000) only [wops_nil, wops_cons, wstep_none, wrun_call, wrun_mv, wrun_bin, wrun_not, wrun_cvInt, wrun_idxS, wrun_lenS, wop, aop, ev, look, put_some, writes, ores_some, ores_ite_none, binV, thenK, blockK, boolV, intV, List.map_cons, List.map_nil, List.length_nil, List.append_nil, List.replicate_zero, Option.map_some, if_true, if_false, Nat.reduceEqDiff, Nat.reduceLeDiff, reduceCtorEq, Bool.not_true, eq_self, true_and, decide_true, freeze, lidsL, lids, List.flatMap_cons, List.flatMap_nil, ren, Int.toNat_natCast, *] | simp (disch := omega) only [wrapI] | (with_reducible show wcall _ false (.lit (.func (.func 57) _ _)) _ _ _ _; refine wcall_fn (h57) ?_ ?_ ?_; (next => simp [rfyL, rfy, hget, ints, take_rfy, Int.toNat_natCast]); (next => simp [plainL, plain, plainR, Int.toNat_natCast])) | omega)
      all_goals first | exact hI2.down | exact hI2.down.2 | exact hI2.down.2 _ (by assumption) | (simp [St.only, get_mk, look]; done)
  · have hke : k = w.size := by omega
    subst hke
    obtain ⟨hR, b1, b2⟩ := hend.down (hfin.down hI)
    subst hR
    have h49 := k49 (n :=  (vk w w.size)) (by unfold okI; omega)
    have hwn : IntKind.i64.wrap ( (vk w w.size)) =  (vk w w.size) := wrapI (by omega) (by omega)
    clear hend hstep hfin hI
    generalize vk w w.size = n at *
    generalize itoaB ( n) = I at *
    unfold c54l0
    repeat' (first | (with_reducible first | refine T_seq ?_ | refine T_reg ?_ | refine T_skip ?_ | refine T_exit ?_ | refine T_block ?_ | refine T_cond_t rfl ?_ | refine T_cond_f rfl ?_ | (show wcall _ false (.lit (.func (.func 49) _ _)) _ _ _ _; refine wcall_fn (h49) rfl (by simp [plainL, plain]) ?_) | ((first | refine T_cond rfl (fun hc => ?_) (fun hc => ?_) | refine wguard_split (fun hc => ?_) (fun hc => ?_)) <;> have hd := hc <;> (try simp (disch := omega) only [wrapI] at hd) <;> have hs := hd <;> (try simp only [decide_eq_true_eq, decide_eq_false_iff_not, Int.not_lt] at hd) <;> (try simp at hs)) | refine T_ret ?_ | refine leave_of (.inr rfl) _ rfl ?_ | refine leave_of (.inl rfl) _ rfl ?_ | refine wif_intro ?_ (fun hc => ?_) | refine And.intro ?_ ?_ | intro hc) | simp (maxSteps := 4000000) only [wops_nil, wops_cons, wstep_none, wrun_call, wrun_mv, wrun_bin, wrun_lenS, get_mk, wop, aop, ev, look, put_some, writes, ores_some, binV, thenK, blockK, intV, tupOf, List.map_cons, List.map_nil, List.length_nil, List.append_nil, List.replicate_zero, Option.map_some, if_true, if_false, Nat.reduceEqDiff, Nat.reduceLeDiff, reduceCtorEq, eq_self, true_and, false_and, freeze, lidsL, lids, List.flatMap_cons, List.flatMap_nil, ren, renL, *] | simp (disch := omega) only [getD_ints, wrapI] | (with_reducible show wcall _ false (.lit (.func (.func 49) _ _)) _ _ _ _; refine wcall_fn (h49) ?_ ?_ ?_; (next => simp [rfyL, rfy, hget, ints, take_rfy, Int.zero_sub]); (next => simp [plainL, plain, plainR, Int.zero_sub])) | omega)
    all_goals first | rfl | (simp; done)
set_option maxHeartbeats 8000000 in
theorem k54g1 {w : ByteArray} {c0 : UInt8} {R : AV} (g0 : w[0]? = some c0) (hc : c0.toNat = 45) (hlen : 1 < w.size ∧ w.size ≤ 8)
    (hbad : ∀ (i : Nat) (c : UInt8), (dgs w)[i]? = some c → ¬ isD c → R = .tup [i64 0, bl false])
    (hgood : (∀ c ∈ dgs w, isD c) → R = .tup [i64 (numV w), bl ((itoaB (numV w)).toList == w.toList)]) : Fn Tryz.prog 54 [tx w, i64 7] R [] := by
  refine fn_of e54 ?_
  have hs : sgn w = true := dgs1 g0 hc
  have d0 : (((c0.toNat : Nat) : Int) == 45) = true := by simp only [beq_iff_eq]; omega
  have dl : (dgs w).length = w.size - 1 := by rw [dgs_len, hs]; rfl
  have d1 : ((w.size : Int) == 1) = false := by simp only [beq_eq_false_iff_ne]; omega
  have d2 : decide ((w.size : Int) > 8) = false := decide_eq_false (by omega)
  have d3 : decide ((w.size : Int) > 0) = true := decide_eq_true (by omega)
  have hend : (∀ c ∈ dgs w, isD c) → R = .tup [i64 (- (vk w (w.size - 1))), bl ((itoaB (- (vk w (w.size - 1)))).toList == w.toList)] ∧ 0 ≤ vk w (w.size - 1) ∧ vk w (w.size - 1) < 10000000000 := fun h => by
    have e := numV_vk dl.symm
    rw [hs] at e
    simp only [if_true] at e
    rw [e] at hgood
    exact ⟨hgood h, vk_bd (by omega) (fun c hx => h c (List.mem_of_mem_take hx))⟩
  have hstep : ∀ k, 1 ≤ k → k < w.size → (∀ c ∈ (dgs w).take (k - 1), isD c) → ∃ c, w[k]? = some c ∧ ((¬ isD c ∧ R = .tup [i64 0, bl false]) ∨ (isD c ∧ (∀ c ∈ (dgs w).take (k + 1 - 1), isD c) ∧ vk w (k + 1 - 1) = 10 * vk w (k - 1) + ((c.toNat : Int) - 48) ∧ 0 ≤ vk w (k - 1) ∧ vk w (k - 1) < 10000000000 ∧ 0 ≤ vk w (k + 1 - 1) ∧ vk w (k + 1 - 1) < 10000000000)) := fun k h1 h2 h300 => by
    have hg := dgs_get (w := w) (k - 1)
    rw [hs] at hg
    rw [show k - 1 + (if true = true then 1 else 0) = k by simp <;> omega] at hg
    obtain ⟨c, hcx⟩ : ∃ c, w[k]? = some c := ⟨w[k], getElem?_pos w k h2⟩
    rw [hcx] at hg
    refine ⟨c, hcx, ?_⟩
    by_cases hd : isD c
    · right
      have h301 : ∀ c ∈ (dgs w).take (k + 1 - 1), isD c := by
        rw [show k + 1 - 1 = k - 1 + 1 by omega, List.take_succ, hg]
        intro x hx
        rcases List.mem_append.1 hx with hx | hx
        · exact h300 x hx
        · simp only [Option.toList_some, List.mem_singleton] at hx; subst hx; exact hd
      have b1 := vk_bd (w := w) (k := k - 1) (by omega) h300
      have b2 := vk_bd (w := w) (k := k + 1 - 1) (by omega) h301
      refine ⟨hd, h301, ?_, b1.1, b1.2, b2.1, b2.2⟩
      rw [show k + 1 - 1 = k - 1 + 1 by omega]
      exact vk_step hg hd.1
    · exact .inl ⟨hd, hbad _ c hg hd⟩
  have hfin : (∀ c ∈ (dgs w).take (w.size - 1), isD c) → ∀ c ∈ dgs w, isD c := by
    rw [← dl, List.take_length]; exact id
  replace hend := PLift.up hend
  replace hstep := PLift.up hstep
  replace hfin := PLift.up hfin
  clear hbad hgood hs dl
  unfold c54
  repeat' (first | (with_reducible first | refine T_seq ?_ | refine T_reg ?_ | refine T_skip ?_ | refine T_exit ?_ | refine T_block ?_ | refine T_cond_t rfl ?_ | refine T_cond_f rfl ?_ | ((first | refine T_cond rfl (fun hc => ?_) (fun hc => ?_) | refine wguard_split (fun hc => ?_) (fun hc => ?_)) <;> have hd := hc <;> (try simp (disch := omega) only [wrapI] at hd) <;> have hs := hd <;> (try simp only [decide_eq_true_eq, decide_eq_false_iff_not, Bool.not_false, gt_iff_lt, Int.not_lt] at hd) <;> (try simp at hs)) | refine T_ret ?_ | refine leave_of (.inr rfl) _ rfl ?_ | refine leave_of (.inl rfl) _ rfl ?_ | refine wif_intro ?_ (fun hc => ?_) | refine And.intro ?_ ?_ | intro hc) | simp (maxSteps := 4000000) only [wops_nil, wops_cons, wstep_none, wstep_some, wguard_true, wguard_ff, wguard_tf, wrun_mv, wrun_pick, wrun_bin, wrun_idxS, wrun_lenS, get_mk, wop, aop, ev, look, put_some, writes, ores_some, ores_ite_none, binV, thenK, intV, tupOf, List.map_cons, List.map_nil, List.length_nil, List.append_nil, List.replicate_zero, List.zipIdx_cons, List.zipIdx_nil, Option.map_some, if_true, if_false, Nat.reduceEqDiff, Nat.reduceAdd, Nat.zero_add, Nat.zero_ne_one, reduceCtorEq, Bool.not_false, Bool.false_eq_true, eq_self, ren, renL, Int.toNat_zero, *] | simp (disch := omega) only [wrapI] | omega)
  refine T_for [0, 1, 6, 7, 8] (fun k => ⟨[(0, tx w), (1, i64 7), (6, i64 (vk w (k - 1))), (7, i64 1), (8, i64 k)], []⟩) w.size (fun k => 1 ≤ k ∧ ∀ c ∈ (dgs w).take (k - 1), isD c) 1 rfl ⟨Nat.le_refl _, by simp⟩ (by omega) ?_
  clear d0 d1 d2 d3 g0 hc
  rintro k hk ⟨hk1, hI⟩
  by_cases hkn : k < w.size
  · obtain ⟨c, g, hcase⟩ := hstep.down k hk1 hkn hI
    have h57 := k57 ((c.toNat : Nat) : Int)
    rcases hcase with ⟨hd, hR⟩ | ⟨hd, h301, hv, b1, b2, b3, b4⟩
    · have : isDg ((c.toNat : Nat) : Int) = false := by
        cases hx : isDg ((c.toNat : Nat) : Int) with
        | false => rfl
        | true => exact absurd (isDg_D.1 hx) hd
      rw [this] at h57
      subst hR
      clear hend hstep hfin hI hlen
      unfold c54l0
      repeat' (first | (with_reducible first | refine T_seq ?_ | refine T_reg ?_ | refine T_skip ?_ | refine T_exit ?_ | refine T_block ?_ | refine T_cond_t rfl ?_ | refine T_cond_f rfl ?_ | (show wcall _ false (.lit (.func (.func 57) _ _)) _ _ _ _; refine wcall_fn (h57) rfl (by simp [plainL, plain]) ?_) | ((first | refine T_cond rfl (fun hc => ?_) (fun hc => ?_) | refine wguard_split (fun hc => ?_) (fun hc => ?_)) <;> have hd := hc <;> (try simp (disch := omega) only [wrapI] at hd) <;> have hs := hd <;> (try simp only [decide_eq_true_eq, decide_eq_false_iff_not, Int.not_lt] at hd) <;> (try simp at hs)) | refine T_ret ?_ | refine leave_of (.inr rfl) _ rfl ?_ | refine leave_of (.inl rfl) _ rfl ?_ | refine wif_intro ?_ (fun hc => ?_) | refine And.intro ?_ ?_ | intro hc) | simp (maxSteps := 4000000) only [wops_nil, wops_cons, wstep_none, wrun_call, wrun_mv, wrun_bin, wrun_neg, wrun_not, wrun_idxS, wrun_lenS, get_mk, wop, aop, ev, look, put_some, writes, ores_some, ores_ite_none, binV, thenK, blockK, boolV, intV, tupOf, List.map_cons, List.map_nil, List.length_nil, List.append_nil, List.replicate_zero, Option.map_some, if_true, if_false, Nat.reduceEqDiff, Nat.reduceLeDiff, reduceCtorEq, Bool.not_false, eq_self, true_and, decide_true, beq_self_eq_true, freeze, lidsL, lids, List.flatMap_cons, List.flatMap_nil, ren, renL, Int.toNat_natCast, *] | simp (disch := omega) only [wrapI] | (with_reducible show wcall _ false (.lit (.func (.func 57) _ _)) _ _ _ _; refine wcall_fn (h57) ?_ ?_ ?_; (next => simp [rfyL, rfy, hget, ints, take_rfy, Int.toNat_natCast]); (next => simp [plainL, plain, plainR, Int.toNat_natCast])) | omega)
      all_goals first | rfl
    · rw [isDg_D.2 hd] at h57
      have hw8 : IntKind.u8.wrap ((c.toNat : Int) - 48) = (c.toNat : Int) - 48 := by unfold isD at hd; rw [IntKind.wrap_u8]; omega
      have hw1 : IntKind.i64.wrap ((c.toNat : Int) - 48) = (c.toNat : Int) - 48 := wrapI (by unfold isD at hd; omega) (by unfold isD at hd; omega)
      have hw2 : IntKind.i64.wrap (10 * vk w (k - 1)) = 10 * vk w (k - 1) := wrapI (by omega) (by omega)
      have hw3 : IntKind.i64.wrap (10 * vk w (k - 1) + ((c.toNat : Int) - 48)) = vk w (k + 1 - 1) := by rw [wrapI (by omega) (by omega)]; exact hv.symm
      have hI2 : 1 ≤ k + 1 ∧ ∀ c ∈ (dgs w).take (k + 1 - 1), isD c := ⟨by omega, h301⟩
      replace hI2 := PLift.up hI2
      clear hend hstep hfin hI h301 hd hv
      unfold c54l0
      repeat' (first | (with_reducible first | refine T_seq ?_ | refine T_reg ?_ | refine T_skip ?_ | refine T_exit ?_ | refine T_block ?_ | refine T_cond_t rfl ?_ | refine T_cond_f rfl ?_ | (show wcall _ false (.lit (.func (.func 57) _ _)) _ _ _ _; refine wcall_fn (h57) rfl (by simp [plainL, plain]) ?_) | ((first | refine T_cond rfl (fun hc => ?_) (fun hc => ?_) | refine wguard_split (fun hc => ?_) (fun hc => ?_)) <;> have hd := hc <;> (try simp (disch := omega) only [wrapI] at hd) <;> have hs := hd <;> (try simp only [decide_eq_true_eq, decide_eq_false_iff_not, Int.not_lt] at hd) <;> (try simp at hs)) | refine T_ret ?_ | refine leave_of (.inr rfl) _ rfl ?_ | refine leave_of (.inl rfl) _ rfl ?_ | refine wif_intro ?_ (fun hc => ?_) | refine And.intro ?_ ?_ | intro hc) | simp (maxSteps := 4000000) only [wops_nil, wops_cons, wstep_none, wrun_call, wrun_mv, wrun_bin, wrun_neg, wrun_not, wrun_cvInt, wrun_idxS, wrun_lenS, wop, aop, ev, look, put_some, writes, ores_some, ores_ite_none, binV, thenK, blockK, boolV, intV, List.map_cons, List.map_nil, List.length_nil, List.append_nil, List.replicate_zero, Option.map_some, if_true, if_false, Nat.reduceEqDiff, Nat.reduceLeDiff, reduceCtorEq, Bool.not_true, eq_self, true_and, decide_true, beq_self_eq_true, freeze, lidsL, lids, List.flatMap_cons, List.flatMap_nil, ren, Int.toNat_natCast, *] | simp (disch := omega) only [wrapI] | (with_reducible show wcall _ false (.lit (.func (.func 57) _ _)) _ _ _ _; refine wcall_fn (h57) ?_ ?_ ?_; (next => simp [rfyL, rfy, hget, ints, take_rfy, Int.toNat_natCast]); (next => simp [plainL, plain, plainR, Int.toNat_natCast])) | omega)
      all_goals first | exact hI2.down | exact hI2.down.2 | exact hI2.down.2 _ (by assumption) | (simp [St.only, get_mk, look]; done)
  · have hke : k = w.size := by omega
    subst hke
    obtain ⟨hR, b1, b2⟩ := hend.down (hfin.down hI)
    subst hR
    have h49 := k49 (n := - (vk w (w.size - 1))) (by unfold okI; omega)
    have hwn : IntKind.i64.wrap (- (vk w (w.size - 1))) = - (vk w (w.size - 1)) := wrapI (by omega) (by omega)
    clear hend hstep hfin hI
    generalize vk w (w.size - 1) = n at *
    generalize itoaB (- n) = I at *
    unfold c54l0
    repeat' (first | (with_reducible first | refine T_seq ?_ | refine T_reg ?_ | refine T_skip ?_ | refine T_exit ?_ | refine T_block ?_ | refine T_cond_t rfl ?_ | refine T_cond_f rfl ?_ | (show wcall _ false (.lit (.func (.func 49) _ _)) _ _ _ _; refine wcall_fn (h49) rfl (by simp [plainL, plain]) ?_) | ((first | refine T_cond rfl (fun hc => ?_) (fun hc => ?_) | refine wguard_split (fun hc => ?_) (fun hc => ?_)) <;> have hd := hc <;> (try simp (disch := omega) only [wrapI] at hd) <;> have hs := hd <;> (try simp only [decide_eq_true_eq, decide_eq_false_iff_not, Int.not_lt] at hd) <;> (try simp at hs)) | refine T_ret ?_ | refine leave_of (.inr rfl) _ rfl ?_ | refine leave_of (.inl rfl) _ rfl ?_ | refine wif_intro ?_ (fun hc => ?_) | refine And.intro ?_ ?_ | intro hc) | simp (maxSteps := 4000000) only [wops_nil, wops_cons, wstep_none, wrun_call, wrun_mv, wrun_bin, wrun_neg, wrun_lenS, get_mk, wop, aop, ev, look, put_some, writes, ores_some, binV, thenK, blockK, intV, tupOf, List.map_cons, List.map_nil, List.length_nil, List.append_nil, List.replicate_zero, Option.map_some, if_true, if_false, Nat.reduceEqDiff, Nat.reduceLeDiff, reduceCtorEq, eq_self, true_and, false_and, beq_self_eq_true, freeze, lidsL, lids, List.flatMap_cons, List.flatMap_nil, ren, renL, Int.zero_sub, *] | simp (disch := omega) only [getD_ints, wrapI] | (with_reducible show wcall _ false (.lit (.func (.func 49) _ _)) _ _ _ _; refine wcall_fn (h49) ?_ ?_ ?_; (next => simp [rfyL, rfy, hget, ints, take_rfy, Int.zero_sub]); (next => simp [plainL, plain, plainR, Int.zero_sub])) | omega)
    all_goals first | rfl | (simp; done)
set_option maxHeartbeats 8000000 in
theorem k54s {w : ByteArray} (h : w.size = 0 ∨ (∃ c0, w[0]? = some c0 ∧ ((c0.toNat = 45 ∧ (w.size = 1 ∨ 8 < w.size)) ∨ (c0.toNat ≠ 45 ∧ 7 < w.size)))) (hz : w.size ≤ 1000) : Fn Tryz.prog 54 [tx w, i64 7] (.tup [i64 0, bl false]) [] := by
  refine fn_of e54 ?_
  rcases h with h | ⟨c0, g0, ⟨h1, h2 | h2⟩ | ⟨h1, h2⟩⟩
  · have d1 : ((w.size : Int) == 0) = true := by simp only [beq_iff_eq]; omega
    have d3 : decide ((w.size : Int) > 0) = false := decide_eq_false (by omega)
    unfold c54
    repeat' (first | (with_reducible first | refine T_seq ?_ | refine T_reg ?_ | refine T_skip ?_ | refine T_exit ?_ | refine T_block ?_ | refine T_cond_t rfl ?_ | refine T_cond_f rfl ?_ | ((first | refine T_cond rfl (fun hc => ?_) (fun hc => ?_) | refine wguard_split (fun hc => ?_) (fun hc => ?_)) <;> have hd := hc <;> (try simp (disch := omega) only [wrapI] at hd) <;> have hs := hd <;> (try simp only [decide_eq_true_eq, decide_eq_false_iff_not, beq_iff_eq, beq_eq_false_iff_ne, Bool.not_true, Bool.not_false, gt_iff_lt, Int.not_lt, ne_eq] at hd) <;> (try simp at hs)) | refine T_ret ?_ | refine leave_of (.inr rfl) _ rfl ?_ | refine leave_of (.inl rfl) _ rfl ?_ | refine wif_intro ?_ (fun hc => ?_) | refine And.intro ?_ ?_ | intro hc) | simp (maxSteps := 4000000) only [wops_nil, wops_cons, wstep_none, wstep_some, wguard_tf, wguard_ft, wrun_mv, wrun_pick, wrun_bin, wrun_lenS, get_mk, wop, aop, ev, look, put_some, writes, ores_some, binV, thenK, intV, tupOf, List.map_cons, List.map_nil, List.length_nil, List.append_nil, List.replicate_zero, List.zipIdx_cons, List.zipIdx_nil, Option.map_some, if_true, if_false, Nat.reduceEqDiff, Nat.reduceAdd, Nat.zero_add, reduceCtorEq, Bool.not_true, Bool.false_eq_true, eq_self, beq_self_eq_true, ren, renL, *] | simp (disch := omega) only [getD_ints, wrapI] | omega)
    all_goals first | rfl
  · have d0 : (((c0.toNat : Nat) : Int) == 45) = true := by simp only [beq_iff_eq]; omega
    have d1 : ((w.size : Int) == 1) = true := by simp only [beq_iff_eq]; omega
    have d3 : decide ((w.size : Int) > 0) = true := decide_eq_true (by omega)
    unfold c54
    repeat' (first | (with_reducible first | refine T_seq ?_ | refine T_reg ?_ | refine T_skip ?_ | refine T_exit ?_ | refine T_block ?_ | refine T_cond_t rfl ?_ | refine T_cond_f rfl ?_ | ((first | refine T_cond rfl (fun hc => ?_) (fun hc => ?_) | refine wguard_split (fun hc => ?_) (fun hc => ?_)) <;> have hd := hc <;> (try simp (disch := omega) only [wrapI] at hd) <;> have hs := hd <;> (try simp only [decide_eq_true_eq, decide_eq_false_iff_not, beq_iff_eq, beq_eq_false_iff_ne, Bool.not_true, Bool.not_false, gt_iff_lt, Int.not_lt, ne_eq] at hd) <;> (try simp at hs)) | refine T_ret ?_ | refine leave_of (.inr rfl) _ rfl ?_ | refine leave_of (.inl rfl) _ rfl ?_ | refine wif_intro ?_ (fun hc => ?_) | refine And.intro ?_ ?_ | intro hc) | simp (maxSteps := 4000000) only [wops_nil, wops_cons, wstep_none, wstep_some, wguard_true, wguard_tf, wrun_mv, wrun_pick, wrun_bin, wrun_idxS, wrun_lenS, get_mk, wop, aop, ev, look, put_some, writes, ores_some, ores_ite_none, binV, thenK, intV, tupOf, List.map_cons, List.map_nil, List.length_nil, List.append_nil, List.replicate_zero, List.zipIdx_cons, List.zipIdx_nil, Option.map_some, if_true, if_false, Nat.reduceEqDiff, Nat.reduceAdd, Nat.zero_add, reduceCtorEq, eq_self, decide_true, beq_self_eq_true, ren, renL, Int.toNat_zero, *] | simp (disch := omega) only [getD_ints, wrapI] | omega)
    all_goals first | rfl
  · have d0 : (((c0.toNat : Nat) : Int) == 45) = true := by simp only [beq_iff_eq]; omega
    have d1 : ((w.size : Int) == 1) = false := by simp only [beq_eq_false_iff_ne]; omega
    have d2 : decide ((w.size : Int) > 8) = true := decide_eq_true (by omega)
    have d3 : decide ((w.size : Int) > 0) = true := decide_eq_true (by omega)
    unfold c54
    repeat' (first | (with_reducible first | refine T_seq ?_ | refine T_reg ?_ | refine T_skip ?_ | refine T_exit ?_ | refine T_block ?_ | refine T_cond_t rfl ?_ | refine T_cond_f rfl ?_ | ((first | refine T_cond rfl (fun hc => ?_) (fun hc => ?_) | refine wguard_split (fun hc => ?_) (fun hc => ?_)) <;> have hd := hc <;> (try simp (disch := omega) only [wrapI] at hd) <;> have hs := hd <;> (try simp only [decide_eq_true_eq, decide_eq_false_iff_not, Bool.not_false, gt_iff_lt, Int.not_lt] at hd) <;> (try simp at hs)) | refine T_ret ?_ | refine leave_of (.inr rfl) _ rfl ?_ | refine leave_of (.inl rfl) _ rfl ?_ | refine wif_intro ?_ (fun hc => ?_) | refine And.intro ?_ ?_ | intro hc) | simp (maxSteps := 4000000) only [wops_nil, wops_cons, wstep_none, wstep_some, wguard_true, wguard_ff, wguard_tf, wrun_mv, wrun_pick, wrun_bin, wrun_idxS, wrun_lenS, get_mk, wop, aop, ev, look, put_some, writes, ores_some, ores_ite_none, binV, thenK, intV, tupOf, List.map_cons, List.map_nil, List.length_nil, List.append_nil, List.replicate_zero, List.zipIdx_cons, List.zipIdx_nil, Option.map_some, if_true, if_false, Nat.reduceEqDiff, Nat.reduceAdd, Nat.zero_add, Nat.zero_ne_one, reduceCtorEq, Bool.not_false, Bool.false_eq_true, eq_self, ren, renL, Int.toNat_zero, *] | simp (disch := omega) only [wrapI] | omega)
    all_goals first | rfl
  · have d0 : (((c0.toNat : Nat) : Int) == 45) = false := by simp only [beq_eq_false_iff_ne]; omega
    have d1 : ((w.size : Int) == 0) = false := by simp only [beq_eq_false_iff_ne]; omega
    have d2 : decide ((w.size : Int) > 7) = true := decide_eq_true (by omega)
    have d3 : decide ((w.size : Int) > 0) = true := decide_eq_true (by omega)
    unfold c54
    repeat' (first | (with_reducible first | refine T_seq ?_ | refine T_reg ?_ | refine T_skip ?_ | refine T_exit ?_ | refine T_block ?_ | refine T_cond_t rfl ?_ | refine T_cond_f rfl ?_ | ((first | refine T_cond rfl (fun hc => ?_) (fun hc => ?_) | refine wguard_split (fun hc => ?_) (fun hc => ?_)) <;> have hd := hc <;> (try simp (disch := omega) only [wrapI] at hd) <;> have hs := hd <;> (try simp only [decide_eq_true_eq, decide_eq_false_iff_not, Bool.not_false, gt_iff_lt, Int.not_lt] at hd) <;> (try simp at hs)) | refine T_ret ?_ | refine leave_of (.inr rfl) _ rfl ?_ | refine leave_of (.inl rfl) _ rfl ?_ | refine wif_intro ?_ (fun hc => ?_) | refine And.intro ?_ ?_ | intro hc) | simp (maxSteps := 4000000) only [wops_nil, wops_cons, wstep_none, wstep_some, wguard_true, wguard_ff, wguard_tf, wrun_mv, wrun_pick, wrun_bin, wrun_idxS, wrun_lenS, get_mk, wop, aop, ev, look, put_some, writes, ores_some, ores_ite_none, binV, thenK, intV, tupOf, List.map_cons, List.map_nil, List.length_nil, List.append_nil, List.replicate_zero, List.zipIdx_cons, List.zipIdx_nil, Option.map_some, if_true, if_false, Nat.reduceEqDiff, Nat.reduceAdd, Nat.zero_add, Nat.zero_ne_one, reduceCtorEq, Bool.not_false, Bool.false_eq_true, eq_self, ren, renL, Int.toNat_zero, *] | simp (disch := omega) only [wrapI] | omega)
    all_goals first | rfl
set_option maxHeartbeats 8000000 in
theorem k54 {w : ByteArray} (hz : w.size ≤ 1000) : ∃ v b, Fn Tryz.prog 54 [tx w, i64 7] (.tup [i64 v, bl b]) [] ∧ (b = false → rdI w = none) ∧ (b = true → rdI w = some v) := by
  have hno : ¬ (0 < (dgs w).length ∧ (dgs w).length ≤ 7) → rdI w = none := fun h => by
    cases hr : rdI w with
    | none => rfl
    | some v =>
      obtain ⟨_, _, _, h301, h302⟩ := rdI_is hr
      exact absurd ⟨List.length_pos_iff.2 h301, h302⟩ h
  have short : (w.size = 0 ∨ (∃ c0, w[0]? = some c0 ∧ ((c0.toNat = 45 ∧ (w.size = 1 ∨ 8 < w.size)) ∨ (c0.toNat ≠ 45 ∧ 7 < w.size)))) → ¬ (0 < (dgs w).length ∧ (dgs w).length ≤ 7) → ∃ v b, Fn Tryz.prog 54 [tx w, i64 7] (.tup [i64 v, bl b]) [] ∧ (b = false → rdI w = none) ∧ (b = true → rdI w = some v) :=
    fun h1 h2 => ⟨0, false, k54s h1 hz, fun _ => hno h2, by simp⟩
  by_cases h0 : w.size = 0
  · exact short (.inl h0) (by rw [dgs_len]; omega)
  obtain ⟨c0, g0⟩ : ∃ c, w[0]? = some c := ⟨w[0], getElem?_pos w 0 (by omega)⟩
  have key : ∀ (R : AV), (∀ (i : Nat) (c : UInt8), (dgs w)[i]? = some c → ¬ isD c → R = .tup [i64 0, bl false]) → ((∀ c ∈ dgs w, isD c) → R = .tup [i64 (numV w), bl ((itoaB (numV w)).toList == w.toList)]) → (0 < (dgs w).length ∧ (dgs w).length ≤ 7) → Fn Tryz.prog 54 [tx w, i64 7] R [] := fun R hb hg hl => by
    rw [dgs_len] at hl
    by_cases hc : c0.toNat = 45
    · rw [dgs1 g0 hc] at hl
      simp only [if_true] at hl
      exact k54g1 g0 hc (by omega) hb hg
    · rw [dgs0 g0 hc] at hl
      simp only [Bool.false_eq_true, if_false] at hl
      exact k54g0 g0 hc (by omega) hb hg
  by_cases hl : 0 < (dgs w).length ∧ (dgs w).length ≤ 7
  · by_cases hd : ∀ c ∈ dgs w, isD c
    · refine ⟨numV w, (itoaB (numV w)).toList == w.toList, key _ (fun i c h hn => absurd (hd c (List.mem_of_getElem? h)) hn) (fun _ => rfl) hl, fun h => rdI_no h, fun h => rdI_of hd hl.2 h⟩
    · refine ⟨0, false, key _ (fun _ _ _ _ => rfl) (fun h => absurd h hd) hl, fun _ => ?_, by simp⟩
      cases hr : rdI w with
      | none => rfl
      | some v => exact absurd (rdI_is hr).2.2.1 hd
  · refine short ?_ hl
    rw [dgs_len] at hl
    right
    refine ⟨c0, g0, ?_⟩
    by_cases hc : c0.toNat = 45
    · rw [dgs1 g0 hc] at hl
      simp only [if_true] at hl
      exact .inl ⟨hc, by omega⟩
    · rw [dgs0 g0 hc] at hl
      simp only [Bool.false_eq_true, if_false] at hl
      exact .inr ⟨hc, by omega⟩
end Go.Abs
