import Derived.Test.YtodheeifecoebaaGreatDoorPCmin
import Derived.Test.YtodheeifecoebaaGreatDoorK93x
set_option linter.all false
set_option linter.unusedVariables false
set_option linter.unusedSimpArgs false
set_option linter.unusedSectionVars false
namespace Go.Abs
open Go.Proofs
def tQ (z k : Nat) : List (List AV) := (List.range z).map fun i => if i < k then [AV.lsl (1 + i) 0 z] else [AV.sl true 0 []]
theorem tQ_len (z k : Nat) : (tQ z k).length = z := by simp [tQ]
theorem tQ_set {z k : Nat} (hk : k < z) : (tQ z k).set k [AV.lsl (1 + k) 0 z] = tQ z (k + 1) := by
  refine List.ext_getElem (by simp [tQ]) fun i h1 h2 => ?_
  rw [List.getElem_set]
  by_cases hik : k = i
  · subst hik; simp [tQ]
  · simp only [if_neg hik, tQ, List.getElem_map, List.getElem_range]
    by_cases h200 : i < k
    · rw [if_pos h200, if_pos (by omega)]
    · rw [if_neg h200, if_neg (by omega)]
theorem tQ_get {z k : Nat} (hk : k < z) : (tQ z (k + 1)).getD k [] = [AV.lsl (1 + k) 0 z] := by simp [tQ, List.getD, hk]
theorem tQ_all (z : Nat) : tQ z z = (List.range z).map fun i => [AV.lsl (1 + i) 0 z] := List.map_congr_left fun i hi => if_pos (List.mem_range.1 hi)
theorem tQ_zero (z : Nat) : tQ z 0 = List.replicate z [AV.sl true 0 []] := by
  refine List.ext_getElem (by simp [tQ]) fun i h1 h2 => ?_
  simp [tQ]
def fil (z b : Nat) : List Int := (List.range z).map fun i => if i < b then FAR else 0
theorem fil_len (z b : Nat) : (fil z b).length = z := by simp [fil]
theorem fil_set {z b : Nat} (hb : b < z) : (fil z b).set b FAR = fil z (b + 1) := by
  refine List.ext_getElem (by simp [fil]) fun i h1 h2 => ?_
  rw [List.getElem_set]
  by_cases hib : b = i
  · subst hib; simp [fil]
  · simp only [if_neg hib, fil, List.getElem_map, List.getElem_range]
    by_cases h200 : i < b
    · rw [if_pos h200, if_pos (by omega)]
    · rw [if_neg h200, if_neg (by omega)]
theorem fil_zero (z : Nat) : fil z 0 = List.replicate z 0 := by
  refine List.ext_getElem (by simp [fil]) fun i h1 h2 => ?_
  simp [fil]
theorem fil_all {z i : Nat} : (fil z z).set i 0 = (ini z i).map rv := by
  have : fil z z = (List.replicate z far).map rv := by
    rw [List.map_replicate]
    refine List.ext_getElem (by simp [fil]) fun j h1 h2 => ?_
    simp [fil] at h1 ⊢
    rw [if_pos h1]; rfl
  rw [this, ini, List.map_set]
  rfl
structure IsZ (z k : Nat) (H : List Blk) : Prop where
  len : H.length = 1 + k
  t : H[0]? = some (.cells true false 1 (tQ z k))
  r : ∀ i, i < k → H[1 + i]? = some (.cells true false 1 (((ini z i).map rv).map fun x => [i64 x]))
structure IsY (z k : Nat) (row : List Int) (H : List Blk) : Prop where
  len : H.length = 2 + k
  t : H[0]? = some (.cells true false 1 (tQ z (k + 1)))
  r : ∀ i, i < k → H[1 + i]? = some (.cells true false 1 (((ini z i).map rv).map fun x => [i64 x]))
  c : H[1 + k]? = some (.cells true false 1 (row.map fun x => [i64 x]))
theorem IsY.set {z k : Nat} {row : List Int} {H : List Blk} (h : IsY z k row H) (row' : List Int) : IsY z k row' (H.set (1 + k) (.cells true false 1 (row'.map fun x => [i64 x]))) :=
  ⟨by rw [List.length_set]; exact h.len, by rw [List.getElem?_set_ne (by omega)]; exact h.t, fun i hi => by rw [List.getElem?_set_ne (by omega)]; exact h.r i hi, List.getElem?_set_self (by rw [h.len]; omega)⟩
theorem IsY.done {z k : Nat} {H : List Blk} (h : IsY z k ((ini z k).map rv) H) : IsZ z (k + 1) H :=
  ⟨by rw [h.len]; omega, h.t, fun i hi => by
    by_cases hik : i = k
    · subst hik; exact h.c
    · exact h.r i (by omega)⟩
theorem IsZ.next {z k : Nat} {H : List Blk} (h : IsZ z k H) (row : List Int) : IsY z k row (H.set 0 (.cells true false 1 (tQ z (k + 1))) ++ [.cells true false 1 (row.map fun x => [i64 x])]) := by
  have hl := h.len
  refine ⟨by simp [hl]; omega, ?_, fun i hi => ?_, ?_⟩
  · refine at_app (List.getElem?_set_self (by omega)) _
  · refine at_app ?_ _
    rw [List.getElem?_set_ne (by omega)]; exact h.r i hi
  · rw [List.getElem?_append_right (by rw [List.length_set]; omega), List.length_set, hl, show 1 + k - (1 + k) = 0 by omega]; rfl
theorem zeros_ints' (n : Nat) : List.replicate n [AV.lit (Value.int IntKind.i64 0)] = (List.replicate n (0 : Int)).map fun x => [i64 x] := by rw [List.map_replicate]
set_option maxHeartbeats 8000000 in
theorem k29l0 {z k : Nat} {V1 : AV} (hz : z ≤ 40) (hk : k < z) (K : Exit → St → Prop) (b : Nat) (hb : b < z) (H : List Blk) (hH : IsY z k (fil z b) H) :
    T none Tryz.prog muts 174 0 c29l0 ⟨[(0, i64 z), (1, V1), (6, .lsl 0 0 z), (7, i64 k), (8, i64 b)], H⟩ (thenK (fun s' => b < z ∧ IsY z k (fil z (b + 1)) s'.heap ∧ (s'.only [0, 1, 6, 7, 8]).slots = [(0, i64 z), (1, V1), (6, .lsl 0 0 z), (7, i64 k), (8, i64 ((b + 1 : Nat) : Int))]) K) := by
  have hnx := hH.set (fil z (b + 1))
  obtain ⟨hlen, ht, _, hc⟩ := hH
  have htl := tQ_len z (k + 1)
  have htg := tQ_get hk
  have hfl := fil_len z b
  have hfs := fil_set hb
  have hgl : ((fil z b).map fun x => [i64 x]).length = z := by rw [List.length_map]; exact hfl
  have hgd : ((fil z b).map fun x => [i64 x]).getD b [] = [i64 ((fil z b).getD b 0)] := getD_ints (by omega)
  have hfs2 : (fil z b).set b 1000000000000 = fil z (b + 1) := hfs
  unfold c29l0
  repeat' (first | ((with_reducible refine T_calm ?_ ?_); rfl) | (with_reducible first | refine T_seq ?_ | refine T_reg ?_ | refine T_draw ?_ | refine T_skip ?_ | refine T_exit ?_ | refine T_block ?_ | refine T_cond_t rfl ?_ | refine T_cond_f rfl ?_ | refine wdW_cons rfl ?_ | ((first | refine T_cond rfl (fun hc => ?_) (fun hc => ?_) | refine wguard_split (fun hc => ?_) (fun hc => ?_) | refine wguardX_split (fun hc => ?_) (fun hc => ?_)) <;> have hd := hc <;> (try simp (disch := omega) only [wrapI] at hd) <;> have hs := hd <;> (try simp only [decide_eq_true_eq, decide_eq_false_iff_not, Int.not_lt] at hd) <;> (try simp at hs)) | refine T_ret ?_ | refine leave_of (.inr rfl) _ rfl ?_ | refine leave_of (.inl rfl) _ rfl ?_ | refine wif_intro ?_ (fun hc => ?_) | refine And.intro ?_ ?_ | intro hc) | simp (maxSteps := 4000000) only [wops_nil, wops_cons, wstep_none, wrun_mv, wrun_bin, wrun_load, wrun_store, wrun_iaddrS, wop, aop, ev, look, put_some, put_none, writes, ores_some, ores_ite_none, binV, thenK, blockK, value, cut, hget, putCells, AV.parts, isOne, mkAgg, List.length_cons, List.length_nil, List.take_succ_cons, List.take_zero, List.take_nil, List.drop_succ_cons, List.drop_zero, List.drop_nil, List.cons_append, List.nil_append, List.append_nil, List.append_assoc, List.replicate_zero, List.all_cons, List.all_nil, Option.getD_some, Option.map_some, if_true, if_false, Nat.reduceEqDiff, Nat.zero_add, Nat.le_refl, reduceCtorEq, Bool.and_true, Bool.false_eq_true, eq_self, true_and, and_true, and_self, decide_true, List.all_cons, Int.toNat_natCast, set_ints, *] | simp (disch := omega) only [wrapI] | omega)
  simp [St.only, get_mk, look]
set_option maxHeartbeats 8000000 in
theorem k29l1 {z : Nat} {V1 : AV} (hz : z ≤ 40) (K : Exit → St → Prop) (k : Nat) (hk : k < z) (H : List Blk) (hH : IsZ z k H) :
    T none Tryz.prog muts 174 0 c29l1 ⟨[(0, i64 z), (1, V1), (6, .lsl 0 0 z), (7, i64 k)], H⟩ (thenK (fun s' => k < z ∧ IsZ z (k + 1) s'.heap ∧ (s'.only [0, 1, 6, 7]).slots = [(0, i64 z), (1, V1), (6, .lsl 0 0 z), (7, i64 ((k + 1 : Nat) : Int))]) K) := by
  have hnx := hH.next (List.replicate z 0)
  have hln := hH.len
  have hx1 : ∀ b : Blk, (H ++ [b])[1 + k]? = some b := fun b => by rw [← hln]; simp
  have hx2 : ∀ b c : Blk, (H ++ [b]).set (1 + k) c = H ++ [c] := fun b c => by rw [← hln]; simp
  have hx3 := at_app hH.t
  have hx4 := set_app hH.t
  have htl := tQ_len z k
  have hts := tQ_set hk
  have hg0 : (tQ z k).getD k [] = [AV.sl true 0 []] := by simp [tQ, List.getD, hk]
  have hzi := zeros_ints' z
  clear hH
  unfold c29l1
  repeat' (first | ((with_reducible refine T_calm ?_ ?_); rfl) | (with_reducible first | refine T_seq ?_ | refine T_reg ?_ | refine T_draw ?_ | refine T_skip ?_ | refine T_exit ?_ | refine T_block ?_ | refine T_cond_t rfl ?_ | refine T_cond_f rfl ?_ | refine wdW_cons rfl ?_ | ((first | refine T_cond rfl (fun hc => ?_) (fun hc => ?_) | refine wguard_split (fun hc => ?_) (fun hc => ?_) | refine wguardX_split (fun hc => ?_) (fun hc => ?_)) <;> have hd := hc <;> (try simp (disch := omega) only [wrapI] at hd) <;> have hs := hd <;> (try simp only [decide_eq_true_eq, decide_eq_false_iff_not, Int.not_lt] at hd) <;> (try simp at hs)) | refine T_ret ?_ | refine leave_of (.inr rfl) _ rfl ?_ | refine leave_of (.inl rfl) _ rfl ?_ | refine wif_intro ?_ (fun hc => ?_) | refine And.intro ?_ ?_ | intro hc) | simp (maxSteps := 4000000) only [wops_nil, wops_cons, wstep_none, wrun_mv, wrun_bin, wrun_store, wrun_iaddrS, wrun_mks, wop, aop, ev, look, put_some, put_none, writes, ores_some, ores_ite_none, binV, thenK, hget, putCells, AV.parts, isOne, List.length_cons, List.length_nil, List.take_zero, List.drop_succ_cons, List.drop_nil, List.cons_append, List.nil_append, List.append_nil, List.append_assoc, List.replicate_zero, List.replicate_succ, List.all_cons, List.all_nil, List.length_append, Option.getD_some, Option.map_some, if_true, if_false, Nat.reduceEqDiff, Nat.add_zero, Nat.zero_add, Nat.le_refl, reduceCtorEq, Bool.and_true, eq_self, true_and, and_true, and_self, decide_true, List.all_cons, Int.toNat_natCast, *] | simp (disch := omega) only [getD_ints, wrapI] | omega)
  refine T_forH [0, 1, 6, 7, 8] (fun b => [(0, i64 z), (1, V1), (6, .lsl 0 0 z), (7, i64 k), (8, i64 b)]) z (fun b H => IsY z k (fil z b) H) 0 ?_ ?_ (Nat.zero_le _) ?_
  · simp [St.only, get_mk, look]
  · rw [fil_zero]
    simpa using hnx
  clear hnx hx1 hx2 hx3 hx4 hts hg0 hln
  intro b H' hb hH'
  by_cases hbz : b < z
  · exact k29l0 hz hk _ b hbz H' hH'
  · have hbe : b = z := by omega
    subst hbe
    have hfin := (hH'.set ((ini b k).map rv)).done
    obtain ⟨hlen, ht, _, hc⟩ := hH'
    have htl := tQ_len b (k + 1)
    have htg := tQ_get hk
    have hfl := fil_len b b
    have hfa := fil_all (z := b) (i := k)
    have hgl : ((fil b b).map fun x => [i64 x]).length = b := by rw [List.length_map]; exact hfl
    have hgd : ((fil b b).map fun x => [i64 x]).getD k [] = [i64 ((fil b b).getD k 0)] := getD_ints (by omega)
    unfold c29l0
    repeat' (first | ((with_reducible refine T_calm ?_ ?_); rfl) | (with_reducible first | refine T_seq ?_ | refine T_reg ?_ | refine T_draw ?_ | refine T_skip ?_ | refine T_exit ?_ | refine T_block ?_ | refine T_cond_t rfl ?_ | refine T_cond_f rfl ?_ | refine wdW_cons rfl ?_ | ((first | refine T_cond rfl (fun hc => ?_) (fun hc => ?_) | refine wguard_split (fun hc => ?_) (fun hc => ?_) | refine wguardX_split (fun hc => ?_) (fun hc => ?_)) <;> have hd := hc <;> (try simp (disch := omega) only [wrapI] at hd) <;> have hs := hd <;> (try simp only [decide_eq_true_eq, decide_eq_false_iff_not, Int.not_lt] at hd) <;> (try simp at hs)) | refine T_ret ?_ | refine leave_of (.inr rfl) _ rfl ?_ | refine leave_of (.inl rfl) _ rfl ?_ | refine wif_intro ?_ (fun hc => ?_) | refine And.intro ?_ ?_ | intro hc) | simp (maxSteps := 4000000) only [wops_nil, wops_cons, wstep_none, wrun_mv, wrun_bin, wrun_load, wrun_store, wrun_iaddrS, wop, aop, ev, look, put_some, put_none, writes, ores_some, binV, thenK, blockK, value, cut, hget, putCells, AV.parts, isOne, mkAgg, List.length_cons, List.length_nil, List.take_succ_cons, List.take_zero, List.take_nil, List.drop_succ_cons, List.drop_zero, List.drop_nil, List.cons_append, List.nil_append, List.append_nil, List.append_assoc, List.replicate_zero, List.all_cons, List.all_nil, Option.getD_some, Option.map_some, if_true, if_false, Nat.reduceEqDiff, Nat.zero_add, Nat.le_refl, reduceCtorEq, Bool.and_true, Bool.false_eq_true, eq_self, true_and, and_self, false_and, List.all_cons, Int.toNat_natCast, set_ints, *] | simp (disch := omega) only [wrapI] | omega)
    simp [St.only, get_mk, look]
end Go.Abs
