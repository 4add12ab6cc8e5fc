import Derived.Test.YtodheeifecoebaaGreatDoorPCmin
import Derived.Test.YtodheeifecoebaaGreatDoorK49x
set_option linter.all false
set_option linter.unusedVariables false
set_option linter.unusedSimpArgs false
set_option linter.unusedSectionVars false
namespace Go.Abs
open Go.Proofs
theorem IsO.app {z : Nat} {M : List (List Int)} {H : List Blk} (h : IsO z M H) (X : List Blk) : IsO z M (H ++ X) := by
  refine ⟨?_, fun i hi => ?_⟩
  · rw [List.getElem?_append_left ((List.getElem?_eq_some_iff.1 h.t).1)]; exact h.t
  · rw [List.getElem?_append_left ((List.getElem?_eq_some_iff.1 (h.r i hi)).1)]; exact h.r i hi
theorem at_app {H : List Blk} {i : Nat} {b : Blk} (h : H[i]? = some b) (X : List Blk) : (H ++ X)[i]? = some b := by
  rw [List.getElem?_append_left ((List.getElem?_eq_some_iff.1 h).1)]; exact h
theorem set_app {H : List Blk} {i : Nat} {b : Blk} (h : H[i]? = some b) (X : List Blk) (c : Blk) : (H ++ X).set i c = H.set i c ++ X := by
  rw [List.set_append_left _ _ ((List.getElem?_eq_some_iff.1 h).1)]
theorem end_at (H : List Blk) (b : Blk) : (H ++ [b])[H.length]? = some b := by simp
theorem end_set (H : List Blk) (b c : Blk) : (H ++ [b]).set H.length c = H ++ [c] := by simp
set_option maxHeartbeats 8000000 in
theorem k42l1 {z ia : Nat} {P : Nat → Int} {A : List Ar} {M : List (List Int)} {V : AV} {own n : Bool} (hz : z ≤ 40) (hn : A.length ≤ 200) (hA : okAr A z) (hPA : ∀ k, k < A.length → P (A.getD k ar0).t.toNat ≤ P (A.getD k ar0).f.toNat + (A.getD k ar0).len) (hL : Lb z P M) (K : Exit → St → Prop) (k : Nat) (hk : k < A.length) (H : List Blk) (hV : V = .lsl ia 0 A.length) (hia : H[ia]? = some (.cells own n 4 (arows A))) (hH : IsO z (arM A M k) H) (hi0 : ia ≠ 0) (hi1 : ∀ i, ia ≠ 2 + 2 * i ∨ z ≤ i) :
    T none Tryz.prog muts 126 0 c42l1 ⟨[(5, .lsl 0 0 z), (33, V), (34, i64 A.length), (35, i64 k)], H⟩ (thenK (fun s' => k < A.length ∧ (s'.heap[ia]? = some (.cells own n 4 (arows A)) ∧ IsO z (arM A M (k + 1)) s'.heap) ∧ (s'.only [5, 33, 34, 35]).slots = [(5, .lsl 0 0 z), (33, V), (34, i64 A.length), (35, i64 ((k + 1 : Nat) : Int))]) K) := by
  subst hV
  have hM := hL.arM hA hPA k (by omega)
  have e : arM A M (k + 1) = mset (arM A M k) (A.getD k ar0).f.toNat (A.getD k ar0).t.toNat (min (mget (arM A M k) (A.getD k ar0).f.toNat (A.getD k ar0).t.toNat) (A.getD k ar0).len) := rfl
  rw [e]
  obtain ⟨hf, ht0, hlen1, hlen2⟩ := hA k hk
  have hg := arows_get hk
  have hal := arows_len A
  generalize arM A M k = M' at *
  clear hL hPA hA e
  generalize A.getD k ar0 = a at *
  have hfz : a.f.toNat < z := by omega
  have htz : a.t.toNat < z := by omega
  have hf2 : ((a.f.toNat : Nat) : Int) = a.f := by omega
  have ht2 : ((a.t.toNat : Nat) : Int) = a.t := by omega
  have hm0 := hH.mset hM.sq hfz a.t.toNat (min (mget M' a.f.toNat a.t.toNat) a.len)
  have hm1 : ∀ b : Blk, IsO z (mset M' a.f.toNat a.t.toNat (min (mget M' a.f.toNat a.t.toNat) a.len)) (H.set (2 + 2 * a.f.toNat) (.cells true false 1 (((M'.getD a.f.toNat []).set a.t.toNat (min (mget M' a.f.toNat a.t.toNat) a.len)).map fun x => [i64 x])) ++ [b]) := fun b => hm0.app [b]
  have hia1 := at_app hia
  have hia2 : ∀ c b : Blk, (H.set (2 + 2 * a.f.toNat) c ++ [b])[ia]? = some (.cells own n 4 (arows A)) := fun c b => at_app (by rw [List.getElem?_set_ne (by rcases hi1 a.f.toNat with h | h <;> omega)]; exact hia) [b]
  have hT1 := at_app hH.t
  have hr1 := at_app (hH.r a.f.toNat hfz)
  have hs1 := set_app (hH.r a.f.toNat hfz)
  have he1 := end_at H
  have he2 := end_set H
  have htf := tRows_get hfz
  have hsq := hM.sq.hr a.f.toNat hfz
  have g3 : ((M'.getD a.f.toNat []).map fun x => [i64 x]).getD a.t.toNat [] = [i64 (mget M' a.f.toNat a.t.toNat)] := getD_ints (by omega)
  have hgi : ((M'.getD a.f.toNat []).map fun x => [i64 x]).length = z := by rw [List.length_map]; exact hsq
  have em : (if a.len < mget M' a.f.toNat a.t.toNat then a.len else mget M' a.f.toNat a.t.toNat) = min (mget M' a.f.toNat a.t.toNat) a.len := by rw [Int.min_def]; split <;> split <;> omega
  clear hm0 hM hH
  generalize Abs.mset M' a.f.toNat a.t.toNat (min (mget M' a.f.toNat a.t.toNat) a.len) = M2 at *
  unfold c42l1
  repeat' (first | ((with_reducible refine T_calm ?_ ?_); rfl) | (with_reducible first | refine T_seq ?_ | refine T_reg ?_ | refine T_draw ?_ | refine T_skip ?_ | refine T_exit ?_ | refine T_block ?_ | refine T_cond_t rfl ?_ | refine T_cond_f rfl ?_ | refine wdW_cons rfl ?_ | ((first | refine T_cond rfl (fun hc => ?_) (fun hc => ?_) | refine wguard_split (fun hc => ?_) (fun hc => ?_) | refine wguardX_split (fun hc => ?_) (fun hc => ?_)) <;> have hd := hc <;> (try simp (disch := omega) only [wrapI] at hd) <;> have hs := hd <;> (try simp only [decide_eq_true_eq, decide_eq_false_iff_not, Int.not_lt] at hd) <;> (try simp at hs)) | refine T_ret ?_ | refine leave_of (.inr rfl) _ rfl ?_ | refine leave_of (.inl rfl) _ rfl ?_ | refine wif_intro ?_ (fun hc => ?_) | refine And.intro ?_ ?_ | intro hc) | simp (maxSteps := 4000000) only [wops_nil, wops_cons, wstep_none, wrun_mv, wrun_bin, wrun_load, wrun_store, wrun_faddr, wrun_iaddrS, wrun_minmax, wrun_alloc, wrunX_mv, wrunX_load, wrunX_store, wrunX_faddr, wrunX_iaddrS, wrunX_minmax, wdW_nil, wstepX_none, wop, aop, ev, look, put_some, put_none, writes, ores_some, ores_ite_none, binV, thenK, blockK, value, cut, hget, putCells, AV.parts, isOne, toLits, mkAgg, ofValue_int, List.map_cons, List.map_nil, List.length_cons, List.length_nil, List.set_cons_zero, List.take_succ_cons, List.take_zero, List.take_nil, List.drop_succ_cons, List.drop_zero, List.drop_nil, List.nil_append, List.append_nil, List.append_assoc, List.replicate_zero, List.replicate_succ, List.getD_cons_zero, List.all_cons, List.all_nil, List.length_append, Option.getD_some, Option.map_some, if_true, if_false, Nat.reduceEqDiff, Nat.reduceAdd, Nat.reduceLT, Nat.add_zero, Nat.zero_add, Nat.le_refl, reduceCtorEq, Bool.and_true, Bool.false_eq_true, eq_self, true_and, and_true, and_self, decide_true, List.all_cons, Int.toNat_natCast, set_ints, *] | simp (disch := omega) only [wrapI] | omega)
  simp [St.only, get_mk, look]
/-! the table begun -/
def ini (z i : Nat) : List Int := (List.replicate z far).set i 0
def tPart (z k : Nat) : List (List AV) := (List.range z).map fun i => if i < k then [AV.lsl (2 + 2 * i) 0 z] else [AV.sl true 0 []]
theorem tPart_len (z k : Nat) : (tPart z k).length = z := by simp [tPart]
theorem tPart_set {z k : Nat} (hk : k < z) : (tPart z k).set k [AV.lsl (2 + 2 * k) 0 z] = tPart z (k + 1) := by
  refine List.ext_getElem (by simp [tPart]) fun i h1 h2 => ?_
  rw [List.getElem_set]
  by_cases hik : k = i
  · subst hik; simp [tPart]
  · simp only [if_neg hik, tPart, List.getElem_map, List.getElem_range]
    by_cases h200 : i < k
    · rw [if_pos h200, if_pos (by omega)]
    · rw [if_neg h200, if_neg (by omega)]
theorem tPart_get {z k : Nat} (hk : k < z) : (tPart z (k + 1)).getD k [] = [AV.lsl (2 + 2 * k) 0 z] := by simp [tPart, List.getD, hk]
theorem tPart_all (z : Nat) : tPart z z = tRows z := by
  unfold tPart tRows
  exact List.map_congr_left fun i hi => if_pos (List.mem_range.1 hi)
theorem tPart_zero (z : Nat) : tPart z 0 = List.replicate z [AV.sl true 0 []] := by
  refine List.ext_getElem (by simp [tPart]) fun i h1 h2 => ?_
  simp [tPart]
structure IsP (z k : Nat) (H : List Blk) : Prop where
  len : H.length = 1 + 2 * k
  t : H[0]? = some (.cells true false 1 (tPart z k))
  r : ∀ i, i < k → H[2 + 2 * i]? = some (.cells true false 1 ((ini z i).map fun x => [i64 x]))
theorem IsP.next {z k : Nat} {H : List Blk} (h : IsP z k H) (b : Blk) : IsP z (k + 1) (H.set 0 (.cells true false 1 (tPart z (k + 1))) ++ [b, .cells true false 1 ((ini z k).map fun x => [i64 x])]) := by
  refine ⟨by simp [h.len]; omega, ?_, fun i hi => ?_⟩
  · rw [List.getElem?_append_left (by rw [List.length_set, h.len]; omega)]
    rw [List.getElem?_set_self (by rw [h.len]; omega)]
  · by_cases hik : i = k
    · subst hik
      rw [List.getElem?_append_right (by rw [List.length_set, h.len]; omega), List.length_set, h.len, show 2 + 2 * i - (1 + 2 * i) = 1 by omega]
      rfl
    · refine at_app ?_ _
      rw [List.getElem?_set_ne (by omega)]
      exact h.r i (by omega)
set_option maxHeartbeats 8000000 in
theorem k42l0 {z : Nat} {V1 : AV} (hz : z ≤ 40) (K : Exit → St → Prop) (k : Nat) (hk : k < z) (H : List Blk) (hH : IsP z k H) :
    T none Tryz.prog muts 126 0 c42l0 ⟨[(0, i64 z), (1, V1), (5, .lsl 0 0 z), (15, i64 z), (16, i64 k)], H⟩ (thenK (fun s' => k < z ∧ IsP z (k + 1) s'.heap ∧ (s'.only [0, 1, 5, 15, 16]).slots = [(0, i64 z), (1, V1), (5, .lsl 0 0 z), (15, i64 z), (16, i64 ((k + 1 : Nat) : Int))]) K) := by
  have hnx := hH.next
  have hln := hH.len
  have htl := tPart_len z k
  have hts := tPart_set hk
  have htg := tPart_get hk
  have h66 := k66 z (by omega)
  have hx1 : ∀ b : Blk, (H ++ [b])[1 + 2 * k]? = some b := fun b => by rw [← hln]; simp
  have hx2 : ∀ b c : Blk, (H ++ [b]).set (1 + 2 * k) c = H ++ [c] := fun b c => by rw [← hln]; simp
  have hx3 := at_app hH.t
  have hx4 := set_app hH.t
  have hset : ∀ (T c b d : Blk), (H.set 0 T ++ [c, b]).set (2 + 2 * k) d = H.set 0 T ++ [c, d] := fun T c b d => by
    rw [List.set_append_right _ _ (by rw [List.length_set, hln]; omega), List.length_set, hln, show 2 + 2 * k - (1 + 2 * k) = 1 by omega]; rfl
  have hat0 : ∀ (T c b : Blk), (H.set 0 T ++ [c, b])[0]? = some T := fun T c b => by
    rw [List.getElem?_append_left (by rw [List.length_set, hln]; omega), List.getElem?_set_self (by rw [hln]; omega)]
  have hat2 : ∀ (T c b : Blk), (H.set 0 T ++ [c, b])[2 + 2 * k]? = some b := fun T c b => by
    rw [List.getElem?_append_right (by rw [List.length_set, hln]; omega), List.length_set, hln, show 2 + 2 * k - (1 + 2 * k) = 1 by omega]; rfl
  have hfz : freeze1 (H ++ [Blk.cells true false 1 [[i64 far]]]) (1 + 2 * k) = H ++ [Blk.cells false false 1 [[i64 far]]] := by
    unfold freeze1; rw [hx1]; exact hx2 _ _
  have hini : (List.replicate z far).set k 0 = ini z k := rfl
  have happ : ∀ b c : Blk, H ++ [b] ++ [c] = H ++ [b, c] := fun b c => by simp
  have hg0 : (tPart z k).getD k [] = [AV.sl true 0 []] := by simp [tPart, List.getD, hk]
  have hid : 1 + 2 * k + 1 = 2 + 2 * k := by omega
  have hrl : ((List.replicate z far).map fun x => [i64 x]).getD k [] = [i64 far] := by simp [List.getD, hk]
  clear hH
  unfold c42l0
  repeat' (first | ((with_reducible refine T_calm ?_ ?_); rfl) | (with_reducible first | refine T_seq ?_ | refine T_reg ?_ | refine T_draw ?_ | refine T_skip ?_ | refine T_exit ?_ | refine T_block ?_ | refine T_cond_t rfl ?_ | refine T_cond_f rfl ?_ | refine wdW_cons rfl ?_ | (show wcall _ false (.lit (.func (.func 66) _ _)) _ _ _ _; refine wcall_fn (h66) rfl (by simp [plainL, plain, plainR]) ?_) | (show wcallX _ false (.lit (.func (.func 66) _ _)) _ _ _ _; refine wcallX_fn (h66) rfl (by simp [plainL, plain, plainR, Int.toNat_natCast, set_ints, hx1]) ?_) | ((first | refine T_cond rfl (fun hc => ?_) (fun hc => ?_) | refine wguard_split (fun hc => ?_) (fun hc => ?_) | refine wguardX_split (fun hc => ?_) (fun hc => ?_)) <;> have hd := hc <;> (try simp (disch := omega) only [wrapI] at hd) <;> have hs := hd <;> (try simp only [decide_eq_true_eq, decide_eq_false_iff_not, Int.not_lt] at hd) <;> (try simp at hs)) | refine T_ret ?_ | refine leave_of (.inr rfl) _ rfl ?_ | refine leave_of (.inl rfl) _ rfl ?_ | refine wif_intro ?_ (fun hc => ?_) | refine And.intro ?_ ?_ | intro hc) | simp (maxSteps := 4000000) only [wops_nil, wops_cons, wstep_none, wrun_call, wrun_mv, wrun_bin, wrun_load, wrun_store, wrun_iaddrS, wrun_bslice, wop, aop, ev, look, put_some, put_none, writes, ores_some, ores_ite_none, binV, thenK, blockK, value, cut, hget, fillA, putCells, AV.parts, isOne, mkAgg, List.flatten_cons, List.flatten_nil, rowsOf, List.map_cons, List.map_nil, List.length_cons, List.length_nil, List.take_succ_cons, List.take_zero, List.take_nil, List.drop_succ_cons, List.drop_zero, List.drop_nil, List.cons_append, List.nil_append, List.append_nil, List.append_assoc, List.replicate_zero, List.replicate_succ, List.all_cons, List.all_nil, List.length_append, List.length_map, List.length_replicate, Option.getD_some, Option.map_some, if_true, if_false, Nat.reduceEqDiff, Nat.reduceAdd, Nat.add_zero, Nat.zero_add, Nat.mul_one, Nat.le_refl, reduceCtorEq, Bool.and_true, Bool.false_eq_true, eq_self, true_and, and_true, and_self, decide_true, freeze, lidsL, lids, List.flatMap_cons, List.flatMap_nil, List.all_cons, ren, renB, shiftρ, renR_ints, Int.toNat_natCast, set_ints, *] | simp (disch := omega) only [wrapI] | (with_reducible show wcall _ false (.lit (.func (.func 66) _ _)) _ _ _ _; refine wcall_fn (h66) ?_ ?_ ?_; (next => simp [rfyL, rfy, hget, ints, hx1]); (next => simp [plainL, plain, plainR])) | (with_reducible show wcallX _ false (.lit (.func (.func 66) _ _)) _ _ _ _; refine wcallX_fn (h66) ?_ ?_ ?_; (next => simp [rfyL, rfy, hget, ints, take_rfy, Int.toNat_natCast, set_ints, hx1]); (next => simp [plainL, plain, plainR, Int.toNat_natCast, set_ints, hx1])) | omega)
  simp [St.only, get_mk, look]
end Go.Abs
