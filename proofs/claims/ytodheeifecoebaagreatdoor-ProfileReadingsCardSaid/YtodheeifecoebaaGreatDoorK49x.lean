import Derived.Test.YtodheeifecoebaaGreatDoorPCmin
import Derived.Test.YtodheeifecoebaaGreatDoorK8
import Derived.Test.YtodheeifecoebaaGreatDoorK44x
set_option linter.all false
set_option linter.unusedVariables false
set_option linter.unusedSimpArgs false
set_option linter.unusedSectionVars false
namespace Go.Abs
open Go.Proofs
theorem T_forH {P : Program} {muts : List FuncId} {N b : Nat} {σ : St} {K : Exit → St → Prop} {md : Option Nat} {p : ACode} (ts : List Nat) (SL : Nat → List (Nat × AV)) (m : Nat) (I : Nat → List Blk → Prop) (k0 : Nat) (h0 : (σ.only ts).slots = SL k0) (hI0 : I k0 σ.heap) (hk0 : k0 ≤ m)
    (h : ∀ k H, k ≤ m → I k H → T md P muts N b p ⟨SL k, H⟩ (thenK (fun s' => k < m ∧ I (k + 1) s'.heap ∧ (s'.only ts).slots = SL (k + 1)) K)) : T md P muts N b (.loop p) σ K :=
  T_loop_only ts (fun n s => ∃ k H, k ≤ m ∧ I k H ∧ n = m - k ∧ s = ⟨SL k, H⟩) (m - k0) ⟨k0, σ.heap, hk0, hI0, rfl, by rw [← h0]; rfl⟩ fun n s ⟨k, H, hk, hI, hn, hs⟩ => by
    subst hs hn
    refine T_mono (h k H hk hI) fun e s' hK => ?_
    cases e with
    | normal => obtain ⟨h1, h2, h200⟩ := hK; exact ⟨m - (k + 1), by omega, k + 1, s'.heap, h1, h2, rfl, by rw [← h200]; rfl⟩
    | _ => exact hK
/-! tables -/
def mget (M : List (List Int)) (i j : Nat) : Int := (M.getD i []).getD j 0
def mset (M : List (List Int)) (i j : Nat) (v : Int) : List (List Int) := M.set i ((M.getD i []).set j v)
structure Sq (z : Nat) (M : List (List Int)) : Prop where
  hl : M.length = z
  hr : ∀ i, i < z → (M.getD i []).length = z
theorem getD_set_row (M : List (List Int)) (i k : Nat) (v : List Int) : (M.set i v).getD k [] = if i = k ∧ i < M.length then v else M.getD k [] := by
  simp only [List.getD_eq_getElem?_getD]
  by_cases h : i = k
  · subst h
    by_cases h2 : i < M.length
    · simp [h2]
    · rw [List.set_eq_of_length_le (by omega), if_neg (by omega)]
  · rw [List.getElem?_set_ne h, if_neg (fun h200 => h h200.1)]
theorem mget_mset {z : Nat} {M : List (List Int)} (h : Sq z M) {i j : Nat} (hi : i < z) (hj : j < z) (v : Int) (a b : Nat) : mget (mset M i j v) a b = if i = a ∧ j = b then v else mget M a b := by
  unfold mget mset
  rw [getD_set_row, h.hl]
  by_cases ha : i = a
  · subst ha
    rw [if_pos ⟨rfl, hi⟩, getD_set_int, h.hr i hi]
    by_cases hb : j = b
    · rw [if_pos ⟨hb, hj⟩, if_pos ⟨rfl, hb⟩]
    · rw [if_neg (fun x => hb x.1), if_neg (fun x => hb x.2)]
  · rw [if_neg (fun x => ha x.1), if_neg (fun x => ha x.1)]
theorem Sq.mset {z : Nat} {M : List (List Int)} (h : Sq z M) (i j : Nat) (v : Int) : Sq z (mset M i j v) := by
  refine ⟨by simp [Abs.mset, h.hl], fun a ha => ?_⟩
  unfold Abs.mset
  rw [getD_set_row]
  split
  · rename_i hc; rw [List.length_set, hc.1]; exact h.hr a ha
  · exact h.hr a ha
/-- the arcs laid into a table -/
def arM (A : List Ar) (M : List (List Int)) : Nat → List (List Int)
  | 0 => M
  | k + 1 => mset (arM A M k) (A.getD k ar0).f.toNat (A.getD k ar0).t.toNat (min (mget (arM A M k) (A.getD k ar0).f.toNat (A.getD k ar0).t.toNat) (A.getD k ar0).len)
def fwC (M : List (List Int)) (k i j : Nat) : List (List Int) :=
  if mget M i k < far ∧ mget M k j < far then mset M i j (min (mget M i j) (mget M i k + mget M k j)) else M
def fwJ (k i : Nat) (M : List (List Int)) : Nat → List (List Int)
  | 0 => M
  | j + 1 => fwC (fwJ k i M j) k i j
def fwI (z k : Nat) (M : List (List Int)) : Nat → List (List Int)
  | 0 => M
  | i + 1 => fwJ k i (fwI z k M i) z
def fwK (z : Nat) (M : List (List Int)) : Nat → List (List Int)
  | 0 => M
  | k + 1 => fwI z k (fwK z M k) z
/-- entries between what numbers that keep all arcs leave and the sign for no way -/
structure Lb (z : Nat) (P : Nat → Int) (M : List (List Int)) : Prop where
  sq : Sq z M
  lo : ∀ i j, i < z → j < z → P j - P i ≤ mget M i j
  hi : ∀ i j, i < z → j < z → mget M i j ≤ far
theorem Lb.fwC {z : Nat} {P : Nat → Int} {M : List (List Int)} (h : Lb z P M) {k i j : Nat} (hk : k < z) (hi : i < z) (hj : j < z) : Lb z P (fwC M k i j) := by
  unfold Abs.fwC
  split
  · refine ⟨h.sq.mset _ _ _, fun a b ha hb => ?_, fun a b ha hb => ?_⟩
    · rw [mget_mset h.sq hi hj]
      have h1 := h.lo a b ha hb
      have h2 := h.lo i k hi hk
      have h200 := h.lo k j hk hj
      split
      · rename_i hc; obtain ⟨rfl, rfl⟩ := hc; omega
      · exact h1
    · rw [mget_mset h.sq hi hj]
      have h1 := h.hi a b ha hb
      split
      · rename_i hc; obtain ⟨rfl, rfl⟩ := hc; omega
      · exact h1
  · exact h
theorem Lb.fwJ {z : Nat} {P : Nat → Int} {M : List (List Int)} (h : Lb z P M) {k i : Nat} (hk : k < z) (hi : i < z) : ∀ j, j ≤ z → Lb z P (fwJ k i M j)
  | 0, _ => h
  | j + 1, hj => (Lb.fwJ h hk hi j (by omega)).fwC hk hi (by omega)
theorem Lb.fwI {z : Nat} {P : Nat → Int} {M : List (List Int)} (h : Lb z P M) {k : Nat} (hk : k < z) : ∀ i, i ≤ z → Lb z P (fwI z k M i)
  | 0, _ => h
  | i + 1, hi => (Lb.fwI h hk i (by omega)).fwJ hk (by omega) z (Nat.le_refl _)
theorem Lb.fwK {z : Nat} {P : Nat → Int} {M : List (List Int)} (h : Lb z P M) : ∀ k, k ≤ z → Lb z P (fwK z M k)
  | 0, _ => h
  | k + 1, hk => (Lb.fwK h k (by omega)).fwI (by omega) z (Nat.le_refl _)
theorem Lb.arM {z : Nat} {P : Nat → Int} {A : List Ar} {M : List (List Int)} (h : Lb z P M) (hA : okAr A z) (hP : ∀ k, k < A.length → P (A.getD k ar0).t.toNat ≤ P (A.getD k ar0).f.toNat + (A.getD k ar0).len) : ∀ k, k ≤ A.length → Lb z P (arM A M k)
  | 0, _ => h
  | k + 1, hk => by
    have h1 := Lb.arM h hA hP k (by omega)
    have hAk := hA k (by omega)
    have hPk := hP k (by omega)
    have hf : (A.getD k ar0).f.toNat < z := by omega
    have ht : (A.getD k ar0).t.toNat < z := by omega
    unfold Abs.arM
    refine ⟨h1.sq.mset _ _ _, fun a b ha hb => ?_, fun a b ha hb => ?_⟩
    · rw [mget_mset h1.sq hf ht]
      have h2 := h1.lo a b ha hb
      split
      · rename_i hc; obtain ⟨rfl, rfl⟩ := hc; omega
      · exact h2
    · rw [mget_mset h1.sq hf ht]
      have h2 := h1.hi a b ha hb
      split
      · rename_i hc; obtain ⟨rfl, rfl⟩ := hc; omega
      · exact h2
def rowB (r : List Int) : Blk := .cells true false 1 (r.map fun x => [i64 x])
abbrev tRows (z : Nat) : List (List AV) := (List.range z).map fun i => [AV.lsl (2 + 2 * i) 0 z]
structure IsO (z : Nat) (M : List (List Int)) (H : List Blk) : Prop where
  t : H[0]? = some (.cells true false 1 (tRows z))
  r : ∀ i, i < z → H[2 + 2 * i]? = some (.cells true false 1 ((M.getD i []).map fun x => [i64 x]))
theorem tRows_get {z i : Nat} (h : i < z) : (tRows z).getD i [] = [AV.lsl (2 + 2 * i) 0 z] := by simp [List.getD, h]
theorem IsO.mset {z : Nat} {M : List (List Int)} {H : List Blk} (h : IsO z M H) (hs : Sq z M) {i : Nat} (hi : i < z) (j : Nat) (v : Int) : IsO z (mset M i j v) (H.set (2 + 2 * i) (.cells true false 1 (((M.getD i []).set j v).map fun x => [i64 x]))) := by
  refine ⟨?_, fun a ha => ?_⟩
  · rw [List.getElem?_set_ne (by omega)]; exact h.t
  · unfold Abs.mset
    rw [getD_set_row, hs.hl]
    by_cases hia : i = a
    · subst hia
      rw [if_pos ⟨rfl, hi⟩, List.getElem?_set_self ((List.getElem?_eq_some_iff.1 (h.r i hi)).1)]
    · rw [if_neg (fun x => hia x.1), List.getElem?_set_ne (by omega)]; exact h.r a ha
abbrev SL2 (z k i j : Nat) : List (Nat × AV) := [(5, .lsl 0 0 z), (9, i64 k), (10, i64 i), (61, i64 z), (62, i64 k), (66, i64 z), (67, i64 i), (71, i64 z), (72, i64 j)]
set_option maxHeartbeats 8000000 in
theorem k42l2 {z k i : Nat} {P : Nat → Int} {M : List (List Int)} (hz : z ≤ 40) (hk : k < z) (hi : i < z) (hP : ∀ v, v < z → -10000000000 ≤ P v ∧ P v ≤ 10000000000) (hL : Lb z P M) (K : Exit → St → Prop) (j : Nat) (hj : j < z) (H : List Blk) (hH : IsO z (fwJ k i M j) H) :
    T none Tryz.prog muts 126 0 c42l2 ⟨SL2 z k i j, H⟩ (thenK (fun s' => j < z ∧ IsO z (fwJ k i M (j + 1)) s'.heap ∧ (s'.only [5, 9, 10, 61, 62, 66, 67, 71, 72]).slots = SL2 z k i (j + 1)) K) := by
  have hM := hL.fwJ hk hi j (by omega)
  have e : fwJ k i M (j + 1) = fwC (fwJ k i M j) k i j := rfl
  rw [e]
  generalize fwJ k i M j = M' at *
  have hmset := fun v => hH.mset hM.sq hi j v
  have hH0 : id (IsO z M' H) := hH
  obtain ⟨ht, hr⟩ := hH
  have hri := hr i hi
  have hrk := hr k hk
  have hti := tRows_get hi
  have htk := tRows_get hk
  have hsi := hM.sq.hr i hi
  have hsk := hM.sq.hr k hk
  have hfar : far = 1099511627776 := rfl
  have b1 := hM.lo i k hi hk
  have b2 := hM.lo k j hk hj
  have b3 := hM.hi i k hi hk
  have b4 := hM.hi k j hk hj
  have b5 := hP i hi
  have b6 := hP j hj
  have b7 := hP k hk
  have g1 : ((M'.getD i []).map fun x => [i64 x]).getD k [] = [i64 (mget M' i k)] := getD_ints (by omega)
  have g2 : ((M'.getD k []).map fun x => [i64 x]).getD j [] = [i64 (mget M' k j)] := getD_ints (by omega)
  have g3 : ((M'.getD i []).map fun x => [i64 x]).getD j [] = [i64 (mget M' i j)] := getD_ints (by omega)
  clear hr hP hL hM
  have hgi : ∀ v : AV, ((M'.getD i []).map fun x => [i64 x]).length = z := fun _ => by rw [List.length_map]; exact hsi
  unfold c42l2 SL2
  by_cases hc1 : mget M' i k < far
  · by_cases hc2 : mget M' k j < far
    · have ef : fwC M' k i j = mset M' i j (min (mget M' i j) (mget M' i k + mget M' k j)) := if_pos ⟨hc1, hc2⟩
      rw [ef]
      have hm2 := hmset (min (mget M' i j) (mget M' i k + mget M' k j))
      clear hmset
      generalize Abs.mset M' i j (min (mget M' i j) (mget M' i k + mget M' k j)) = M2 at *
      have ew : IntKind.i64.wrap (mget M' i k + mget M' k j) = mget M' i k + mget M' k j := wrapI (by omega) (by omega)
      have em : (if mget M' i k + mget M' k j < mget M' i j then mget M' i k + mget M' k j else mget M' i j) = min (mget M' i j) (mget M' i k + mget M' k j) := by rw [Int.min_def]; split <;> split <;> omega
      repeat' (first | ((with_reducible refine T_calm ?_ ?_); rfl) | (with_reducible first | refine T_seq ?_ | refine T_reg ?_ | refine T_draw ?_ | refine T_skip ?_ | refine T_exit ?_ | refine T_block ?_ | refine T_cond_t rfl ?_ | refine T_cond_f rfl ?_ | refine wdW_cons rfl ?_ | ((first | refine T_cond rfl (fun hc => ?_) (fun hc => ?_) | refine wguard_split (fun hc => ?_) (fun hc => ?_) | refine wguardX_split (fun hc => ?_) (fun hc => ?_)) <;> have hd := hc <;> (try simp (disch := omega) only [wrapI] at hd) <;> have hs := hd <;> (try simp only [decide_eq_true_eq, decide_eq_false_iff_not, Int.not_lt] at hd) <;> (try simp at hs)) | refine T_ret ?_ | refine leave_of (.inr rfl) _ rfl ?_ | refine leave_of (.inl rfl) _ rfl ?_ | refine wif_intro ?_ (fun hc => ?_) | refine And.intro ?_ ?_ | intro hc) | simp (maxSteps := 4000000) only [wops_nil, wops_cons, wstep_none, wstep_some, wguard_true, wrun_mv, wrun_pick, wrun_bin, wrun_load, wrun_store, wrun_iaddrS, wrun_minmax, wrunX_mv, wrunX_bin, wrunX_load, wrunX_store, wrunX_iaddrS, wrunX_minmax, wdW_nil, wstepX_none, wop, aop, ev, look, put_some, put_none, writes, ores_some, ores_ite_none, binV, thenK, blockK, value, cut, hget, putCells, AV.parts, isOne, toLits, mkAgg, List.map_cons, List.map_nil, List.length_cons, List.length_nil, List.take_succ_cons, List.take_zero, List.take_nil, List.drop_succ_cons, List.drop_zero, List.drop_nil, List.nil_append, List.append_nil, List.replicate_zero, List.all_cons, List.all_nil, List.length_map, Option.getD_some, Option.map_some, if_true, if_false, Nat.reduceEqDiff, Nat.zero_add, Nat.le_refl, reduceCtorEq, Bool.and_true, Bool.false_eq_true, eq_self, true_and, and_true, and_self, decide_true, List.all_cons, Int.toNat_natCast, set_ints, *] | simp (disch := omega) only [wrapI] | omega)
      simp [St.only, get_mk, look]
    · have ef : fwC M' k i j = M' := if_neg (fun x => hc2 x.2)
      rw [ef]
      clear hmset
      repeat' (first | ((with_reducible refine T_calm ?_ ?_); rfl) | (with_reducible first | refine T_seq ?_ | refine T_reg ?_ | refine T_draw ?_ | refine T_skip ?_ | refine T_exit ?_ | refine T_block ?_ | refine T_cond_t rfl ?_ | refine T_cond_f rfl ?_ | refine wdW_cons rfl ?_ | ((first | refine T_cond rfl (fun hc => ?_) (fun hc => ?_) | refine wguard_split (fun hc => ?_) (fun hc => ?_) | refine wguardX_split (fun hc => ?_) (fun hc => ?_)) <;> have hd := hc <;> (try simp (disch := omega) only [wrapI] at hd) <;> have hs := hd <;> (try simp only [decide_eq_true_eq, decide_eq_false_iff_not, Int.not_lt] at hd) <;> (try simp at hs)) | refine T_ret ?_ | refine leave_of (.inr rfl) _ rfl ?_ | refine leave_of (.inl rfl) _ rfl ?_ | refine wif_intro ?_ (fun hc => ?_) | refine And.intro ?_ ?_ | intro hc) | simp (maxSteps := 4000000) only [wops_nil, wops_cons, wstep_none, wstep_some, wguard_true, wrun_mv, wrun_pick, wrun_bin, wrun_load, wrun_iaddrS, wop, aop, ev, look, put_some, writes, ores_some, ores_ite_none, binV, thenK, blockK, value, cut, hget, mkAgg, List.length_cons, List.length_nil, List.take_succ_cons, List.take_nil, List.drop_zero, List.append_nil, List.replicate_zero, Option.getD_some, Option.map_some, if_true, if_false, Nat.reduceEqDiff, Nat.zero_add, reduceCtorEq, Bool.false_eq_true, eq_self, true_and, and_true, and_self, decide_true, decide_false, Int.toNat_natCast, *] | simp (disch := omega) only [wrapI] | omega)
      · exact hH0
      · simp [St.only, get_mk, look]
  · have ef : fwC M' k i j = M' := if_neg (fun x => hc1 x.1)
    rw [ef]
    clear hmset
    repeat' (first | ((with_reducible refine T_calm ?_ ?_); rfl) | (with_reducible first | refine T_seq ?_ | refine T_reg ?_ | refine T_draw ?_ | refine T_skip ?_ | refine T_exit ?_ | refine T_block ?_ | refine T_cond_t rfl ?_ | refine T_cond_f rfl ?_ | refine wdW_cons rfl ?_ | ((first | refine T_cond rfl (fun hc => ?_) (fun hc => ?_) | refine wguard_split (fun hc => ?_) (fun hc => ?_) | refine wguardX_split (fun hc => ?_) (fun hc => ?_)) <;> have hd := hc <;> (try simp (disch := omega) only [wrapI] at hd) <;> have hs := hd <;> (try simp only [decide_eq_true_eq, decide_eq_false_iff_not, Int.not_lt] at hd) <;> (try simp at hs)) | refine T_ret ?_ | refine leave_of (.inr rfl) _ rfl ?_ | refine leave_of (.inl rfl) _ rfl ?_ | refine wif_intro ?_ (fun hc => ?_) | refine And.intro ?_ ?_ | intro hc) | simp (maxSteps := 4000000) only [wops_nil, wops_cons, wstep_none, wstep_some, wguard_ft, wrun_mv, wrun_pick, wrun_bin, wrun_load, wrun_iaddrS, wop, aop, ev, look, put_some, writes, ores_some, ores_ite_none, binV, thenK, blockK, value, cut, hget, mkAgg, List.length_cons, List.length_nil, List.take_succ_cons, List.take_nil, List.drop_zero, List.append_nil, List.replicate_zero, Option.getD_some, Option.map_some, if_true, if_false, Nat.reduceEqDiff, Nat.zero_add, reduceCtorEq, Bool.false_eq_true, eq_self, true_and, and_true, decide_true, decide_false, Int.toNat_natCast, *] | simp (disch := omega) only [wrapI] | omega)
    · exact hH0
    · simp [St.only, get_mk, look]
set_option maxHeartbeats 8000000 in
theorem k42l3 {z k : Nat} {P : Nat → Int} {M : List (List Int)} (hz : z ≤ 40) (hk : k < z) (hP : ∀ v, v < z → -10000000000 ≤ P v ∧ P v ≤ 10000000000) (hL : Lb z P M) (K : Exit → St → Prop) (i : Nat) (hi : i < z) (H : List Blk) (hH : IsO z (fwI z k M i) H) :
    T none Tryz.prog muts 126 0 c42l3 ⟨[(5, .lsl 0 0 z), (9, i64 k), (61, i64 z), (62, i64 k), (66, i64 z), (67, i64 i)], H⟩ (thenK (fun s' => i < z ∧ IsO z (fwI z k M (i + 1)) s'.heap ∧ (s'.only [5, 9, 61, 62, 66, 67]).slots = [(5, .lsl 0 0 z), (9, i64 k), (61, i64 z), (62, i64 k), (66, i64 z), (67, i64 ((i + 1 : Nat) : Int))]) K) := by
  have hM := hL.fwI hk i (by omega)
  have e : fwI z k M (i + 1) = fwJ k i (fwI z k M i) z := rfl
  rw [e]
  generalize fwI z k M i = M' at *
  unfold c42l3
  have ht := hH.t
  have hH0 : id (IsO z M' H) := hH
  clear hH
  replace hL := True.intro
  have hM0 : id (Lb z P M') := hM
  clear hM
  replace hP : id (∀ v, v < z → -10000000000 ≤ P v ∧ P v ≤ 10000000000) := hP
  repeat' (first | ((with_reducible refine T_calm ?_ ?_); rfl) | (with_reducible first | refine T_seq ?_ | refine T_reg ?_ | refine T_draw ?_ | refine T_skip ?_ | refine T_exit ?_ | refine T_block ?_ | refine T_cond_t rfl ?_ | refine T_cond_f rfl ?_ | refine wdW_cons rfl ?_ | ((first | refine T_cond rfl (fun hc => ?_) (fun hc => ?_) | refine wguard_split (fun hc => ?_) (fun hc => ?_) | refine wguardX_split (fun hc => ?_) (fun hc => ?_)) <;> have hd := hc <;> (try simp (disch := omega) only [wrapI] at hd) <;> have hs := hd <;> (try simp only [decide_eq_true_eq, decide_eq_false_iff_not, Int.not_lt] at hd) <;> (try simp at hs)) | refine T_ret ?_ | refine leave_of (.inr rfl) _ rfl ?_ | refine leave_of (.inl rfl) _ rfl ?_ | refine wif_intro ?_ (fun hc => ?_) | refine And.intro ?_ ?_ | intro hc) | simp (maxSteps := 4000000) only [wops_nil, wops_cons, wstep_none, wrun_mv, wrun_bin, wrun_len, wop, aop, ev, look, put_some, writes, ores_some, ores_map, ores_bind, binV, thenK, intV, lenOf, hget, List.append_nil, List.replicate_zero, Option.pure_def, Option.bind_eq_bind, Option.getD_some, Option.map_some, if_true, if_false, Nat.reduceEqDiff, reduceCtorEq, eq_self, true_and, decide_true, *] | simp (disch := omega) only [getD_ints, wrapI] | omega)
  refine T_forH [5, 9, 10, 61, 62, 66, 67, 71, 72] (SL2 z k i) z (fun j H => IsO z (fwJ k i M' j) H) 0 ?_ ?_ (Nat.zero_le _) ?_
  · simp [St.only, get_mk, look]
  · exact hH0
  intro j H' hj hH'
  by_cases hjz : j < z
  · exact k42l2 hz hk hi hP hM0 _ j hjz H' hH'
  · have hje : j = z := by omega
    subst hje
    unfold c42l2 SL2
    have hH1 : id (IsO j (fwJ k i M' j) H') := hH'
    clear hH'
    repeat' (first | ((with_reducible refine T_calm ?_ ?_); rfl) | (with_reducible first | refine T_seq ?_ | refine T_reg ?_ | refine T_draw ?_ | refine T_skip ?_ | refine T_exit ?_ | refine T_block ?_ | refine T_cond_t rfl ?_ | refine T_cond_f rfl ?_ | refine wdW_cons rfl ?_ | ((first | refine T_cond rfl (fun hc => ?_) (fun hc => ?_) | refine wguard_split (fun hc => ?_) (fun hc => ?_) | refine wguardX_split (fun hc => ?_) (fun hc => ?_)) <;> have hd := hc <;> (try simp (disch := omega) only [wrapI] at hd) <;> have hs := hd <;> (try simp only [decide_eq_true_eq, decide_eq_false_iff_not, Int.not_lt] at hd) <;> (try simp at hs)) | refine T_ret ?_ | refine leave_of (.inr rfl) _ rfl ?_ | refine leave_of (.inl rfl) _ rfl ?_ | refine wif_intro ?_ (fun hc => ?_) | refine And.intro ?_ ?_ | intro hc) | simp (maxSteps := 4000000) only [wops_nil, wops_cons, wstep_none, wrun_mv, wrun_bin, wop, aop, ev, look, put_some, writes, ores_some, binV, thenK, blockK, List.append_nil, List.replicate_zero, Option.map_some, if_true, if_false, Nat.reduceEqDiff, reduceCtorEq, eq_self, false_and, *] | simp (disch := omega) only [wrapI] | omega)
    · exact hH1
    · simp [St.only, get_mk, look]
set_option maxHeartbeats 8000000 in
theorem k42l4 {z : Nat} {P : Nat → Int} {M : List (List Int)} (hz : z ≤ 40) (hP : ∀ v, v < z → -10000000000 ≤ P v ∧ P v ≤ 10000000000) (hL : Lb z P M) (K : Exit → St → Prop) (k : Nat) (hk : k < z) (H : List Blk) (hH : IsO z (fwK z M k) H) :
    T none Tryz.prog muts 126 0 c42l4 ⟨[(5, .lsl 0 0 z), (61, i64 z), (62, i64 k)], H⟩ (thenK (fun s' => k < z ∧ IsO z (fwK z M (k + 1)) s'.heap ∧ (s'.only [5, 61, 62]).slots = [(5, .lsl 0 0 z), (61, i64 z), (62, i64 ((k + 1 : Nat) : Int))]) K) := by
  have hM := hL.fwK k (by omega)
  have e : fwK z M (k + 1) = fwI z k (fwK z M k) z := rfl
  rw [e]
  generalize fwK z M k = M' at *
  unfold c42l4
  have ht := hH.t
  have hH0 : id (IsO z M' H) := hH
  clear hH
  replace hL := True.intro
  have hM0 : id (Lb z P M') := hM
  clear hM
  replace hP : id (∀ v, v < z → -10000000000 ≤ P v ∧ P v ≤ 10000000000) := hP
  repeat' (first | ((with_reducible refine T_calm ?_ ?_); rfl) | (with_reducible first | refine T_seq ?_ | refine T_reg ?_ | refine T_draw ?_ | refine T_skip ?_ | refine T_exit ?_ | refine T_block ?_ | refine T_cond_t rfl ?_ | refine T_cond_f rfl ?_ | refine wdW_cons rfl ?_ | ((first | refine T_cond rfl (fun hc => ?_) (fun hc => ?_) | refine wguard_split (fun hc => ?_) (fun hc => ?_) | refine wguardX_split (fun hc => ?_) (fun hc => ?_)) <;> have hd := hc <;> (try simp (disch := omega) only [wrapI] at hd) <;> have hs := hd <;> (try simp only [decide_eq_true_eq, decide_eq_false_iff_not, Int.not_lt] at hd) <;> (try simp at hs)) | refine T_ret ?_ | refine leave_of (.inr rfl) _ rfl ?_ | refine leave_of (.inl rfl) _ rfl ?_ | refine wif_intro ?_ (fun hc => ?_) | refine And.intro ?_ ?_ | intro hc) | simp (maxSteps := 4000000) only [wops_nil, wops_cons, wstep_none, wrun_mv, wrun_bin, wrun_len, wop, aop, ev, look, put_some, writes, ores_some, ores_map, ores_bind, binV, thenK, intV, lenOf, hget, List.append_nil, List.replicate_zero, Option.pure_def, Option.bind_eq_bind, Option.getD_some, Option.map_some, if_true, if_false, Nat.reduceEqDiff, reduceCtorEq, eq_self, true_and, decide_true, *] | simp (disch := omega) only [getD_ints, wrapI] | omega)
  refine T_forH [5, 9, 61, 62, 66, 67] (fun i => [(5, .lsl 0 0 z), (9, i64 k), (61, i64 z), (62, i64 k), (66, i64 z), (67, i64 i)]) z (fun i H => IsO z (fwI z k M' i) H) 0 ?_ ?_ (Nat.zero_le _) ?_
  · simp [St.only, get_mk, look]
  · exact hH0
  intro i H' hi hH'
  by_cases hiz : i < z
  · exact k42l3 hz hk hP hM0 _ i hiz H' hH'
  · have hie : i = z := by omega
    subst hie
    unfold c42l3
    have hH1 : id (IsO i (fwI i k M' i) H') := hH'
    clear hH'
    repeat' (first | ((with_reducible refine T_calm ?_ ?_); rfl) | (with_reducible first | refine T_seq ?_ | refine T_reg ?_ | refine T_draw ?_ | refine T_skip ?_ | refine T_exit ?_ | refine T_block ?_ | refine T_cond_t rfl ?_ | refine T_cond_f rfl ?_ | refine wdW_cons rfl ?_ | ((first | refine T_cond rfl (fun hc => ?_) (fun hc => ?_) | refine wguard_split (fun hc => ?_) (fun hc => ?_) | refine wguardX_split (fun hc => ?_) (fun hc => ?_)) <;> have hd := hc <;> (try simp (disch := omega) only [wrapI] at hd) <;> have hs := hd <;> (try simp only [decide_eq_true_eq, decide_eq_false_iff_not, Int.not_lt] at hd) <;> (try simp at hs)) | refine T_ret ?_ | refine leave_of (.inr rfl) _ rfl ?_ | refine leave_of (.inl rfl) _ rfl ?_ | refine wif_intro ?_ (fun hc => ?_) | refine And.intro ?_ ?_ | intro hc) | simp (maxSteps := 4000000) only [wops_nil, wops_cons, wstep_none, wrun_mv, wrun_bin, wop, aop, ev, look, put_some, writes, ores_some, binV, thenK, blockK, List.append_nil, List.replicate_zero, Option.map_some, if_true, if_false, Nat.reduceEqDiff, reduceCtorEq, eq_self, false_and, *] | simp (disch := omega) only [wrapI] | omega)
    · exact hH1
    · simp [St.only, get_mk, look]
end Go.Abs
