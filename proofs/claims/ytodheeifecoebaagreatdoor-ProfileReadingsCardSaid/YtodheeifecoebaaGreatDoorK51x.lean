import Derived.Test.YtodheeifecoebaaGreatDoorPCmin
import Derived.Test.YtodheeifecoebaaGreatDoorK50x
set_option linter.all false
set_option linter.unusedVariables false
set_option linter.unusedSimpArgs false
set_option linter.unusedSectionVars false
namespace Go.Abs
open Go.Proofs
def iniM (z : Nat) : List (List Int) := (List.range z).map (ini z)
def tabM (A : List Ar) (z : Nat) : List (List Int) := fwK z (arM A (iniM z) A.length) z
def tabB (M : List (List Int)) (z : Nat) : List Blk := .cells true false 1 ((List.range z).map fun i => [AV.lsl (1 + i) 0 z]) :: M.map rowB
theorem pos_even : ∀ (n s j : Nat), j < n → pos ((List.range' s n).map (2 * ·)) (2 * (s + j)) = some j
  | 0, _, _, h => by omega
  | n + 1, s, j, h => by
    simp only [List.range'_succ, List.map_cons, pos]
    cases j with
    | zero => simp
    | succ j =>
      have ih := pos_even n (s + 1) j (by omega)
      rw [show s + 1 + j = s + (j + 1) by omega] at ih
      rw [if_neg (by omega), ih]
      rfl
theorem pos_evens {n j : Nat} (h : j < n) : pos ((List.range n).map (2 * ·)) (2 * j) = some j := by
  have := pos_even n 0 j h
  rwa [Nat.zero_add, ← List.range_eq_range'] at this
theorem iniM_sq (z : Nat) : Sq z (iniM z) := by
  refine ⟨by simp [iniM], fun i hi => ?_⟩
  simp [iniM, List.getD, hi, ini]
theorem iniM_get {z i : Nat} (hi : i < z) : (iniM z).getD i [] = ini z i := by simp [iniM, List.getD, hi]
theorem iniM_mget {z i j : Nat} (hi : i < z) (hj : j < z) : mget (iniM z) i j = if i = j then 0 else far := by
  unfold mget
  rw [iniM_get hi, ini, getD_set_int, List.length_replicate]
  by_cases h : i = j
  · rw [if_pos ⟨h, hi⟩, if_pos h]
  · rw [if_neg (fun x => h x.1), if_neg h]
    simp [List.getD, hj]
theorem iniM_lb {z : Nat} {P : Nat → Int} (hP : ∀ v, v < z → -10000000000 ≤ P v ∧ P v ≤ 10000000000) : Lb z P (iniM z) := by
  refine ⟨iniM_sq z, fun i j hi hj => ?_, fun i j hi hj => ?_⟩
  · rw [iniM_mget hi hj]
    have h1 := hP i hi
    have h2 := hP j hj
    have hfar : far = 1099511627776 := rfl
    split
    · rename_i h; subst h; omega
    · omega
  · rw [iniM_mget hi hj]
    have hfar : far = 1099511627776 := rfl
    split <;> omega
theorem IsP.done {z : Nat} {H : List Blk} (h : IsP z z H) : IsO z (iniM z) H := by
  refine ⟨by rw [h.t, tPart_all], fun i hi => ?_⟩
  rw [h.r i hi, iniM_get hi]
theorem leave_tab {z : Nat} {M : List (List Int)} {H : List Blk} (hH : IsO z M H) (hs : Sq z M) : ((List.range (z + 1)).map (2 * ·)).map (fun id => renB (keepρ 0 ((List.range (z + 1)).map (2 * ·))) (hget H id)) = tabB M z := by
  refine List.ext_getElem? fun i => ?_
  cases i with
  | zero =>
    have e : hget H 0 = .cells true false 1 (tRows z) := by unfold hget; rw [hH.t]; rfl
    simp only [List.map_map, List.range_succ_eq_map, List.map_cons, List.getElem?_cons_zero, Nat.mul_zero, e, tabB]
    refine congrArg some ?_
    simp only [renB]
    refine congrArg (Blk.cells true false 1) ?_
    have hren : ∀ l : List Nat, (∀ x ∈ l, x < z) → renR (keepρ 0 ((List.range (z + 1)).map (2 * ·))) (l.map fun i => [AV.lsl (2 + 2 * i) 0 z]) = l.map fun i => [AV.lsl (1 + i) 0 z] := by
      intro l
      induction l with
      | nil => intro _; rfl
      | cons x l ih =>
        intro hl
        have hx := hl x (by simp)
        have hp : keepρ 0 ((List.range (z + 1)).map (2 * ·)) (2 + 2 * x) = some (1 + x) := by
          unfold keepρ
          rw [if_neg (by omega), show 2 + 2 * x = 2 * (x + 1) by omega, pos_evens (by omega)]
          simp; omega
        simp only [List.map_cons, renR, renL, ren, hp, ih (fun y hy => hl y (by simp [hy]))]
    have := hren (List.range z) (fun x hx => List.mem_range.1 hx)
    simpa [List.range_succ_eq_map] using this
  | succ i =>
    simp only [List.map_map, tabB, List.getElem?_cons_succ, List.getElem?_map]
    by_cases hi : i < z
    · have h1 : (List.range (z + 1))[i + 1]? = some (i + 1) := by simp [hi]
      have h2 : M[i]? = some (M.getD i []) := by simp [List.getD, hs.hl, hi]
      rw [h1, h2]
      simp only [Option.map_some, Function.comp]
      refine congrArg some ?_
      have e : hget H (2 * (i + 1)) = .cells true false 1 ((M.getD i []).map fun x => [i64 x]) := by
        unfold hget; rw [show 2 * (i + 1) = 2 + 2 * i by omega, hH.r i hi]; rfl
      rw [e]
      simp only [renB, renR_ints, rowB]
    · have h1 : (List.range (z + 1))[i + 1]? = none := by simp; omega
      have h2 : M[i]? = none := by simp [hs.hl]; omega
      rw [h1, h2]; rfl
set_option maxHeartbeats 8000000 in
theorem k42l1all {z ia : Nat} {P : Nat → Int} {A : List Ar} {M : List (List Int)} {V : AV} (hz : z ≤ 40) (hn : A.length ≤ 200) (hA : okAr A z) (hPA : ∀ k, k < A.length → P (A.getD k ar0).t.toNat ≤ P (A.getD k ar0).f.toNat + (A.getD k ar0).len) (hL : Lb z P M) (K : Exit → St → Prop) (H : List Blk) (hV : A ≠ [] → V = .lsl ia 0 A.length ∧ H[ia]? = some (.cells true false 4 (arows A)) ∧ ia ≠ 0 ∧ ∀ i, ia ≠ 2 + 2 * i ∨ z ≤ i) (hH : IsO z M H)
    (σ : St) (hσ : (σ.only [5, 33, 34, 35]).slots = [(5, .lsl 0 0 z), (33, V), (34, i64 A.length), (35, i64 0)]) (hσH : σ.heap = H)
    (hK : ∀ H', IsO z (arM A M A.length) H' → K (.exit 2) ⟨(36, bl false) :: [(5, .lsl 0 0 z), (33, V), (34, i64 A.length), (35, i64 A.length)], H'⟩) : T none Tryz.prog muts 126 0 (.loop c42l1) σ K := by
  refine T_forH [5, 33, 34, 35] (fun k => [(5, .lsl 0 0 z), (33, V), (34, i64 A.length), (35, i64 k)]) A.length (fun k H' => (A ≠ [] → H'[ia]? = some (.cells true false 4 (arows A))) ∧ IsO z (arM A M k) H') 0 hσ ⟨fun h => by rw [hσH]; exact (hV h).2.1, by rw [hσH]; exact hH⟩ (Nat.zero_le _) ?_
  intro k H' hk ⟨h1, h2⟩
  by_cases hkn : k < A.length
  · have hne : A ≠ [] := fun h => by rw [h] at hkn; simp at hkn
    obtain ⟨h200, _, h201, h202⟩ := hV hne
    refine T_mono (k42l1 hz hn hA hPA hL K k hkn H' h200 (h1 hne) h2 h201 h202) fun e s' hs => ?_
    cases e with
    | normal => exact ⟨hs.1, ⟨fun _ => hs.2.1.1, hs.2.1.2⟩, hs.2.2⟩
    | _ => exact hs
  · have hke : k = A.length := by omega
    subst hke
    have hk2 := hK H' h2
    clear hK h1 h2 hV hL hPA hA
    unfold c42l1
    repeat' (first | ((with_reducible refine T_calm ?_ ?_); rfl) | (with_reducible first | refine T_seq ?_ | refine T_reg ?_ | refine T_draw ?_ | refine T_skip ?_ | refine T_exit ?_ | refine T_block ?_ | refine T_cond_t rfl ?_ | refine T_cond_f rfl ?_ | refine wdW_cons rfl ?_ | ((first | refine T_cond rfl (fun hc => ?_) (fun hc => ?_) | refine wguard_split (fun hc => ?_) (fun hc => ?_) | refine wguardX_split (fun hc => ?_) (fun hc => ?_)) <;> have hd := hc <;> (try simp (disch := omega) only [wrapI] at hd) <;> have hs := hd <;> (try simp only [decide_eq_true_eq, decide_eq_false_iff_not, Int.not_lt] at hd) <;> (try simp at hs)) | refine T_ret ?_ | refine leave_of (.inr rfl) _ rfl ?_ | refine leave_of (.inl rfl) _ rfl ?_ | refine wif_intro ?_ (fun hc => ?_) | refine And.intro ?_ ?_ | intro hc) | simp (maxSteps := 4000000) only [wops_nil, wops_cons, wstep_none, wrun_bin, wop, aop, ev, look, put_some, writes, ores_some, binV, thenK, List.append_nil, List.replicate_zero, Option.map_some, if_true, if_false, Nat.reduceEqDiff, reduceCtorEq, eq_self, false_and, ne_eq, *] | simp (disch := omega) only [getD_ints, wrapI] | omega)
set_option maxHeartbeats 8000000 in
theorem k42l4all {z : Nat} {P : Nat → Int} {M : List (List Int)} (hz : z ≤ 40) (hP : ∀ v, v < z → -10000000000 ≤ P v ∧ P v ≤ 10000000000) (hL : Lb z P M) (K : Exit → St → Prop) (H : List Blk) (hH : IsO z M H)
    (σ : St) (hσ : (σ.only [5, 61, 62]).slots = [(5, .lsl 0 0 z), (61, i64 z), (62, i64 0)]) (hσH : σ.heap = H)
    (hK : ∀ H', IsO z (fwK z M z) H' → K (.exit 4) ⟨(63, bl false) :: [(5, .lsl 0 0 z), (61, i64 z), (62, i64 z)], H'⟩) : T none Tryz.prog muts 126 0 (.loop c42l4) σ K := by
  refine T_forH [5, 61, 62] (fun k => [(5, .lsl 0 0 z), (61, i64 z), (62, i64 k)]) z (fun k H' => IsO z (fwK z M k) H') 0 hσ (by rw [hσH]; exact hH) (Nat.zero_le _) ?_
  intro k H' hk h2
  by_cases hkn : k < z
  · exact k42l4 hz hP hL K k hkn H' h2
  · have hke : k = z := by omega
    subst hke
    have hk2 := hK H' h2
    clear hK h2 hL
    replace hP := True.intro
    unfold c42l4
    repeat' (first | ((with_reducible refine T_calm ?_ ?_); rfl) | (with_reducible first | refine T_seq ?_ | refine T_reg ?_ | refine T_draw ?_ | refine T_skip ?_ | refine T_exit ?_ | refine T_block ?_ | refine T_cond_t rfl ?_ | refine T_cond_f rfl ?_ | refine wdW_cons rfl ?_ | ((first | refine T_cond rfl (fun hc => ?_) (fun hc => ?_) | refine wguard_split (fun hc => ?_) (fun hc => ?_) | refine wguardX_split (fun hc => ?_) (fun hc => ?_)) <;> have hd := hc <;> (try simp (disch := omega) only [wrapI] at hd) <;> have hs := hd <;> (try simp only [decide_eq_true_eq, decide_eq_false_iff_not, Int.not_lt] at hd) <;> (try simp at hs)) | refine T_ret ?_ | refine leave_of (.inr rfl) _ rfl ?_ | refine leave_of (.inl rfl) _ rfl ?_ | refine wif_intro ?_ (fun hc => ?_) | refine And.intro ?_ ?_ | intro hc) | simp (maxSteps := 4000000) only [wops_nil, wops_cons, wstep_none, wrun_bin, wop, aop, ev, look, put_some, writes, ores_some, binV, thenK, List.append_nil, List.replicate_zero, Option.map_some, if_true, if_false, Nat.reduceEqDiff, reduceCtorEq, eq_self, false_and, *] | simp (disch := omega) only [getD_ints, wrapI] | omega)
theorem leave_tab2 {z : Nat} {M : List (List Int)} {H : List Blk} {s : List (Nat × AV)} {t : Nat} (hH : IsO z M H) (hs : Sq z M) (hv : look s t = .lsl 0 0 z) (e : Exit) (he : e = .normal ∨ e = .ret) : leave 0 [ARes.tmp t] (fun r' H' => r' = AV.lsl 0 0 z ∧ H' = tabB M z) e ⟨s, H⟩ := by
  refine leave_ids he [.lsl 0 0 z] ((List.range (z + 1)).map (2 * ·)) ?_ (fun id hid => ?_) ?_ ⟨?_, leave_tab hH hs⟩
  · show (Option.bind (some (look s t)) _) = _
    rw [hv]; rfl
  · obtain ⟨j, hj, rfl⟩ := List.mem_map.1 hid
    have := List.mem_range.1 hj
    cases j with
    | zero => exact (List.getElem?_eq_some_iff.1 hH.t).1
    | succ j => have := (List.getElem?_eq_some_iff.1 (hH.r j (by omega))).1; show 2 * (j + 1) < H.length; omega
  · exact List.pairwise_map.2 (List.nodup_range.imp fun h => by omega)
  · have : keepρ 0 ((List.range (z + 1)).map (2 * ·)) 0 = some 0 := by
      unfold keepρ
      rw [if_neg (by omega), show (0 : Nat) = 2 * 0 from rfl, pos_evens (by omega)]
      rfl
    simp only [tupOf, ren, this]
set_option maxHeartbeats 8000000 in
theorem k42 {nil : Bool} {l : List Rd} {A : List Ar} {z : Nat} {P : Nat → Int} (hl : l.length ≤ 100) (hrd : okRd l) (hz : 1 ≤ z ∧ z ≤ 40) (he : A = arcsL l l.length) (hA : okAr A z) (hPA : ∀ k, k < A.length → P (A.getD k ar0).t.toNat ≤ P (A.getD k ar0).f.toNat + (A.getD k ar0).len) (hP : ∀ v, v < z → -10000000000 ≤ P v ∧ P v ≤ 10000000000) :
    Fn Tryz.prog 42 [i64 z, rdgs nil l] (.lsl 0 0 z) (tabB (tabM A z) z) := by
  refine fn_of e42 ?_
  have h64 := k64 nil l (by omega) hrd
  rw [← he] at h64
  have hn : A.length ≤ 200 := by have := arcsL_len l l.length; rw [← he] at this; omega
  have hL0 := iniM_lb hP
  have hL1 := hL0.arM hA hPA A.length (Nat.le_refl _)
  have hrl := rows4_len l
  have hsq : id (Sq z (tabM A z)) := (hL1.fwK z (Nat.le_refl _)).sq
  replace hL0 : id (Lb z P (iniM z)) := hL0
  replace hL1 : id (Lb z P (arM A (iniM z) A.length)) := hL1
  replace hP : id (∀ v, v < z → -10000000000 ≤ P v ∧ P v ≤ 10000000000) := hP
  replace hA : id (okAr A z) := hA
  replace hPA : id (∀ k, k < A.length → P (A.getD k ar0).t.toNat ≤ P (A.getD k ar0).f.toNat + (A.getD k ar0).len) := hPA
  clear he
  unfold c42
  repeat' (first | ((with_reducible refine T_calm ?_ ?_); rfl) | (with_reducible first | refine T_seq ?_ | refine T_reg ?_ | refine T_draw ?_ | refine T_skip ?_ | refine T_exit ?_ | refine T_block ?_ | refine T_cond_t rfl ?_ | refine T_cond_f rfl ?_ | refine wdW_cons rfl ?_ | refine T_ret ?_ | refine leave_of (.inr rfl) _ rfl ?_ | refine leave_of (.inl rfl) _ rfl ?_ | refine wif_intro ?_ (fun hc => ?_) | refine And.intro ?_ ?_ | intro hc) | simp (maxSteps := 4000000) only [wops_nil, wops_cons, wstep_none, wrun_mv, wrun_len, wrun_mks, wop, aop, ev, look, put_some, writes, ores_some, ores_ite_none, ores_map, ores_bind, thenK, intV, lenOf, hget, List.map_cons, List.map_nil, List.length_cons, List.length_nil, List.getElem?_cons_zero, List.set_cons_zero, List.nil_append, List.append_nil, List.replicate_zero, List.replicate_succ, List.zipIdx_cons, List.zipIdx_nil, Option.pure_def, Option.bind_eq_bind, Option.getD_some, if_true, if_false, Nat.reduceEqDiff, Nat.reduceAdd, Nat.add_zero, Nat.zero_add, reduceCtorEq, eq_self, true_and, *] | simp (disch := omega) only [getD_ints, wrapI] | omega)
  refine T_forH [0, 1, 5, 15, 16] (fun k => [(0, i64 z), (1, rdgs nil l), (5, .lsl 0 0 z), (15, i64 z), (16, i64 k)]) z (IsP z) 0 ?_ ?_ (Nat.zero_le _) ?_
  · simp [St.only, get_mk, look]
  · refine ⟨rfl, ?_, fun i hi => by omega⟩
    rw [tPart_zero]; rfl
  intro k H hk hH
  by_cases hkz : k < z
  · exact k42l0 hz.2 _ k hkz H hH
  · have hke : k = z := by omega
    subst hke
    have ht := hH.done.t
    have hln := hH.len
    have hH1 : id (IsO k (iniM k) H) := hH.done
    clear hH
    unfold c42l0
    by_cases hx : A = []
    · subst hx
      simp only [arV, arB, if_true] at h64
      repeat' (first | ((with_reducible refine T_calm ?_ ?_); rfl) | (with_reducible first | refine T_seq ?_ | refine T_reg ?_ | refine T_draw ?_ | refine T_skip ?_ | refine T_exit ?_ | refine T_block ?_ | refine T_cond_t rfl ?_ | refine T_cond_f rfl ?_ | refine wdW_cons rfl ?_ | (show wcall _ false (.lit (.func (.func 64) _ _)) _ _ _ _; refine wcall_fn (h64) rfl (by simp [plainL, plain]) ?_) | (show wcallX _ false (.lit (.func (.func 64) _ _)) _ _ _ _; refine wcallX_fn (h64) rfl (by simp [plainL, plain, plainR]) ?_) | ((first | refine T_cond rfl (fun hc => ?_) (fun hc => ?_) | refine wguard_split (fun hc => ?_) (fun hc => ?_) | refine wguardX_split (fun hc => ?_) (fun hc => ?_)) <;> have hd := hc <;> (try simp (disch := omega) only [wrapI] at hd) <;> have hs := hd <;> (try simp only [decide_eq_true_eq, decide_eq_false_iff_not, Int.not_lt] at hd) <;> (try simp at hs)) | refine T_ret ?_ | refine leave_of (.inr rfl) _ rfl ?_ | refine leave_of (.inl rfl) _ rfl ?_ | refine wif_intro ?_ (fun hc => ?_) | refine And.intro ?_ ?_ | intro hc) | simp (maxSteps := 4000000) only [wops_nil, wops_cons, wstep_none, wrun_call, wrun_mv, wrun_bin, wrun_len, wop, aop, ev, look, put_some, writes, ores_some, binV, thenK, blockK, intV, lenOf, List.map_cons, List.map_nil, List.length_nil, List.append_nil, List.replicate_zero, Option.pure_def, Option.bind_eq_bind, Option.map_some, Option.bind_some, if_true, if_false, Nat.reduceEqDiff, Nat.zero_ne_one, reduceCtorEq, eq_self, false_and, freeze, lidsL, lids, List.flatMap_cons, List.flatMap_nil, ren, renR, *] | simp (disch := omega) only [getD_ints, wrapI] | (with_reducible show wcall _ false (.lit (.func (.func 64) _ _)) _ _ _ _; refine wcall_fn (h64) ?_ ?_ ?_; (next => simp [rfyL, rfy, hget, ints, take_rfy]); (next => simp [plainL, plain, plainR])) | (with_reducible show wcallX _ false (.lit (.func (.func 64) _ _)) _ _ _ _; refine wcallX_fn (h64) ?_ ?_ ?_; (next => simp [rfyL, rfy, hget, ints, take_rfy]); (next => simp [plainL, plain, plainR])) | omega)
      refine k42l1all hz.2 hn hA hPA hL0 _ H (V := .sl true 0 []) (ia := 1) (fun h => (h rfl).elim) hH1 _ (by simp [St.only, get_mk, look]) rfl ?_
      intro H2 hH2
      have ht2 := hH2.t
      replace hH2 : id (IsO k (arM [] (iniM k) ([] : List Ar).length) H2) := hH2
      clear hH1 ht hln
      repeat' (first | ((with_reducible refine T_calm ?_ ?_); rfl) | (with_reducible first | refine T_seq ?_ | refine T_reg ?_ | refine T_draw ?_ | refine T_skip ?_ | refine T_exit ?_ | refine T_block ?_ | refine T_cond_t rfl ?_ | refine T_cond_f rfl ?_ | refine wdW_cons rfl ?_ | refine T_ret ?_ | refine leave_of (.inr rfl) _ rfl ?_ | refine leave_of (.inl rfl) _ rfl ?_ | refine wif_intro ?_ (fun hc => ?_) | refine And.intro ?_ ?_ | intro hc) | simp (maxSteps := 4000000) only [wops_nil, wops_cons, wstep_none, wrun_mv, wrun_len, wop, aop, ev, look, put_some, writes, ores_some, ores_map, ores_bind, thenK, blockK, intV, lenOf, hget, List.length_nil, List.append_nil, List.replicate_zero, Option.pure_def, Option.bind_eq_bind, Option.getD_some, if_true, if_false, Nat.reduceEqDiff, eq_self, *] | simp (disch := omega) only [getD_ints, wrapI] | omega)
      refine k42l4all hz.2 hP hL1 _ H2 hH2 _ (by simp [St.only, get_mk, look]) rfl ?_
      intro H3 hH3
      have hfin := fun s hv => leave_tab2 (s := s) (t := 4) hH3 hsq hv .ret (.inr rfl)
      clear hH3 ht2
      repeat' (first | ((with_reducible refine T_calm ?_ ?_); rfl) | (with_reducible first | refine T_seq ?_ | refine T_reg ?_ | refine T_draw ?_ | refine T_skip ?_ | refine T_exit ?_ | refine T_block ?_ | refine T_cond_t rfl ?_ | refine T_cond_f rfl ?_ | refine wdW_cons rfl ?_ | refine T_ret ?_ | refine wif_intro ?_ (fun hc => ?_) | refine And.intro ?_ ?_ | intro hc) | simp (maxSteps := 4000000) only [wops_nil, wops_cons, wstep_none, wrun_mv, wop, aop, ev, look, put_some, writes, ores_some, thenK, blockK, List.append_nil, List.replicate_zero, if_true, if_false, Nat.reduceEqDiff, eq_self, *] | simp (disch := omega) only [getD_ints, wrapI] | omega)
      refine hfin _ ?_
      rfl
    · simp only [arV, arB, hx, if_false] at h64
      have hH4 : id (IsO k (iniM k) (H ++ [Blk.cells true false 4 (arows A)])) := (show IsO k (iniM k) H from hH1).app _
      have hx1 : ∀ b : Blk, (H ++ [b])[1 + 2 * k]? = some b := fun b => by rw [← hln]; simp
      repeat' (first | ((with_reducible refine T_calm ?_ ?_); rfl) | (with_reducible first | refine T_seq ?_ | refine T_reg ?_ | refine T_draw ?_ | refine T_skip ?_ | refine T_exit ?_ | refine T_block ?_ | refine T_cond_t rfl ?_ | refine T_cond_f rfl ?_ | refine wdW_cons rfl ?_ | (show wcall _ false (.lit (.func (.func 64) _ _)) _ _ _ _; refine wcall_fn (h64) rfl (by simp [plainL, plain]) ?_) | (show wcallX _ false (.lit (.func (.func 64) _ _)) _ _ _ _; refine wcallX_fn (h64) rfl (by simp [plainL, plain, plainR, renR_arows]) ?_) | ((first | refine T_cond rfl (fun hc => ?_) (fun hc => ?_) | refine wguard_split (fun hc => ?_) (fun hc => ?_) | refine wguardX_split (fun hc => ?_) (fun hc => ?_)) <;> have hd := hc <;> (try simp (disch := omega) only [wrapI] at hd) <;> have hs := hd <;> (try simp only [decide_eq_true_eq, decide_eq_false_iff_not, Int.not_lt] at hd) <;> (try simp at hs)) | refine T_ret ?_ | refine leave_of (.inr rfl) _ rfl ?_ | refine leave_of (.inl rfl) _ rfl ?_ | refine wif_intro ?_ (fun hc => ?_) | refine And.intro ?_ ?_ | intro hc) | simp (maxSteps := 4000000) only [wops_nil, wops_cons, wstep_none, wrun_call, wrun_mv, wrun_bin, wrun_len, wop, aop, ev, look, put_some, writes, ores_some, binV, thenK, blockK, intV, lenOf, hget, List.map_cons, List.map_nil, List.append_nil, List.replicate_zero, Option.pure_def, Option.bind_eq_bind, Option.getD_some, Option.map_some, Option.bind_some, if_true, if_false, Nat.reduceEqDiff, Nat.zero_add, Nat.zero_ne_one, reduceCtorEq, eq_self, false_and, freeze, lidsL, lids, List.flatMap_cons, List.flatMap_nil, ren, renB, shiftρ, renR_arows, *] | simp (disch := omega) only [getD_ints, wrapI] | (with_reducible show wcall _ false (.lit (.func (.func 64) _ _)) _ _ _ _; refine wcall_fn (h64) ?_ ?_ ?_; (next => simp [rfyL, rfy, hget, ints, take_rfy, renR_arows]); (next => simp [plainL, plain, plainR, renR_arows])) | (with_reducible show wcallX _ false (.lit (.func (.func 64) _ _)) _ _ _ _; refine wcallX_fn (h64) ?_ ?_ ?_; (next => simp [rfyL, rfy, hget, ints, take_rfy, renR_arows]); (next => simp [plainL, plain, plainR, renR_arows])) | omega)
      refine k42l1all hz.2 hn hA hPA hL0 _ (H ++ [Blk.cells true false 4 (arows A)]) (V := .lsl (1 + 2 * k) 0 A.length) (ia := 1 + 2 * k) (fun h => ⟨rfl, hx1 _, by omega, fun i => by omega⟩) hH4 _ (by simp [St.only, get_mk, look]) rfl ?_
      intro H2 hH2
      have ht2 := hH2.t
      replace hH2 : id (IsO k (arM A (iniM k) A.length) H2) := hH2
      clear hH1 ht hln hH4 hx1
      repeat' (first | ((with_reducible refine T_calm ?_ ?_); rfl) | (with_reducible first | refine T_seq ?_ | refine T_reg ?_ | refine T_draw ?_ | refine T_skip ?_ | refine T_exit ?_ | refine T_block ?_ | refine T_cond_t rfl ?_ | refine T_cond_f rfl ?_ | refine wdW_cons rfl ?_ | refine T_ret ?_ | refine leave_of (.inr rfl) _ rfl ?_ | refine leave_of (.inl rfl) _ rfl ?_ | refine wif_intro ?_ (fun hc => ?_) | refine And.intro ?_ ?_ | intro hc) | simp (maxSteps := 4000000) only [wops_nil, wops_cons, wstep_none, wrun_mv, wrun_len, wop, aop, ev, look, put_some, writes, ores_some, ores_map, ores_bind, thenK, blockK, intV, lenOf, hget, List.append_nil, List.replicate_zero, Option.pure_def, Option.bind_eq_bind, Option.getD_some, if_true, if_false, Nat.reduceEqDiff, eq_self, *] | simp (disch := omega) only [getD_ints, wrapI] | omega)
      refine k42l4all hz.2 hP hL1 _ H2 hH2 _ (by simp [St.only, get_mk, look]) rfl ?_
      intro H3 hH3
      have hfin := fun s hv => leave_tab2 (s := s) (t := 4) hH3 hsq hv .ret (.inr rfl)
      clear hH3 ht2
      repeat' (first | ((with_reducible refine T_calm ?_ ?_); rfl) | (with_reducible first | refine T_seq ?_ | refine T_reg ?_ | refine T_draw ?_ | refine T_skip ?_ | refine T_exit ?_ | refine T_block ?_ | refine T_cond_t rfl ?_ | refine T_cond_f rfl ?_ | refine wdW_cons rfl ?_ | refine T_ret ?_ | refine wif_intro ?_ (fun hc => ?_) | refine And.intro ?_ ?_ | intro hc) | simp (maxSteps := 4000000) only [wops_nil, wops_cons, wstep_none, wrun_mv, wop, aop, ev, look, put_some, writes, ores_some, thenK, blockK, List.append_nil, List.replicate_zero, if_true, if_false, Nat.reduceEqDiff, eq_self, *] | simp (disch := omega) only [getD_ints, wrapI] | omega)
      refine hfin _ ?_
      rfl
end Go.Abs
