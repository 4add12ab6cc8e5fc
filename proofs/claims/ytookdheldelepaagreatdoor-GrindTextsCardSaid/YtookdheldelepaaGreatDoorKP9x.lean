import Derived.Test.YtookdheldelepaaGreatDoorK305x
import Derived.Test.YtookdheldelepaaGreatDoorKP8x
import Derived.Test.YtookdheldelepaaGreatDoorKP2x
set_option linter.all false
set_option linter.unusedVariables false
set_option linter.unusedSimpArgs false
set_option linter.unusedSectionVars false
namespace Go.Abs
open Go.Proofs
/-! the program's Parse: a round -/
structure J15 (M : List Ln) (io : Nat) (H : List Blk) : Prop where
  r0 : H[0]? = some (.cells true false 1 [[.sl true 0 []]])
  r1 : H[1]? = some (.cells true false 1 [[i64 0]])
  r2 : H[2]? = some (.cells true false 1 [[i64 0]])
  ou : H[3]? = some (.cells true false 1 [[ouV io M.length]])
  lp : H[5]? = some (.obj .lpx)
  st : M ≠ [] → ∃ E, H[io]? = some (.cells true false 2 E) ∧ StRows H E M ∧ ∀ r ∈ E, ∃ a v, r = [strV a, v] ∧ (v = .sl true 0 [] ∨ ∃ j n, v = .lsl j 0 n ∧ 6 ≤ j)
abbrev SL15 (ln : ByteArray) : List (Nat × AV) := [(2, .loc 0 0 0), (3, .loc 1 0 0), (4, .loc 2 0 0), (5, .loc 3 0 0), (6, strV ln)]
theorem J15.first {io : Nat} {H X : List Blk} {x : Ln} {v : AV} {j : Nat} (h : J15 [] io H) (hj : (H.set 3 (.cells true false 1 [[.lsl j 0 1]]) ++ X)[j]? = some (.cells true false 2 [[strV x.1, v]])) (hv : Rds 1 (H.set 3 (.cells true false 1 [[.lsl j 0 1]]) ++ X) v (wz x.2)) (h6 : v = .sl true 0 [] ∨ ∃ j n, v = .lsl j 0 n ∧ 6 ≤ j) : J15 [x] j (H.set 3 (.cells true false 1 [[.lsl j 0 1]]) ++ X) := by
  have hlt := (List.getElem?_eq_some_iff.1 h.lp).1
  have ap : ∀ i, i < H.length → (H.set 3 (.cells true false 1 [[.lsl j 0 1]]) ++ X)[i]? = (H.set 3 (.cells true false 1 [[.lsl j 0 1]]))[i]? := fun i hi => List.getElem?_append_left (by simpa using hi)
  refine ⟨?_, ?_, ?_, ?_, ?_, fun _ => ⟨_, hj, (StRows.nil _).snoc hv, fun r hr => by simp only [List.mem_singleton] at hr; exact ⟨_, _, hr, h6⟩⟩⟩
  · rw [ap 0 (by omega), List.getElem?_set_ne (by decide)]; exact h.r0
  · rw [ap 1 (by omega), List.getElem?_set_ne (by decide)]; exact h.r1
  · rw [ap 2 (by omega), List.getElem?_set_ne (by decide)]; exact h.r2
  · rw [ap 3 (by omega), List.getElem?_set_self (by omega)]; rfl
  · rw [ap 5 (by omega), List.getElem?_set_ne (by decide)]; exact h.lp
theorem rds_set1 {H : List Blk} {io : Nat} {a : AV} {x : Blk} {v : AV} {l : List Int} (hio : H[io]? = some (.cells true false 1 [[a]])) (ha : ∀ n : Int, a ≠ i64 n) (h : Rds 1 H v (wz l)) : Rds 1 (H.set io x) v (wz l) := by
  refine ⟨?_, h.2⟩
  have h1 := h.1
  rw [← h1]
  cases v with
  | lsl id i n =>
    by_cases he : id = io
    · subst he
      exfalso
      unfold rfy at h1
      rw [hget_some' hio] at h1
      dsimp only at h1
      split at h1
      · unfold wz at h1
        split at h1
        · simp at h1
        · rename_i hl
          simp only [ints, AV.sl.injEq, true_and] at h1
          match i, n, h1 with
          | 0, 0, h1 => cases l with
            | nil => exact hl rfl
            | cons y t => simp at h1
          | 0, n + 1, h1 => cases l with
            | nil => exact hl rfl
            | cons y t =>
              simp only [List.drop_zero, List.take_succ_cons, List.take_nil, List.map_cons, List.map_nil, List.cons.injEq] at h1
              have h2 := h1.1.1
              cases a with
              | lit z => simp only [rfy] at h2; exact ha y (by rw [h2])
              | _ => simp [rfy] at h2
          | i + 1, n, h1 => cases l with
            | nil => exact hl rfl
            | cons y t => simp at h1
      · unfold wz at h1
        split at h1 <;> simp at h1
    · unfold rfy
      have e : hget (H.set io x) id = hget H id := by unfold hget; rw [List.getElem?_set_ne (Ne.symm he)]
      rw [e]
      cases hget H id <;> rfl
  | _ => first | rfl | (unfold wz at h1; split at h1 <;> simp [rfy] at h1)
theorem J15.next {M : List Ln} {io : Nat} {H X : List Blk} {E : List (List AV)} {x : Ln} {v : AV} {j k : Nat} (h : J15 M io H) (hE : H[io]? = some (.cells true false 2 E)) (hS : StRows H E M) (hB : ∀ r ∈ E, ∃ a v, r = [strV a, v] ∧ (v = .sl true 0 [] ∨ ∃ j n, v = .lsl j 0 n ∧ 6 ≤ j)) (hk : M.length = k) (hm : M ≠ [])
    (hj : ((H.set io .dead).set 3 (.cells true false 1 [[.lsl j 0 (k + 1)]]) ++ X)[j]? = some (.cells true false 2 (E ++ [[strV x.1, v]]))) (hv : Rds 1 ((H.set io .dead).set 3 (.cells true false 1 [[.lsl j 0 (k + 1)]]) ++ X) v (wz x.2)) (h6 : v = .sl true 0 [] ∨ ∃ j n, v = .lsl j 0 n ∧ 6 ≤ j) :
    J15 (M ++ [x]) j ((H.set io .dead).set 3 (.cells true false 1 [[.lsl j 0 (k + 1)]]) ++ X) := by
  have hlt := (List.getElem?_eq_some_iff.1 h.lp).1
  have n0 : io ≠ 0 := fun e => by rw [e, h.r0] at hE; simp at hE
  have n1 : io ≠ 1 := fun e => by rw [e, h.r1] at hE; simp at hE
  have n2 : io ≠ 2 := fun e => by rw [e, h.r2] at hE; simp at hE
  have n3 : io ≠ 3 := fun e => by rw [e, h.ou] at hE; simp at hE
  have n5 : io ≠ 5 := fun e => by rw [e, h.lp] at hE; simp at hE
  have hk0 : k ≠ 0 := by rintro rfl; exact hm (List.eq_nil_of_length_eq_zero hk)
  have ho : (H.set io .dead)[3]? = some (.cells true false 1 [[.lsl io 0 k]]) := by
    rw [List.getElem?_set_ne n3, h.ou, hk]
    unfold ouV
    rw [if_neg hk0]
  have ap : ∀ i, i < H.length → ((H.set io .dead).set 3 (.cells true false 1 [[.lsl j 0 (k + 1)]]) ++ X)[i]? = ((H.set io .dead).set 3 (.cells true false 1 [[.lsl j 0 (k + 1)]]))[i]? := fun i hi => List.getElem?_append_left (by simpa using hi)
  refine ⟨?_, ?_, ?_, ?_, ?_, fun _ => ⟨_, hj, (hS.mono fun u l hu => rds_app (rds_set1 ho (fun n => by simp) (rds_set hE hu))).snoc hv, fun r hr => by
    rcases List.mem_append.1 hr with hr | hr
    · exact hB r hr
    · simp only [List.mem_singleton] at hr; exact ⟨_, _, hr, h6⟩⟩⟩
  · rw [ap 0 (by omega), List.getElem?_set_ne (by decide), List.getElem?_set_ne n0]; exact h.r0
  · rw [ap 1 (by omega), List.getElem?_set_ne (by decide), List.getElem?_set_ne n1]; exact h.r1
  · rw [ap 2 (by omega), List.getElem?_set_ne (by decide), List.getElem?_set_ne n2]; exact h.r2
  · rw [ap 3 (by omega), List.getElem?_set_self (by simp; omega)]
    simp [ouV, hk]
  · rw [ap 5 (by omega), List.getElem?_set_ne (by decide), List.getElem?_set_ne n5]; exact h.lp
set_option maxHeartbeats 8000000 in
theorem k15n0a {M : List Ln} {io : Nat} {H : List Blk} {ln w n : ByteArray} {l : List Int} {lp : Nat} (hl : M.length ≤ 1000000) (hJ : J15 M io H) (hm : M = [])  (h47 : Fn Tryz.prog 47 [strV ln, strV ⟨#[10]⟩] (.tup [strV w, bl true]) []) (h48 : Fn Tryz.prog 48 [strV w] (rdV none) (rdB none)) :
    T (some lp) Tryz.prog muts 51 H.length c15r0 ⟨SL15 ln, H⟩ (fun e s => e = .ret ∧ s.heap[0]? = some (.cells true false 1 [[.sl true 0 []]]) ∧ s.heap[1]? = some (.cells true false 1 [[i64 ((M.length : Int) + 1)]]) ∧ s.heap[2]? = some (.cells true false 1 [[i64 7]]) ∧ s.heap[5]? = some (.obj .lpx)) := by
  have hlt := (List.getElem?_eq_some_iff.1 hJ.lp).1
  have ap : ∀ (i : Nat) (b : Blk), H[i]? = some b → ∀ Y, (H ++ Y)[i]? = some b := fun i b h Y => by rw [List.getElem?_append_left (List.getElem?_eq_some_iff.1 h).1]; exact h
  have a0 := ap 0 _ hJ.r0
  have a1 := ap 1 _ hJ.r1
  have a2 := ap 2 _ hJ.r2
  have a5 := ap 5 _ hJ.lp
  have a3 := hJ.ou
  have s0 : ∀ Y v, (H ++ Y).set 0 v = H.set 0 v ++ Y := fun Y v => List.set_append_left _ _ (by omega)
  have b1 : ∀ Y v, (H.set 0 v ++ Y)[1]? = some (.cells true false 1 [[i64 0]]) := fun Y v => by rw [List.getElem?_append_left (by simp; omega), List.getElem?_set_ne (by decide)]; exact hJ.r1
  have s1 : ∀ Y u v, (H.set 0 u ++ Y).set 1 v = (H.set 0 u).set 1 v ++ Y := fun Y u v => List.set_append_left _ _ (by simp; omega)
  have b2 : ∀ Y u v, ((H.set 0 u).set 1 v ++ Y)[2]? = some (.cells true false 1 [[i64 0]]) := fun Y u v => by rw [List.getElem?_append_left (by simp; omega), List.getElem?_set_ne (by decide), List.getElem?_set_ne (by decide)]; exact hJ.r2
  have s2 : ∀ Y u v x, ((H.set 0 u).set 1 v ++ Y).set 2 x = ((H.set 0 u).set 1 v).set 2 x ++ Y := fun Y u v x => List.set_append_left _ _ (by simp; omega)
  have fin : ∀ Y, (((H.set 0 (.cells true false 1 [[.sl true 0 []]])).set 1 (.cells true false 1 [[i64 ((M.length : Int) + 1)]])).set 2 (.cells true false 1 [[i64 7]]) ++ Y)[0]? = some (.cells true false 1 [[.sl true 0 []]]) ∧
      (((H.set 0 (.cells true false 1 [[.sl true 0 []]])).set 1 (.cells true false 1 [[i64 ((M.length : Int) + 1)]])).set 2 (.cells true false 1 [[i64 7]]) ++ Y)[1]? = some (.cells true false 1 [[i64 ((M.length : Int) + 1)]]) ∧
      (((H.set 0 (.cells true false 1 [[.sl true 0 []]])).set 1 (.cells true false 1 [[i64 ((M.length : Int) + 1)]])).set 2 (.cells true false 1 [[i64 7]]) ++ Y)[2]? = some (.cells true false 1 [[i64 7]]) ∧
      (((H.set 0 (.cells true false 1 [[.sl true 0 []]])).set 1 (.cells true false 1 [[i64 ((M.length : Int) + 1)]])).set 2 (.cells true false 1 [[i64 7]]) ++ Y)[5]? = some (.obj .lpx) := fun Y => by
    refine ⟨?_, ?_, ?_, ?_⟩
    · rw [List.getElem?_append_left (by simp; omega), List.getElem?_set_ne (by decide), List.getElem?_set_ne (by decide), List.getElem?_set_self (by omega)]
    · rw [List.getElem?_append_left (by simp; omega), List.getElem?_set_ne (by decide), List.getElem?_set_self (by simp; omega)]
    · rw [List.getElem?_append_left (by simp; omega), List.getElem?_set_self (by simp; omega)]
    · rw [List.getElem?_append_left (by simp; omega), List.getElem?_set_ne (by decide), List.getElem?_set_ne (by decide), List.getElem?_set_ne (by decide)]; exact hJ.lp
  replace fin := PLift.up fin
  obtain ⟨N, hN⟩ : ∃ N, H.length = N := ⟨_, rfl⟩
  obtain ⟨g1, g2, g3, g4⟩ := cells_sub (X := []) hN
  subst hm
  simp only [ouV, List.length_nil, if_true] at a3
  have a3' := ap 3 _ a3
  clear hJ ap
  simp only [rdV, rdB] at h48
  unfold c15r0
  simp only [SL15]
  repeat' (first | ((with_reducible refine T_calm ?_ ?_); rfl) | (with_reducible first | refine T_seq ?_ | refine T_reg ?_ | refine T_draw ?_ | refine T_skip ?_ | refine T_exit ?_ | refine T_block ?_ | refine T_cond_t rfl ?_ | refine T_cond_f rfl ?_ | refine wdW_cons rfl ?_ | (show wcall _ false (.lit (.func (.func 47) _ _)) _ _ _ _; refine wcall_fn (h47) rfl (by simp [plainL, plain]) ?_) | (show wcallX _ false (.lit (.func (.func 47) _ _)) _ _ _ _; refine wcallX_fn (h47) rfl (by simp [plainL, plain, plainR, hN, renR_ints]) ?_) | (show wcall _ false (.lit (.func (.func 48) _ _)) _ _ _ _; refine wcall_fn (h48) rfl (by simp [plainL, plain]) ?_) | (show wcallX _ false (.lit (.func (.func 48) _ _)) _ _ _ _; refine wcallX_fn (h48) rfl (by simp [plainL, plain, plainR, hN, renR_ints]) ?_) | refine T_ret ?_ | refine leave_of (.inr rfl) _ rfl ?_ | refine leave_of (.inl rfl) _ rfl ?_ | refine wif_intro ?_ (fun hc => ?_) | refine And.intro ?_ ?_ | intro hc) | simp (maxSteps := 4000000) only [wops_nil, wops_cons, wstep_none, wstep_some, wguard_ff, wrun_call, wrun_mv, wrun_pick, wrun_bin, wrun_not, wrun_ext, wrun_load, wrun_store, wrun_len, wrun_alloc, wrunX_bin, wrunX_load, wrunX_store, wrunX_len, wdW_nil, wstepX_none, wop, aop, ev, look, put_some, put_none, writes, ores_some, binV, thenK, blockK, boolV, intV, lenOf, value, cut, hget, putCells, AV.parts, isOne, toLits, mkAgg, List.map_cons, List.map_nil, List.length_cons, List.length_nil, List.getElem?_cons_zero, List.getElem?_cons_succ, List.set_cons_zero, List.take_succ_cons, List.take_zero, List.take_nil, List.drop_succ_cons, List.drop_zero, List.drop_nil, List.nil_append, List.append_nil, List.append_assoc, List.replicate_zero, List.replicate_succ, List.getD_cons_zero, List.all_cons, List.all_nil, List.length_append, Option.pure_def, Option.bind_eq_bind, Option.getD_some, Option.map_some, Option.bind_some, if_true, if_false, Nat.reduceEqDiff, Nat.reduceAdd, Nat.reduceLT, Nat.add_zero, Nat.zero_add, Nat.le_refl, reduceCtorEq, Bool.not_true, Bool.not_false, Bool.and_true, Bool.false_eq_true, eq_self, true_and, and_self, freeze, lidsL, lids, List.flatMap_cons, List.flatMap_nil, List.all_cons, ren, renL, renR, *] | simp (disch := omega) only [wrapI] | (with_reducible show wcall _ false (.lit (.func (.func 47) _ _)) _ _ _ _; refine wcall_fn (h47) ?_ ?_ ?_; (next => simp [rfyL, rfy, hget, ints, take_rfy, hN, renR_ints]); (next => simp [plainL, plain, plainR, hN, renR_ints])) | (with_reducible show wcallX _ false (.lit (.func (.func 47) _ _)) _ _ _ _; refine wcallX_fn (h47) ?_ ?_ ?_; (next => simp [rfyL, rfy, hget, ints, take_rfy, hN, renR_ints]); (next => simp [plainL, plain, plainR, hN, renR_ints])) | (with_reducible show wcall _ false (.lit (.func (.func 48) _ _)) _ _ _ _; refine wcall_fn (h48) ?_ ?_ ?_; (next => simp [rfyL, rfy, hget, ints, take_rfy, hN, renR_ints]); (next => simp [plainL, plain, plainR, hN, renR_ints])) | (with_reducible show wcallX _ false (.lit (.func (.func 48) _ _)) _ _ _ _; refine wcallX_fn (h48) ?_ ?_ ?_; (next => simp [rfyL, rfy, hget, ints, take_rfy, hN, renR_ints]); (next => simp [plainL, plain, plainR, hN, renR_ints])) | omega)
  all_goals first | exact (fin.down _).1 | exact (fin.down _).2.1 | exact (fin.down _).2.2.1 | exact (fin.down _).2.2.2
set_option maxHeartbeats 8000000 in
theorem k15n0b {M : List Ln} {io : Nat} {H : List Blk} {ln w n : ByteArray} {l : List Int} {lp : Nat} (hl : M.length ≤ 1000000) (hJ : J15 M io H) (hm : M = [])  (h47 : Fn Tryz.prog 47 [strV ln, strV ⟨#[10]⟩] (.tup [strV w, bl false]) []) (h48 : Fn Tryz.prog 48 [strV w] (rdV none) (rdB none)) :
    T (some lp) Tryz.prog muts 51 H.length c15r0 ⟨SL15 ln, H⟩ (fun e s => e = .ret ∧ s.heap[0]? = some (.cells true false 1 [[.sl true 0 []]]) ∧ s.heap[1]? = some (.cells true false 1 [[i64 ((M.length : Int) + 1)]]) ∧ s.heap[2]? = some (.cells true false 1 [[i64 7]]) ∧ s.heap[5]? = some (.obj .lpx)) := by
  have hlt := (List.getElem?_eq_some_iff.1 hJ.lp).1
  have ap : ∀ (i : Nat) (b : Blk), H[i]? = some b → ∀ Y, (H ++ Y)[i]? = some b := fun i b h Y => by rw [List.getElem?_append_left (List.getElem?_eq_some_iff.1 h).1]; exact h
  have a0 := ap 0 _ hJ.r0
  have a1 := ap 1 _ hJ.r1
  have a2 := ap 2 _ hJ.r2
  have a5 := ap 5 _ hJ.lp
  have a3 := hJ.ou
  have s0 : ∀ Y v, (H ++ Y).set 0 v = H.set 0 v ++ Y := fun Y v => List.set_append_left _ _ (by omega)
  have b1 : ∀ Y v, (H.set 0 v ++ Y)[1]? = some (.cells true false 1 [[i64 0]]) := fun Y v => by rw [List.getElem?_append_left (by simp; omega), List.getElem?_set_ne (by decide)]; exact hJ.r1
  have s1 : ∀ Y u v, (H.set 0 u ++ Y).set 1 v = (H.set 0 u).set 1 v ++ Y := fun Y u v => List.set_append_left _ _ (by simp; omega)
  have b2 : ∀ Y u v, ((H.set 0 u).set 1 v ++ Y)[2]? = some (.cells true false 1 [[i64 0]]) := fun Y u v => by rw [List.getElem?_append_left (by simp; omega), List.getElem?_set_ne (by decide), List.getElem?_set_ne (by decide)]; exact hJ.r2
  have s2 : ∀ Y u v x, ((H.set 0 u).set 1 v ++ Y).set 2 x = ((H.set 0 u).set 1 v).set 2 x ++ Y := fun Y u v x => List.set_append_left _ _ (by simp; omega)
  have fin : ∀ Y, (((H.set 0 (.cells true false 1 [[.sl true 0 []]])).set 1 (.cells true false 1 [[i64 ((M.length : Int) + 1)]])).set 2 (.cells true false 1 [[i64 7]]) ++ Y)[0]? = some (.cells true false 1 [[.sl true 0 []]]) ∧
      (((H.set 0 (.cells true false 1 [[.sl true 0 []]])).set 1 (.cells true false 1 [[i64 ((M.length : Int) + 1)]])).set 2 (.cells true false 1 [[i64 7]]) ++ Y)[1]? = some (.cells true false 1 [[i64 ((M.length : Int) + 1)]]) ∧
      (((H.set 0 (.cells true false 1 [[.sl true 0 []]])).set 1 (.cells true false 1 [[i64 ((M.length : Int) + 1)]])).set 2 (.cells true false 1 [[i64 7]]) ++ Y)[2]? = some (.cells true false 1 [[i64 7]]) ∧
      (((H.set 0 (.cells true false 1 [[.sl true 0 []]])).set 1 (.cells true false 1 [[i64 ((M.length : Int) + 1)]])).set 2 (.cells true false 1 [[i64 7]]) ++ Y)[5]? = some (.obj .lpx) := fun Y => by
    refine ⟨?_, ?_, ?_, ?_⟩
    · rw [List.getElem?_append_left (by simp; omega), List.getElem?_set_ne (by decide), List.getElem?_set_ne (by decide), List.getElem?_set_self (by omega)]
    · rw [List.getElem?_append_left (by simp; omega), List.getElem?_set_ne (by decide), List.getElem?_set_self (by simp; omega)]
    · rw [List.getElem?_append_left (by simp; omega), List.getElem?_set_self (by simp; omega)]
    · rw [List.getElem?_append_left (by simp; omega), List.getElem?_set_ne (by decide), List.getElem?_set_ne (by decide), List.getElem?_set_ne (by decide)]; exact hJ.lp
  replace fin := PLift.up fin
  obtain ⟨N, hN⟩ : ∃ N, H.length = N := ⟨_, rfl⟩
  obtain ⟨g1, g2, g3, g4⟩ := cells_sub (X := []) hN
  subst hm
  simp only [ouV, List.length_nil, if_true] at a3
  have a3' := ap 3 _ a3
  clear hJ ap
  simp only [rdV, rdB] at h48
  unfold c15r0
  simp only [SL15]
  repeat' (first | ((with_reducible refine T_calm ?_ ?_); rfl) | (with_reducible first | refine T_seq ?_ | refine T_reg ?_ | refine T_draw ?_ | refine T_skip ?_ | refine T_exit ?_ | refine T_block ?_ | refine T_cond_t rfl ?_ | refine T_cond_f rfl ?_ | refine wdW_cons rfl ?_ | (show wcall _ false (.lit (.func (.func 47) _ _)) _ _ _ _; refine wcall_fn (h47) rfl (by simp [plainL, plain]) ?_) | (show wcallX _ false (.lit (.func (.func 47) _ _)) _ _ _ _; refine wcallX_fn (h47) rfl (by simp [plainL, plain, plainR, hN, renR_ints]) ?_) | (show wcall _ false (.lit (.func (.func 48) _ _)) _ _ _ _; refine wcall_fn (h48) rfl (by simp [plainL, plain]) ?_) | (show wcallX _ false (.lit (.func (.func 48) _ _)) _ _ _ _; refine wcallX_fn (h48) rfl (by simp [plainL, plain, plainR, hN, renR_ints]) ?_) | refine T_ret ?_ | refine leave_of (.inr rfl) _ rfl ?_ | refine leave_of (.inl rfl) _ rfl ?_ | refine wif_intro ?_ (fun hc => ?_) | refine And.intro ?_ ?_ | intro hc) | simp (maxSteps := 4000000) only [wops_nil, wops_cons, wstep_none, wstep_some, wguard_tf, wrun_call, wrun_mv, wrun_pick, wrun_bin, wrun_not, wrun_ext, wrun_load, wrun_store, wrun_len, wrun_alloc, wrunX_bin, wrunX_load, wrunX_store, wrunX_len, wdW_nil, wstepX_none, wop, aop, ev, look, put_some, put_none, writes, ores_some, binV, thenK, blockK, boolV, intV, lenOf, value, cut, hget, putCells, AV.parts, isOne, toLits, mkAgg, List.map_cons, List.map_nil, List.length_cons, List.length_nil, List.getElem?_cons_zero, List.getElem?_cons_succ, List.set_cons_zero, List.take_succ_cons, List.take_zero, List.take_nil, List.drop_succ_cons, List.drop_zero, List.drop_nil, List.nil_append, List.append_nil, List.append_assoc, List.replicate_zero, List.replicate_succ, List.getD_cons_zero, List.all_cons, List.all_nil, List.length_append, Option.pure_def, Option.bind_eq_bind, Option.getD_some, Option.map_some, Option.bind_some, if_true, if_false, Nat.reduceEqDiff, Nat.reduceAdd, Nat.reduceLT, Nat.add_zero, Nat.zero_add, Nat.le_refl, reduceCtorEq, Bool.not_false, Bool.and_true, Bool.false_eq_true, eq_self, true_and, and_self, freeze, lidsL, lids, List.flatMap_cons, List.flatMap_nil, List.all_cons, ren, renL, renR, *] | simp (disch := omega) only [wrapI] | (with_reducible show wcall _ false (.lit (.func (.func 47) _ _)) _ _ _ _; refine wcall_fn (h47) ?_ ?_ ?_; (next => simp [rfyL, rfy, hget, ints, take_rfy, hN, renR_ints]); (next => simp [plainL, plain, plainR, hN, renR_ints])) | (with_reducible show wcallX _ false (.lit (.func (.func 47) _ _)) _ _ _ _; refine wcallX_fn (h47) ?_ ?_ ?_; (next => simp [rfyL, rfy, hget, ints, take_rfy, hN, renR_ints]); (next => simp [plainL, plain, plainR, hN, renR_ints])) | (with_reducible show wcall _ false (.lit (.func (.func 48) _ _)) _ _ _ _; refine wcall_fn (h48) ?_ ?_ ?_; (next => simp [rfyL, rfy, hget, ints, take_rfy, hN, renR_ints]); (next => simp [plainL, plain, plainR, hN, renR_ints])) | (with_reducible show wcallX _ false (.lit (.func (.func 48) _ _)) _ _ _ _; refine wcallX_fn (h48) ?_ ?_ ?_; (next => simp [rfyL, rfy, hget, ints, take_rfy, hN, renR_ints]); (next => simp [plainL, plain, plainR, hN, renR_ints])) | omega)
  all_goals first | exact (fin.down _).1 | exact (fin.down _).2.1 | exact (fin.down _).2.2.1 | exact (fin.down _).2.2.2
set_option maxHeartbeats 8000000 in
theorem k15n0c {M : List Ln} {io : Nat} {H : List Blk} {ln w n : ByteArray} {l : List Int} {lp : Nat} (hl : M.length ≤ 1000000) (hJ : J15 M io H) (hm : M = []) (h0 : l = []) (h47 : Fn Tryz.prog 47 [strV ln, strV ⟨#[10]⟩] (.tup [strV w, bl false]) []) (h48 : Fn Tryz.prog 48 [strV w] (rdV (some (n, l))) (rdB (some (n, l)))) :
    T (some lp) Tryz.prog muts 51 H.length c15r0 ⟨SL15 ln, H⟩ (fun e s => e = .ret ∧ s.heap[0]? = some (.cells true false 1 [[.sl true 0 []]]) ∧ s.heap[1]? = some (.cells true false 1 [[i64 ((M.length : Int) + 1)]]) ∧ s.heap[2]? = some (.cells true false 1 [[i64 7]]) ∧ s.heap[5]? = some (.obj .lpx)) := by
  have hlt := (List.getElem?_eq_some_iff.1 hJ.lp).1
  have ap : ∀ (i : Nat) (b : Blk), H[i]? = some b → ∀ Y, (H ++ Y)[i]? = some b := fun i b h Y => by rw [List.getElem?_append_left (List.getElem?_eq_some_iff.1 h).1]; exact h
  have a0 := ap 0 _ hJ.r0
  have a1 := ap 1 _ hJ.r1
  have a2 := ap 2 _ hJ.r2
  have a5 := ap 5 _ hJ.lp
  have a3 := hJ.ou
  have s0 : ∀ Y v, (H ++ Y).set 0 v = H.set 0 v ++ Y := fun Y v => List.set_append_left _ _ (by omega)
  have b1 : ∀ Y v, (H.set 0 v ++ Y)[1]? = some (.cells true false 1 [[i64 0]]) := fun Y v => by rw [List.getElem?_append_left (by simp; omega), List.getElem?_set_ne (by decide)]; exact hJ.r1
  have s1 : ∀ Y u v, (H.set 0 u ++ Y).set 1 v = (H.set 0 u).set 1 v ++ Y := fun Y u v => List.set_append_left _ _ (by simp; omega)
  have b2 : ∀ Y u v, ((H.set 0 u).set 1 v ++ Y)[2]? = some (.cells true false 1 [[i64 0]]) := fun Y u v => by rw [List.getElem?_append_left (by simp; omega), List.getElem?_set_ne (by decide), List.getElem?_set_ne (by decide)]; exact hJ.r2
  have s2 : ∀ Y u v x, ((H.set 0 u).set 1 v ++ Y).set 2 x = ((H.set 0 u).set 1 v).set 2 x ++ Y := fun Y u v x => List.set_append_left _ _ (by simp; omega)
  have fin : ∀ Y, (((H.set 0 (.cells true false 1 [[.sl true 0 []]])).set 1 (.cells true false 1 [[i64 ((M.length : Int) + 1)]])).set 2 (.cells true false 1 [[i64 7]]) ++ Y)[0]? = some (.cells true false 1 [[.sl true 0 []]]) ∧
      (((H.set 0 (.cells true false 1 [[.sl true 0 []]])).set 1 (.cells true false 1 [[i64 ((M.length : Int) + 1)]])).set 2 (.cells true false 1 [[i64 7]]) ++ Y)[1]? = some (.cells true false 1 [[i64 ((M.length : Int) + 1)]]) ∧
      (((H.set 0 (.cells true false 1 [[.sl true 0 []]])).set 1 (.cells true false 1 [[i64 ((M.length : Int) + 1)]])).set 2 (.cells true false 1 [[i64 7]]) ++ Y)[2]? = some (.cells true false 1 [[i64 7]]) ∧
      (((H.set 0 (.cells true false 1 [[.sl true 0 []]])).set 1 (.cells true false 1 [[i64 ((M.length : Int) + 1)]])).set 2 (.cells true false 1 [[i64 7]]) ++ Y)[5]? = some (.obj .lpx) := fun Y => by
    refine ⟨?_, ?_, ?_, ?_⟩
    · rw [List.getElem?_append_left (by simp; omega), List.getElem?_set_ne (by decide), List.getElem?_set_ne (by decide), List.getElem?_set_self (by omega)]
    · rw [List.getElem?_append_left (by simp; omega), List.getElem?_set_ne (by decide), List.getElem?_set_self (by simp; omega)]
    · rw [List.getElem?_append_left (by simp; omega), List.getElem?_set_self (by simp; omega)]
    · rw [List.getElem?_append_left (by simp; omega), List.getElem?_set_ne (by decide), List.getElem?_set_ne (by decide), List.getElem?_set_ne (by decide)]; exact hJ.lp
  replace fin := PLift.up fin
  obtain ⟨N, hN⟩ : ∃ N, H.length = N := ⟨_, rfl⟩
  obtain ⟨g1, g2, g3, g4⟩ := cells_sub (X := []) hN
  subst hm
  simp only [ouV, List.length_nil, if_true] at a3
  have a3' := ap 3 _ a3
  subst h0
  clear hJ ap
  simp only [rdV, rdB, wvV, wvB, if_true] at h48
  unfold c15r0
  simp only [SL15]
  repeat' (first | ((with_reducible refine T_calm ?_ ?_); rfl) | (with_reducible first | refine T_seq ?_ | refine T_reg ?_ | refine T_draw ?_ | refine T_skip ?_ | refine T_exit ?_ | refine T_block ?_ | refine T_cond_t rfl ?_ | refine T_cond_f rfl ?_ | refine wdW_cons rfl ?_ | (show wcall _ false (.lit (.func (.func 47) _ _)) _ _ _ _; refine wcall_fn (h47) rfl (by simp [plainL, plain]) ?_) | (show wcallX _ false (.lit (.func (.func 47) _ _)) _ _ _ _; refine wcallX_fn (h47) rfl (by simp [plainL, plain, plainR, hN, renR_ints]) ?_) | (show wcall _ false (.lit (.func (.func 48) _ _)) _ _ _ _; refine wcall_fn (h48) rfl (by simp [plainL, plain]) ?_) | (show wcallX _ false (.lit (.func (.func 48) _ _)) _ _ _ _; refine wcallX_fn (h48) rfl (by simp [plainL, plain, plainR, hN, renR_ints]) ?_) | refine T_ret ?_ | refine leave_of (.inr rfl) _ rfl ?_ | refine leave_of (.inl rfl) _ rfl ?_ | refine wif_intro ?_ (fun hc => ?_) | refine And.intro ?_ ?_ | intro hc) | simp (maxSteps := 4000000) only [wops_nil, wops_cons, wstep_none, wstep_some, wguard_tf, wrun_call, wrun_mv, wrun_pick, wrun_bin, wrun_not, wrun_ext, wrun_load, wrun_store, wrun_len, wrun_alloc, wrunX_bin, wrunX_load, wrunX_store, wrunX_len, wdW_nil, wstepX_none, wop, aop, ev, look, put_some, put_none, writes, ores_some, binV, thenK, blockK, boolV, intV, lenOf, value, cut, hget, putCells, AV.parts, isOne, toLits, mkAgg, List.map_cons, List.map_nil, List.length_cons, List.length_nil, List.getElem?_cons_zero, List.getElem?_cons_succ, List.set_cons_zero, List.take_succ_cons, List.take_zero, List.take_nil, List.drop_succ_cons, List.drop_zero, List.drop_nil, List.nil_append, List.append_nil, List.append_assoc, List.replicate_zero, List.replicate_succ, List.getD_cons_zero, List.all_cons, List.all_nil, List.length_append, Option.pure_def, Option.bind_eq_bind, Option.getD_some, Option.map_some, Option.bind_some, if_true, if_false, Nat.reduceEqDiff, Nat.reduceAdd, Nat.reduceLT, Nat.add_zero, Nat.zero_add, Nat.le_refl, reduceCtorEq, Bool.not_false, Bool.and_true, Bool.false_eq_true, eq_self, true_and, and_self, freeze, lidsL, lids, List.flatMap_cons, List.flatMap_nil, List.all_cons, ren, renL, renR, *] | simp (disch := omega) only [wrapI] | (with_reducible show wcall _ false (.lit (.func (.func 47) _ _)) _ _ _ _; refine wcall_fn (h47) ?_ ?_ ?_; (next => simp [rfyL, rfy, hget, ints, take_rfy, hN, renR_ints]); (next => simp [plainL, plain, plainR, hN, renR_ints])) | (with_reducible show wcallX _ false (.lit (.func (.func 47) _ _)) _ _ _ _; refine wcallX_fn (h47) ?_ ?_ ?_; (next => simp [rfyL, rfy, hget, ints, take_rfy, hN, renR_ints]); (next => simp [plainL, plain, plainR, hN, renR_ints])) | (with_reducible show wcall _ false (.lit (.func (.func 48) _ _)) _ _ _ _; refine wcall_fn (h48) ?_ ?_ ?_; (next => simp [rfyL, rfy, hget, ints, take_rfy, hN, renR_ints]); (next => simp [plainL, plain, plainR, hN, renR_ints])) | (with_reducible show wcallX _ false (.lit (.func (.func 48) _ _)) _ _ _ _; refine wcallX_fn (h48) ?_ ?_ ?_; (next => simp [rfyL, rfy, hget, ints, take_rfy, hN, renR_ints]); (next => simp [plainL, plain, plainR, hN, renR_ints])) | omega)
  all_goals first | exact (fin.down _).1 | exact (fin.down _).2.1 | exact (fin.down _).2.2.1 | exact (fin.down _).2.2.2
set_option maxHeartbeats 8000000 in
theorem k15n0d {M : List Ln} {io : Nat} {H : List Blk} {ln w n : ByteArray} {l : List Int} {lp : Nat} (hl : M.length ≤ 1000000) (hJ : J15 M io H) (hm : M = []) (h0 : l ≠ []) (h47 : Fn Tryz.prog 47 [strV ln, strV ⟨#[10]⟩] (.tup [strV w, bl false]) []) (h48 : Fn Tryz.prog 48 [strV w] (rdV (some (n, l))) (rdB (some (n, l)))) :
    T (some lp) Tryz.prog muts 51 H.length c15r0 ⟨SL15 ln, H⟩ (fun e s => e = .ret ∧ s.heap[0]? = some (.cells true false 1 [[.sl true 0 []]]) ∧ s.heap[1]? = some (.cells true false 1 [[i64 ((M.length : Int) + 1)]]) ∧ s.heap[2]? = some (.cells true false 1 [[i64 7]]) ∧ s.heap[5]? = some (.obj .lpx)) := by
  have hlt := (List.getElem?_eq_some_iff.1 hJ.lp).1
  have ap : ∀ (i : Nat) (b : Blk), H[i]? = some b → ∀ Y, (H ++ Y)[i]? = some b := fun i b h Y => by rw [List.getElem?_append_left (List.getElem?_eq_some_iff.1 h).1]; exact h
  have a0 := ap 0 _ hJ.r0
  have a1 := ap 1 _ hJ.r1
  have a2 := ap 2 _ hJ.r2
  have a5 := ap 5 _ hJ.lp
  have a3 := hJ.ou
  have s0 : ∀ Y v, (H ++ Y).set 0 v = H.set 0 v ++ Y := fun Y v => List.set_append_left _ _ (by omega)
  have b1 : ∀ Y v, (H.set 0 v ++ Y)[1]? = some (.cells true false 1 [[i64 0]]) := fun Y v => by rw [List.getElem?_append_left (by simp; omega), List.getElem?_set_ne (by decide)]; exact hJ.r1
  have s1 : ∀ Y u v, (H.set 0 u ++ Y).set 1 v = (H.set 0 u).set 1 v ++ Y := fun Y u v => List.set_append_left _ _ (by simp; omega)
  have b2 : ∀ Y u v, ((H.set 0 u).set 1 v ++ Y)[2]? = some (.cells true false 1 [[i64 0]]) := fun Y u v => by rw [List.getElem?_append_left (by simp; omega), List.getElem?_set_ne (by decide), List.getElem?_set_ne (by decide)]; exact hJ.r2
  have s2 : ∀ Y u v x, ((H.set 0 u).set 1 v ++ Y).set 2 x = ((H.set 0 u).set 1 v).set 2 x ++ Y := fun Y u v x => List.set_append_left _ _ (by simp; omega)
  have fin : ∀ Y, (((H.set 0 (.cells true false 1 [[.sl true 0 []]])).set 1 (.cells true false 1 [[i64 ((M.length : Int) + 1)]])).set 2 (.cells true false 1 [[i64 7]]) ++ Y)[0]? = some (.cells true false 1 [[.sl true 0 []]]) ∧
      (((H.set 0 (.cells true false 1 [[.sl true 0 []]])).set 1 (.cells true false 1 [[i64 ((M.length : Int) + 1)]])).set 2 (.cells true false 1 [[i64 7]]) ++ Y)[1]? = some (.cells true false 1 [[i64 ((M.length : Int) + 1)]]) ∧
      (((H.set 0 (.cells true false 1 [[.sl true 0 []]])).set 1 (.cells true false 1 [[i64 ((M.length : Int) + 1)]])).set 2 (.cells true false 1 [[i64 7]]) ++ Y)[2]? = some (.cells true false 1 [[i64 7]]) ∧
      (((H.set 0 (.cells true false 1 [[.sl true 0 []]])).set 1 (.cells true false 1 [[i64 ((M.length : Int) + 1)]])).set 2 (.cells true false 1 [[i64 7]]) ++ Y)[5]? = some (.obj .lpx) := fun Y => by
    refine ⟨?_, ?_, ?_, ?_⟩
    · rw [List.getElem?_append_left (by simp; omega), List.getElem?_set_ne (by decide), List.getElem?_set_ne (by decide), List.getElem?_set_self (by omega)]
    · rw [List.getElem?_append_left (by simp; omega), List.getElem?_set_ne (by decide), List.getElem?_set_self (by simp; omega)]
    · rw [List.getElem?_append_left (by simp; omega), List.getElem?_set_self (by simp; omega)]
    · rw [List.getElem?_append_left (by simp; omega), List.getElem?_set_ne (by decide), List.getElem?_set_ne (by decide), List.getElem?_set_ne (by decide)]; exact hJ.lp
  replace fin := PLift.up fin
  obtain ⟨N, hN⟩ : ∃ N, H.length = N := ⟨_, rfl⟩
  obtain ⟨g1, g2, g3, g4⟩ := cells_sub (X := []) hN
  subst hm
  simp only [ouV, List.length_nil, if_true] at a3
  have a3' := ap 3 _ a3
  clear hJ ap
  simp only [rdV, rdB, wvV, wvB, h0, if_false] at h48
  unfold c15r0
  simp only [SL15]
  repeat' (first | ((with_reducible refine T_calm ?_ ?_); rfl) | (with_reducible first | refine T_seq ?_ | refine T_reg ?_ | refine T_draw ?_ | refine T_skip ?_ | refine T_exit ?_ | refine T_block ?_ | refine T_cond_t rfl ?_ | refine T_cond_f rfl ?_ | refine wdW_cons rfl ?_ | (show wcall _ false (.lit (.func (.func 47) _ _)) _ _ _ _; refine wcall_fn (h47) rfl (by simp [plainL, plain]) ?_) | (show wcallX _ false (.lit (.func (.func 47) _ _)) _ _ _ _; refine wcallX_fn (h47) rfl (by simp [plainL, plain, plainR, hN, renR_ints]) ?_) | (show wcall _ false (.lit (.func (.func 48) _ _)) _ _ _ _; refine wcall_fn (h48) rfl (by simp [plainL, plain]) ?_) | (show wcallX _ false (.lit (.func (.func 48) _ _)) _ _ _ _; refine wcallX_fn (h48) rfl (by simp [plainL, plain, plainR, hN, renR_ints]) ?_) | refine T_ret ?_ | refine leave_of (.inr rfl) _ rfl ?_ | refine leave_of (.inl rfl) _ rfl ?_ | refine wif_intro ?_ (fun hc => ?_) | refine And.intro ?_ ?_ | intro hc) | simp (maxSteps := 4000000) only [wops_nil, wops_cons, wstep_none, wstep_some, wguard_tf, wrun_call, wrun_mv, wrun_pick, wrun_bin, wrun_not, wrun_ext, wrun_load, wrun_store, wrun_len, wrun_alloc, wrunX_bin, wrunX_load, wrunX_store, wrunX_len, wdW_nil, wstepX_none, wop, aop, ev, look, put_some, put_none, writes, ores_some, binV, thenK, blockK, boolV, intV, lenOf, value, cut, hget, putCells, AV.parts, isOne, toLits, mkAgg, List.map_cons, List.map_nil, List.length_cons, List.length_nil, List.getElem?_cons_zero, List.getElem?_cons_succ, List.set_cons_zero, List.take_succ_cons, List.take_zero, List.take_nil, List.drop_succ_cons, List.drop_zero, List.drop_nil, List.cons_append, List.nil_append, List.append_nil, List.append_assoc, List.replicate_zero, List.replicate_succ, List.getD_cons_zero, List.all_cons, List.all_nil, List.length_append, Option.pure_def, Option.bind_eq_bind, Option.getD_some, Option.map_some, Option.bind_some, if_true, if_false, Nat.reduceEqDiff, Nat.reduceAdd, Nat.reduceLT, Nat.add_zero, Nat.zero_add, Nat.le_refl, reduceCtorEq, Bool.not_false, Bool.and_true, Bool.false_eq_true, eq_self, true_and, and_self, freeze, lidsL, lids, List.flatMap_cons, List.flatMap_nil, List.all_cons, ren, renL, renB, shiftρ, renR_ints, renR_ints, *] | simp (disch := omega) only [wrapI] | (with_reducible show wcall _ false (.lit (.func (.func 47) _ _)) _ _ _ _; refine wcall_fn (h47) ?_ ?_ ?_; (next => simp [rfyL, rfy, hget, ints, take_rfy, hN, renR_ints]); (next => simp [plainL, plain, plainR, hN, renR_ints])) | (with_reducible show wcallX _ false (.lit (.func (.func 47) _ _)) _ _ _ _; refine wcallX_fn (h47) ?_ ?_ ?_; (next => simp [rfyL, rfy, hget, ints, take_rfy, hN, renR_ints]); (next => simp [plainL, plain, plainR, hN, renR_ints])) | (with_reducible show wcall _ false (.lit (.func (.func 48) _ _)) _ _ _ _; refine wcall_fn (h48) ?_ ?_ ?_; (next => simp [rfyL, rfy, hget, ints, take_rfy, hN, renR_ints]); (next => simp [plainL, plain, plainR, hN, renR_ints])) | (with_reducible show wcallX _ false (.lit (.func (.func 48) _ _)) _ _ _ _; refine wcallX_fn (h48) ?_ ?_ ?_; (next => simp [rfyL, rfy, hget, ints, take_rfy, hN, renR_ints]); (next => simp [plainL, plain, plainR, hN, renR_ints])) | omega)
  all_goals first | exact (fin.down _).1 | exact (fin.down _).2.1 | exact (fin.down _).2.2.1 | exact (fin.down _).2.2.2
set_option maxHeartbeats 8000000 in
theorem k15n1a {M : List Ln} {io : Nat} {H : List Blk} {ln w n : ByteArray} {l : List Int} {lp : Nat} (hl : M.length ≤ 1000000) (hJ : J15 M io H) (hm : M ≠ [])  (h47 : Fn Tryz.prog 47 [strV ln, strV ⟨#[10]⟩] (.tup [strV w, bl true]) []) (h48 : Fn Tryz.prog 48 [strV w] (rdV none) (rdB none)) :
    T (some lp) Tryz.prog muts 51 H.length c15r0 ⟨SL15 ln, H⟩ (fun e s => e = .ret ∧ s.heap[0]? = some (.cells true false 1 [[.sl true 0 []]]) ∧ s.heap[1]? = some (.cells true false 1 [[i64 ((M.length : Int) + 1)]]) ∧ s.heap[2]? = some (.cells true false 1 [[i64 7]]) ∧ s.heap[5]? = some (.obj .lpx)) := by
  have hlt := (List.getElem?_eq_some_iff.1 hJ.lp).1
  have ap : ∀ (i : Nat) (b : Blk), H[i]? = some b → ∀ Y, (H ++ Y)[i]? = some b := fun i b h Y => by rw [List.getElem?_append_left (List.getElem?_eq_some_iff.1 h).1]; exact h
  have a0 := ap 0 _ hJ.r0
  have a1 := ap 1 _ hJ.r1
  have a2 := ap 2 _ hJ.r2
  have a5 := ap 5 _ hJ.lp
  have a3 := hJ.ou
  have s0 : ∀ Y v, (H ++ Y).set 0 v = H.set 0 v ++ Y := fun Y v => List.set_append_left _ _ (by omega)
  have b1 : ∀ Y v, (H.set 0 v ++ Y)[1]? = some (.cells true false 1 [[i64 0]]) := fun Y v => by rw [List.getElem?_append_left (by simp; omega), List.getElem?_set_ne (by decide)]; exact hJ.r1
  have s1 : ∀ Y u v, (H.set 0 u ++ Y).set 1 v = (H.set 0 u).set 1 v ++ Y := fun Y u v => List.set_append_left _ _ (by simp; omega)
  have b2 : ∀ Y u v, ((H.set 0 u).set 1 v ++ Y)[2]? = some (.cells true false 1 [[i64 0]]) := fun Y u v => by rw [List.getElem?_append_left (by simp; omega), List.getElem?_set_ne (by decide), List.getElem?_set_ne (by decide)]; exact hJ.r2
  have s2 : ∀ Y u v x, ((H.set 0 u).set 1 v ++ Y).set 2 x = ((H.set 0 u).set 1 v).set 2 x ++ Y := fun Y u v x => List.set_append_left _ _ (by simp; omega)
  have fin : ∀ Y, (((H.set 0 (.cells true false 1 [[.sl true 0 []]])).set 1 (.cells true false 1 [[i64 ((M.length : Int) + 1)]])).set 2 (.cells true false 1 [[i64 7]]) ++ Y)[0]? = some (.cells true false 1 [[.sl true 0 []]]) ∧
      (((H.set 0 (.cells true false 1 [[.sl true 0 []]])).set 1 (.cells true false 1 [[i64 ((M.length : Int) + 1)]])).set 2 (.cells true false 1 [[i64 7]]) ++ Y)[1]? = some (.cells true false 1 [[i64 ((M.length : Int) + 1)]]) ∧
      (((H.set 0 (.cells true false 1 [[.sl true 0 []]])).set 1 (.cells true false 1 [[i64 ((M.length : Int) + 1)]])).set 2 (.cells true false 1 [[i64 7]]) ++ Y)[2]? = some (.cells true false 1 [[i64 7]]) ∧
      (((H.set 0 (.cells true false 1 [[.sl true 0 []]])).set 1 (.cells true false 1 [[i64 ((M.length : Int) + 1)]])).set 2 (.cells true false 1 [[i64 7]]) ++ Y)[5]? = some (.obj .lpx) := fun Y => by
    refine ⟨?_, ?_, ?_, ?_⟩
    · rw [List.getElem?_append_left (by simp; omega), List.getElem?_set_ne (by decide), List.getElem?_set_ne (by decide), List.getElem?_set_self (by omega)]
    · rw [List.getElem?_append_left (by simp; omega), List.getElem?_set_ne (by decide), List.getElem?_set_self (by simp; omega)]
    · rw [List.getElem?_append_left (by simp; omega), List.getElem?_set_self (by simp; omega)]
    · rw [List.getElem?_append_left (by simp; omega), List.getElem?_set_ne (by decide), List.getElem?_set_ne (by decide), List.getElem?_set_ne (by decide)]; exact hJ.lp
  replace fin := PLift.up fin
  obtain ⟨N, hN⟩ : ∃ N, H.length = N := ⟨_, rfl⟩
  obtain ⟨g1, g2, g3, g4⟩ := cells_sub (X := []) hN
  obtain ⟨E, hE, hS, hB⟩ := hJ.st hm
  have aE := ap io _ hE
  have hEl : E.length = M.length := hS.1
  have hk0 : M.length ≠ 0 := fun h => hm (List.eq_nil_of_length_eq_zero h)
  have q0 : io ≠ 0 := fun e => by rw [e, hJ.r0] at hE; simp at hE
  have q1 : io ≠ 1 := fun e => by rw [e, hJ.r1] at hE; simp at hE
  have q2 : io ≠ 2 := fun e => by rw [e, hJ.r2] at hE; simp at hE
  have p0 := Ne.symm q0
  have p1 := Ne.symm q1
  have p2 := Ne.symm q2
  simp only [ouV, hk0, if_false] at a3
  have a3' := ap 3 _ a3
  replace hk0 := And.intro hk0 trivial
  replace hm := PLift.up hm
  clear hJ ap
  simp only [rdV, rdB] at h48
  unfold c15r0
  simp only [SL15]
  repeat' (first | ((with_reducible refine T_calm ?_ ?_); rfl) | (with_reducible first | refine T_seq ?_ | refine T_reg ?_ | refine T_draw ?_ | refine T_skip ?_ | refine T_exit ?_ | refine T_block ?_ | refine T_cond_t rfl ?_ | refine T_cond_f rfl ?_ | refine wdW_cons rfl ?_ | (show wcall _ false (.lit (.func (.func 47) _ _)) _ _ _ _; refine wcall_fn (h47) rfl (by simp [plainL, plain]) ?_) | (show wcallX _ false (.lit (.func (.func 47) _ _)) _ _ _ _; refine wcallX_fn (h47) rfl (by simp [plainL, plain, plainR, hN, renR_ints, q0, q1, q2, p0, p1, p2]) ?_) | (show wcall _ false (.lit (.func (.func 48) _ _)) _ _ _ _; refine wcall_fn (h48) rfl (by simp [plainL, plain]) ?_) | (show wcallX _ false (.lit (.func (.func 48) _ _)) _ _ _ _; refine wcallX_fn (h48) rfl (by simp [plainL, plain, plainR, hN, renR_ints, q0, q1, q2, p0, p1, p2]) ?_) | refine T_ret ?_ | refine leave_of (.inr rfl) _ rfl ?_ | refine leave_of (.inl rfl) _ rfl ?_ | refine wif_intro ?_ (fun hc => ?_) | refine And.intro ?_ ?_ | intro hc) | simp (maxSteps := 4000000) only [wops_nil, wops_cons, wstep_none, wstep_some, wguard_ff, wrun_call, wrun_mv, wrun_pick, wrun_bin, wrun_not, wrun_ext, wrun_load, wrun_store, wrun_len, wrun_alloc, wrunX_bin, wrunX_load, wrunX_store, wrunX_len, wdW_nil, wstepX_none, wop, aop, ev, look, put_some, put_none, writes, ores_some, binV, thenK, blockK, boolV, intV, lenOf, value, cut, hget, putCells, AV.parts, isOne, toLits, mkAgg, List.map_cons, List.map_nil, List.length_cons, List.length_nil, List.getElem?_cons_zero, List.getElem?_cons_succ, List.set_cons_zero, List.take_succ_cons, List.take_zero, List.take_nil, List.drop_succ_cons, List.drop_zero, List.drop_nil, List.nil_append, List.append_nil, List.append_assoc, List.replicate_zero, List.replicate_succ, List.getD_cons_zero, List.all_cons, List.all_nil, List.length_append, Option.pure_def, Option.bind_eq_bind, Option.getD_some, Option.map_some, Option.bind_some, if_true, if_false, Nat.reduceEqDiff, Nat.reduceAdd, Nat.reduceLT, Nat.add_zero, Nat.zero_add, Nat.le_refl, reduceCtorEq, Bool.not_true, Bool.not_false, Bool.and_true, Bool.false_eq_true, eq_self, true_and, and_self, freeze, lidsL, lids, List.flatMap_cons, List.flatMap_nil, List.all_cons, ren, renL, renR, *] | simp (disch := omega) only [wrapI] | (with_reducible show wcall _ false (.lit (.func (.func 47) _ _)) _ _ _ _; refine wcall_fn (h47) ?_ ?_ ?_; (next => simp [rfyL, rfy, hget, ints, take_rfy, hN, renR_ints, q0, q1, q2, p0, p1, p2]); (next => simp [plainL, plain, plainR, hN, renR_ints, q0, q1, q2, p0, p1, p2])) | (with_reducible show wcallX _ false (.lit (.func (.func 47) _ _)) _ _ _ _; refine wcallX_fn (h47) ?_ ?_ ?_; (next => simp [rfyL, rfy, hget, ints, take_rfy, hN, renR_ints, q0, q1, q2, p0, p1, p2]); (next => simp [plainL, plain, plainR, hN, renR_ints, q0, q1, q2, p0, p1, p2])) | (with_reducible show wcall _ false (.lit (.func (.func 48) _ _)) _ _ _ _; refine wcall_fn (h48) ?_ ?_ ?_; (next => simp [rfyL, rfy, hget, ints, take_rfy, hN, renR_ints, q0, q1, q2, p0, p1, p2]); (next => simp [plainL, plain, plainR, hN, renR_ints, q0, q1, q2, p0, p1, p2])) | (with_reducible show wcallX _ false (.lit (.func (.func 48) _ _)) _ _ _ _; refine wcallX_fn (h48) ?_ ?_ ?_; (next => simp [rfyL, rfy, hget, ints, take_rfy, hN, renR_ints, q0, q1, q2, p0, p1, p2]); (next => simp [plainL, plain, plainR, hN, renR_ints, q0, q1, q2, p0, p1, p2])) | (with_reducible refine wdW_cons ?_ ?_; (next => simp [chk, foot, compatB, St.get, ev, look, kind, AOp.isRaw, wids, tops, opds, topId, p0]; done)) | omega)
  all_goals first | exact (fin.down _).1 | exact (fin.down _).2.1 | exact (fin.down _).2.2.1 | exact (fin.down _).2.2.2
set_option maxHeartbeats 8000000 in
theorem k15n1b {M : List Ln} {io : Nat} {H : List Blk} {ln w n : ByteArray} {l : List Int} {lp : Nat} (hl : M.length ≤ 1000000) (hJ : J15 M io H) (hm : M ≠ [])  (h47 : Fn Tryz.prog 47 [strV ln, strV ⟨#[10]⟩] (.tup [strV w, bl false]) []) (h48 : Fn Tryz.prog 48 [strV w] (rdV none) (rdB none)) :
    T (some lp) Tryz.prog muts 51 H.length c15r0 ⟨SL15 ln, H⟩ (fun e s => e = .ret ∧ s.heap[0]? = some (.cells true false 1 [[.sl true 0 []]]) ∧ s.heap[1]? = some (.cells true false 1 [[i64 ((M.length : Int) + 1)]]) ∧ s.heap[2]? = some (.cells true false 1 [[i64 7]]) ∧ s.heap[5]? = some (.obj .lpx)) := by
  have hlt := (List.getElem?_eq_some_iff.1 hJ.lp).1
  have ap : ∀ (i : Nat) (b : Blk), H[i]? = some b → ∀ Y, (H ++ Y)[i]? = some b := fun i b h Y => by rw [List.getElem?_append_left (List.getElem?_eq_some_iff.1 h).1]; exact h
  have a0 := ap 0 _ hJ.r0
  have a1 := ap 1 _ hJ.r1
  have a2 := ap 2 _ hJ.r2
  have a5 := ap 5 _ hJ.lp
  have a3 := hJ.ou
  have s0 : ∀ Y v, (H ++ Y).set 0 v = H.set 0 v ++ Y := fun Y v => List.set_append_left _ _ (by omega)
  have b1 : ∀ Y v, (H.set 0 v ++ Y)[1]? = some (.cells true false 1 [[i64 0]]) := fun Y v => by rw [List.getElem?_append_left (by simp; omega), List.getElem?_set_ne (by decide)]; exact hJ.r1
  have s1 : ∀ Y u v, (H.set 0 u ++ Y).set 1 v = (H.set 0 u).set 1 v ++ Y := fun Y u v => List.set_append_left _ _ (by simp; omega)
  have b2 : ∀ Y u v, ((H.set 0 u).set 1 v ++ Y)[2]? = some (.cells true false 1 [[i64 0]]) := fun Y u v => by rw [List.getElem?_append_left (by simp; omega), List.getElem?_set_ne (by decide), List.getElem?_set_ne (by decide)]; exact hJ.r2
  have s2 : ∀ Y u v x, ((H.set 0 u).set 1 v ++ Y).set 2 x = ((H.set 0 u).set 1 v).set 2 x ++ Y := fun Y u v x => List.set_append_left _ _ (by simp; omega)
  have fin : ∀ Y, (((H.set 0 (.cells true false 1 [[.sl true 0 []]])).set 1 (.cells true false 1 [[i64 ((M.length : Int) + 1)]])).set 2 (.cells true false 1 [[i64 7]]) ++ Y)[0]? = some (.cells true false 1 [[.sl true 0 []]]) ∧
      (((H.set 0 (.cells true false 1 [[.sl true 0 []]])).set 1 (.cells true false 1 [[i64 ((M.length : Int) + 1)]])).set 2 (.cells true false 1 [[i64 7]]) ++ Y)[1]? = some (.cells true false 1 [[i64 ((M.length : Int) + 1)]]) ∧
      (((H.set 0 (.cells true false 1 [[.sl true 0 []]])).set 1 (.cells true false 1 [[i64 ((M.length : Int) + 1)]])).set 2 (.cells true false 1 [[i64 7]]) ++ Y)[2]? = some (.cells true false 1 [[i64 7]]) ∧
      (((H.set 0 (.cells true false 1 [[.sl true 0 []]])).set 1 (.cells true false 1 [[i64 ((M.length : Int) + 1)]])).set 2 (.cells true false 1 [[i64 7]]) ++ Y)[5]? = some (.obj .lpx) := fun Y => by
    refine ⟨?_, ?_, ?_, ?_⟩
    · rw [List.getElem?_append_left (by simp; omega), List.getElem?_set_ne (by decide), List.getElem?_set_ne (by decide), List.getElem?_set_self (by omega)]
    · rw [List.getElem?_append_left (by simp; omega), List.getElem?_set_ne (by decide), List.getElem?_set_self (by simp; omega)]
    · rw [List.getElem?_append_left (by simp; omega), List.getElem?_set_self (by simp; omega)]
    · rw [List.getElem?_append_left (by simp; omega), List.getElem?_set_ne (by decide), List.getElem?_set_ne (by decide), List.getElem?_set_ne (by decide)]; exact hJ.lp
  replace fin := PLift.up fin
  obtain ⟨N, hN⟩ : ∃ N, H.length = N := ⟨_, rfl⟩
  obtain ⟨g1, g2, g3, g4⟩ := cells_sub (X := []) hN
  obtain ⟨E, hE, hS, hB⟩ := hJ.st hm
  have aE := ap io _ hE
  have hEl : E.length = M.length := hS.1
  have hk0 : M.length ≠ 0 := fun h => hm (List.eq_nil_of_length_eq_zero h)
  have q0 : io ≠ 0 := fun e => by rw [e, hJ.r0] at hE; simp at hE
  have q1 : io ≠ 1 := fun e => by rw [e, hJ.r1] at hE; simp at hE
  have q2 : io ≠ 2 := fun e => by rw [e, hJ.r2] at hE; simp at hE
  have p0 := Ne.symm q0
  have p1 := Ne.symm q1
  have p2 := Ne.symm q2
  simp only [ouV, hk0, if_false] at a3
  have a3' := ap 3 _ a3
  replace hk0 := And.intro hk0 trivial
  replace hm := PLift.up hm
  clear hJ ap
  simp only [rdV, rdB] at h48
  unfold c15r0
  simp only [SL15]
  repeat' (first | ((with_reducible refine T_calm ?_ ?_); rfl) | (with_reducible first | refine T_seq ?_ | refine T_reg ?_ | refine T_draw ?_ | refine T_skip ?_ | refine T_exit ?_ | refine T_block ?_ | refine T_cond_t rfl ?_ | refine T_cond_f rfl ?_ | refine wdW_cons rfl ?_ | (show wcall _ false (.lit (.func (.func 47) _ _)) _ _ _ _; refine wcall_fn (h47) rfl (by simp [plainL, plain]) ?_) | (show wcallX _ false (.lit (.func (.func 47) _ _)) _ _ _ _; refine wcallX_fn (h47) rfl (by simp [plainL, plain, plainR, hN, renR_ints, q0, q1, q2, p0, p1, p2]) ?_) | (show wcall _ false (.lit (.func (.func 48) _ _)) _ _ _ _; refine wcall_fn (h48) rfl (by simp [plainL, plain]) ?_) | (show wcallX _ false (.lit (.func (.func 48) _ _)) _ _ _ _; refine wcallX_fn (h48) rfl (by simp [plainL, plain, plainR, hN, renR_ints, q0, q1, q2, p0, p1, p2]) ?_) | refine T_ret ?_ | refine leave_of (.inr rfl) _ rfl ?_ | refine leave_of (.inl rfl) _ rfl ?_ | refine wif_intro ?_ (fun hc => ?_) | refine And.intro ?_ ?_ | intro hc) | simp (maxSteps := 4000000) only [wops_nil, wops_cons, wstep_none, wstep_some, wguard_tf, wrun_call, wrun_mv, wrun_pick, wrun_bin, wrun_not, wrun_ext, wrun_load, wrun_store, wrun_len, wrun_alloc, wrunX_bin, wrunX_load, wrunX_store, wrunX_len, wdW_nil, wstepX_none, wop, aop, ev, look, put_some, put_none, writes, ores_some, binV, thenK, blockK, boolV, intV, lenOf, value, cut, hget, putCells, AV.parts, isOne, toLits, mkAgg, List.map_cons, List.map_nil, List.length_cons, List.length_nil, List.getElem?_cons_zero, List.getElem?_cons_succ, List.set_cons_zero, List.take_succ_cons, List.take_zero, List.take_nil, List.drop_succ_cons, List.drop_zero, List.drop_nil, List.nil_append, List.append_nil, List.append_assoc, List.replicate_zero, List.replicate_succ, List.getD_cons_zero, List.all_cons, List.all_nil, List.length_append, Option.pure_def, Option.bind_eq_bind, Option.getD_some, Option.map_some, Option.bind_some, if_true, if_false, Nat.reduceEqDiff, Nat.reduceAdd, Nat.reduceLT, Nat.add_zero, Nat.zero_add, Nat.le_refl, reduceCtorEq, Bool.not_false, Bool.and_true, Bool.false_eq_true, eq_self, true_and, and_self, freeze, lidsL, lids, List.flatMap_cons, List.flatMap_nil, List.all_cons, ren, renL, renR, *] | simp (disch := omega) only [wrapI] | (with_reducible show wcall _ false (.lit (.func (.func 47) _ _)) _ _ _ _; refine wcall_fn (h47) ?_ ?_ ?_; (next => simp [rfyL, rfy, hget, ints, take_rfy, hN, renR_ints, q0, q1, q2, p0, p1, p2]); (next => simp [plainL, plain, plainR, hN, renR_ints, q0, q1, q2, p0, p1, p2])) | (with_reducible show wcallX _ false (.lit (.func (.func 47) _ _)) _ _ _ _; refine wcallX_fn (h47) ?_ ?_ ?_; (next => simp [rfyL, rfy, hget, ints, take_rfy, hN, renR_ints, q0, q1, q2, p0, p1, p2]); (next => simp [plainL, plain, plainR, hN, renR_ints, q0, q1, q2, p0, p1, p2])) | (with_reducible show wcall _ false (.lit (.func (.func 48) _ _)) _ _ _ _; refine wcall_fn (h48) ?_ ?_ ?_; (next => simp [rfyL, rfy, hget, ints, take_rfy, hN, renR_ints, q0, q1, q2, p0, p1, p2]); (next => simp [plainL, plain, plainR, hN, renR_ints, q0, q1, q2, p0, p1, p2])) | (with_reducible show wcallX _ false (.lit (.func (.func 48) _ _)) _ _ _ _; refine wcallX_fn (h48) ?_ ?_ ?_; (next => simp [rfyL, rfy, hget, ints, take_rfy, hN, renR_ints, q0, q1, q2, p0, p1, p2]); (next => simp [plainL, plain, plainR, hN, renR_ints, q0, q1, q2, p0, p1, p2])) | (with_reducible refine wdW_cons ?_ ?_; (next => simp [chk, foot, compatB, St.get, ev, look, kind, AOp.isRaw, wids, tops, opds, topId, p0]; done)) | omega)
  all_goals first | exact (fin.down _).1 | exact (fin.down _).2.1 | exact (fin.down _).2.2.1 | exact (fin.down _).2.2.2
set_option maxHeartbeats 8000000 in
theorem k15n1c {M : List Ln} {io : Nat} {H : List Blk} {ln w n : ByteArray} {l : List Int} {lp : Nat} (hl : M.length ≤ 1000000) (hJ : J15 M io H) (hm : M ≠ []) (h0 : l = []) (h47 : Fn Tryz.prog 47 [strV ln, strV ⟨#[10]⟩] (.tup [strV w, bl false]) []) (h48 : Fn Tryz.prog 48 [strV w] (rdV (some (n, l))) (rdB (some (n, l)))) :
    T (some lp) Tryz.prog muts 51 H.length c15r0 ⟨SL15 ln, H⟩ (fun e s => e = .ret ∧ s.heap[0]? = some (.cells true false 1 [[.sl true 0 []]]) ∧ s.heap[1]? = some (.cells true false 1 [[i64 ((M.length : Int) + 1)]]) ∧ s.heap[2]? = some (.cells true false 1 [[i64 7]]) ∧ s.heap[5]? = some (.obj .lpx)) := by
  have hlt := (List.getElem?_eq_some_iff.1 hJ.lp).1
  have ap : ∀ (i : Nat) (b : Blk), H[i]? = some b → ∀ Y, (H ++ Y)[i]? = some b := fun i b h Y => by rw [List.getElem?_append_left (List.getElem?_eq_some_iff.1 h).1]; exact h
  have a0 := ap 0 _ hJ.r0
  have a1 := ap 1 _ hJ.r1
  have a2 := ap 2 _ hJ.r2
  have a5 := ap 5 _ hJ.lp
  have a3 := hJ.ou
  have s0 : ∀ Y v, (H ++ Y).set 0 v = H.set 0 v ++ Y := fun Y v => List.set_append_left _ _ (by omega)
  have b1 : ∀ Y v, (H.set 0 v ++ Y)[1]? = some (.cells true false 1 [[i64 0]]) := fun Y v => by rw [List.getElem?_append_left (by simp; omega), List.getElem?_set_ne (by decide)]; exact hJ.r1
  have s1 : ∀ Y u v, (H.set 0 u ++ Y).set 1 v = (H.set 0 u).set 1 v ++ Y := fun Y u v => List.set_append_left _ _ (by simp; omega)
  have b2 : ∀ Y u v, ((H.set 0 u).set 1 v ++ Y)[2]? = some (.cells true false 1 [[i64 0]]) := fun Y u v => by rw [List.getElem?_append_left (by simp; omega), List.getElem?_set_ne (by decide), List.getElem?_set_ne (by decide)]; exact hJ.r2
  have s2 : ∀ Y u v x, ((H.set 0 u).set 1 v ++ Y).set 2 x = ((H.set 0 u).set 1 v).set 2 x ++ Y := fun Y u v x => List.set_append_left _ _ (by simp; omega)
  have fin : ∀ Y, (((H.set 0 (.cells true false 1 [[.sl true 0 []]])).set 1 (.cells true false 1 [[i64 ((M.length : Int) + 1)]])).set 2 (.cells true false 1 [[i64 7]]) ++ Y)[0]? = some (.cells true false 1 [[.sl true 0 []]]) ∧
      (((H.set 0 (.cells true false 1 [[.sl true 0 []]])).set 1 (.cells true false 1 [[i64 ((M.length : Int) + 1)]])).set 2 (.cells true false 1 [[i64 7]]) ++ Y)[1]? = some (.cells true false 1 [[i64 ((M.length : Int) + 1)]]) ∧
      (((H.set 0 (.cells true false 1 [[.sl true 0 []]])).set 1 (.cells true false 1 [[i64 ((M.length : Int) + 1)]])).set 2 (.cells true false 1 [[i64 7]]) ++ Y)[2]? = some (.cells true false 1 [[i64 7]]) ∧
      (((H.set 0 (.cells true false 1 [[.sl true 0 []]])).set 1 (.cells true false 1 [[i64 ((M.length : Int) + 1)]])).set 2 (.cells true false 1 [[i64 7]]) ++ Y)[5]? = some (.obj .lpx) := fun Y => by
    refine ⟨?_, ?_, ?_, ?_⟩
    · rw [List.getElem?_append_left (by simp; omega), List.getElem?_set_ne (by decide), List.getElem?_set_ne (by decide), List.getElem?_set_self (by omega)]
    · rw [List.getElem?_append_left (by simp; omega), List.getElem?_set_ne (by decide), List.getElem?_set_self (by simp; omega)]
    · rw [List.getElem?_append_left (by simp; omega), List.getElem?_set_self (by simp; omega)]
    · rw [List.getElem?_append_left (by simp; omega), List.getElem?_set_ne (by decide), List.getElem?_set_ne (by decide), List.getElem?_set_ne (by decide)]; exact hJ.lp
  replace fin := PLift.up fin
  obtain ⟨N, hN⟩ : ∃ N, H.length = N := ⟨_, rfl⟩
  obtain ⟨g1, g2, g3, g4⟩ := cells_sub (X := []) hN
  obtain ⟨E, hE, hS, hB⟩ := hJ.st hm
  have aE := ap io _ hE
  have hEl : E.length = M.length := hS.1
  have hk0 : M.length ≠ 0 := fun h => hm (List.eq_nil_of_length_eq_zero h)
  have q0 : io ≠ 0 := fun e => by rw [e, hJ.r0] at hE; simp at hE
  have q1 : io ≠ 1 := fun e => by rw [e, hJ.r1] at hE; simp at hE
  have q2 : io ≠ 2 := fun e => by rw [e, hJ.r2] at hE; simp at hE
  have p0 := Ne.symm q0
  have p1 := Ne.symm q1
  have p2 := Ne.symm q2
  simp only [ouV, hk0, if_false] at a3
  have a3' := ap 3 _ a3
  replace hk0 := And.intro hk0 trivial
  replace hm := PLift.up hm
  subst h0
  clear hJ ap
  simp only [rdV, rdB, wvV, wvB, if_true] at h48
  unfold c15r0
  simp only [SL15]
  repeat' (first | ((with_reducible refine T_calm ?_ ?_); rfl) | (with_reducible first | refine T_seq ?_ | refine T_reg ?_ | refine T_draw ?_ | refine T_skip ?_ | refine T_exit ?_ | refine T_block ?_ | refine T_cond_t rfl ?_ | refine T_cond_f rfl ?_ | refine wdW_cons rfl ?_ | (show wcall _ false (.lit (.func (.func 47) _ _)) _ _ _ _; refine wcall_fn (h47) rfl (by simp [plainL, plain]) ?_) | (show wcallX _ false (.lit (.func (.func 47) _ _)) _ _ _ _; refine wcallX_fn (h47) rfl (by simp [plainL, plain, plainR, hN, renR_ints, q0, q1, q2, p0, p1, p2]) ?_) | (show wcall _ false (.lit (.func (.func 48) _ _)) _ _ _ _; refine wcall_fn (h48) rfl (by simp [plainL, plain]) ?_) | (show wcallX _ false (.lit (.func (.func 48) _ _)) _ _ _ _; refine wcallX_fn (h48) rfl (by simp [plainL, plain, plainR, hN, renR_ints, q0, q1, q2, p0, p1, p2]) ?_) | refine T_ret ?_ | refine leave_of (.inr rfl) _ rfl ?_ | refine leave_of (.inl rfl) _ rfl ?_ | refine wif_intro ?_ (fun hc => ?_) | refine And.intro ?_ ?_ | intro hc) | simp (maxSteps := 4000000) only [wops_nil, wops_cons, wstep_none, wstep_some, wguard_tf, wrun_call, wrun_mv, wrun_pick, wrun_bin, wrun_not, wrun_ext, wrun_load, wrun_store, wrun_len, wrun_alloc, wrunX_bin, wrunX_load, wrunX_store, wrunX_len, wdW_nil, wstepX_none, wop, aop, ev, look, put_some, put_none, writes, ores_some, binV, thenK, blockK, boolV, intV, lenOf, value, cut, hget, putCells, AV.parts, isOne, toLits, mkAgg, List.map_cons, List.map_nil, List.length_cons, List.length_nil, List.getElem?_cons_zero, List.getElem?_cons_succ, List.set_cons_zero, List.take_succ_cons, List.take_zero, List.take_nil, List.drop_succ_cons, List.drop_zero, List.drop_nil, List.nil_append, List.append_nil, List.append_assoc, List.replicate_zero, List.replicate_succ, List.getD_cons_zero, List.all_cons, List.all_nil, List.length_append, Option.pure_def, Option.bind_eq_bind, Option.getD_some, Option.map_some, Option.bind_some, if_true, if_false, Nat.reduceEqDiff, Nat.reduceAdd, Nat.reduceLT, Nat.add_zero, Nat.zero_add, Nat.le_refl, reduceCtorEq, Bool.not_false, Bool.and_true, Bool.false_eq_true, eq_self, true_and, and_self, freeze, lidsL, lids, List.flatMap_cons, List.flatMap_nil, List.all_cons, ren, renL, renR, *] | simp (disch := omega) only [wrapI] | (with_reducible show wcall _ false (.lit (.func (.func 47) _ _)) _ _ _ _; refine wcall_fn (h47) ?_ ?_ ?_; (next => simp [rfyL, rfy, hget, ints, take_rfy, hN, renR_ints, q0, q1, q2, p0, p1, p2]); (next => simp [plainL, plain, plainR, hN, renR_ints, q0, q1, q2, p0, p1, p2])) | (with_reducible show wcallX _ false (.lit (.func (.func 47) _ _)) _ _ _ _; refine wcallX_fn (h47) ?_ ?_ ?_; (next => simp [rfyL, rfy, hget, ints, take_rfy, hN, renR_ints, q0, q1, q2, p0, p1, p2]); (next => simp [plainL, plain, plainR, hN, renR_ints, q0, q1, q2, p0, p1, p2])) | (with_reducible show wcall _ false (.lit (.func (.func 48) _ _)) _ _ _ _; refine wcall_fn (h48) ?_ ?_ ?_; (next => simp [rfyL, rfy, hget, ints, take_rfy, hN, renR_ints, q0, q1, q2, p0, p1, p2]); (next => simp [plainL, plain, plainR, hN, renR_ints, q0, q1, q2, p0, p1, p2])) | (with_reducible show wcallX _ false (.lit (.func (.func 48) _ _)) _ _ _ _; refine wcallX_fn (h48) ?_ ?_ ?_; (next => simp [rfyL, rfy, hget, ints, take_rfy, hN, renR_ints, q0, q1, q2, p0, p1, p2]); (next => simp [plainL, plain, plainR, hN, renR_ints, q0, q1, q2, p0, p1, p2])) | (with_reducible refine wdW_cons ?_ ?_; (next => simp [chk, foot, compatB, St.get, ev, look, kind, AOp.isRaw, wids, tops, opds, topId, p0]; done)) | omega)
  all_goals first | exact (fin.down _).1 | exact (fin.down _).2.1 | exact (fin.down _).2.2.1 | exact (fin.down _).2.2.2
set_option maxHeartbeats 8000000 in
theorem k15n1d {M : List Ln} {io : Nat} {H : List Blk} {ln w n : ByteArray} {l : List Int} {lp : Nat} (hl : M.length ≤ 1000000) (hJ : J15 M io H) (hm : M ≠ []) (h0 : l ≠ []) (h47 : Fn Tryz.prog 47 [strV ln, strV ⟨#[10]⟩] (.tup [strV w, bl false]) []) (h48 : Fn Tryz.prog 48 [strV w] (rdV (some (n, l))) (rdB (some (n, l)))) :
    T (some lp) Tryz.prog muts 51 H.length c15r0 ⟨SL15 ln, H⟩ (fun e s => e = .ret ∧ s.heap[0]? = some (.cells true false 1 [[.sl true 0 []]]) ∧ s.heap[1]? = some (.cells true false 1 [[i64 ((M.length : Int) + 1)]]) ∧ s.heap[2]? = some (.cells true false 1 [[i64 7]]) ∧ s.heap[5]? = some (.obj .lpx)) := by
  have hlt := (List.getElem?_eq_some_iff.1 hJ.lp).1
  have ap : ∀ (i : Nat) (b : Blk), H[i]? = some b → ∀ Y, (H ++ Y)[i]? = some b := fun i b h Y => by rw [List.getElem?_append_left (List.getElem?_eq_some_iff.1 h).1]; exact h
  have a0 := ap 0 _ hJ.r0
  have a1 := ap 1 _ hJ.r1
  have a2 := ap 2 _ hJ.r2
  have a5 := ap 5 _ hJ.lp
  have a3 := hJ.ou
  have s0 : ∀ Y v, (H ++ Y).set 0 v = H.set 0 v ++ Y := fun Y v => List.set_append_left _ _ (by omega)
  have b1 : ∀ Y v, (H.set 0 v ++ Y)[1]? = some (.cells true false 1 [[i64 0]]) := fun Y v => by rw [List.getElem?_append_left (by simp; omega), List.getElem?_set_ne (by decide)]; exact hJ.r1
  have s1 : ∀ Y u v, (H.set 0 u ++ Y).set 1 v = (H.set 0 u).set 1 v ++ Y := fun Y u v => List.set_append_left _ _ (by simp; omega)
  have b2 : ∀ Y u v, ((H.set 0 u).set 1 v ++ Y)[2]? = some (.cells true false 1 [[i64 0]]) := fun Y u v => by rw [List.getElem?_append_left (by simp; omega), List.getElem?_set_ne (by decide), List.getElem?_set_ne (by decide)]; exact hJ.r2
  have s2 : ∀ Y u v x, ((H.set 0 u).set 1 v ++ Y).set 2 x = ((H.set 0 u).set 1 v).set 2 x ++ Y := fun Y u v x => List.set_append_left _ _ (by simp; omega)
  have fin : ∀ Y, (((H.set 0 (.cells true false 1 [[.sl true 0 []]])).set 1 (.cells true false 1 [[i64 ((M.length : Int) + 1)]])).set 2 (.cells true false 1 [[i64 7]]) ++ Y)[0]? = some (.cells true false 1 [[.sl true 0 []]]) ∧
      (((H.set 0 (.cells true false 1 [[.sl true 0 []]])).set 1 (.cells true false 1 [[i64 ((M.length : Int) + 1)]])).set 2 (.cells true false 1 [[i64 7]]) ++ Y)[1]? = some (.cells true false 1 [[i64 ((M.length : Int) + 1)]]) ∧
      (((H.set 0 (.cells true false 1 [[.sl true 0 []]])).set 1 (.cells true false 1 [[i64 ((M.length : Int) + 1)]])).set 2 (.cells true false 1 [[i64 7]]) ++ Y)[2]? = some (.cells true false 1 [[i64 7]]) ∧
      (((H.set 0 (.cells true false 1 [[.sl true 0 []]])).set 1 (.cells true false 1 [[i64 ((M.length : Int) + 1)]])).set 2 (.cells true false 1 [[i64 7]]) ++ Y)[5]? = some (.obj .lpx) := fun Y => by
    refine ⟨?_, ?_, ?_, ?_⟩
    · rw [List.getElem?_append_left (by simp; omega), List.getElem?_set_ne (by decide), List.getElem?_set_ne (by decide), List.getElem?_set_self (by omega)]
    · rw [List.getElem?_append_left (by simp; omega), List.getElem?_set_ne (by decide), List.getElem?_set_self (by simp; omega)]
    · rw [List.getElem?_append_left (by simp; omega), List.getElem?_set_self (by simp; omega)]
    · rw [List.getElem?_append_left (by simp; omega), List.getElem?_set_ne (by decide), List.getElem?_set_ne (by decide), List.getElem?_set_ne (by decide)]; exact hJ.lp
  replace fin := PLift.up fin
  obtain ⟨N, hN⟩ : ∃ N, H.length = N := ⟨_, rfl⟩
  obtain ⟨g1, g2, g3, g4⟩ := cells_sub (X := []) hN
  obtain ⟨E, hE, hS, hB⟩ := hJ.st hm
  have aE := ap io _ hE
  have hEl : E.length = M.length := hS.1
  have hk0 : M.length ≠ 0 := fun h => hm (List.eq_nil_of_length_eq_zero h)
  have q0 : io ≠ 0 := fun e => by rw [e, hJ.r0] at hE; simp at hE
  have q1 : io ≠ 1 := fun e => by rw [e, hJ.r1] at hE; simp at hE
  have q2 : io ≠ 2 := fun e => by rw [e, hJ.r2] at hE; simp at hE
  have p0 := Ne.symm q0
  have p1 := Ne.symm q1
  have p2 := Ne.symm q2
  simp only [ouV, hk0, if_false] at a3
  have a3' := ap 3 _ a3
  replace hk0 := And.intro hk0 trivial
  replace hm := PLift.up hm
  clear hJ ap
  simp only [rdV, rdB, wvV, wvB, h0, if_false] at h48
  unfold c15r0
  simp only [SL15]
  repeat' (first | ((with_reducible refine T_calm ?_ ?_); rfl) | (with_reducible first | refine T_seq ?_ | refine T_reg ?_ | refine T_draw ?_ | refine T_skip ?_ | refine T_exit ?_ | refine T_block ?_ | refine T_cond_t rfl ?_ | refine T_cond_f rfl ?_ | refine wdW_cons rfl ?_ | (show wcall _ false (.lit (.func (.func 47) _ _)) _ _ _ _; refine wcall_fn (h47) rfl (by simp [plainL, plain]) ?_) | (show wcallX _ false (.lit (.func (.func 47) _ _)) _ _ _ _; refine wcallX_fn (h47) rfl (by simp [plainL, plain, plainR, hN, renR_ints, q0, q1, q2, p0, p1, p2]) ?_) | (show wcall _ false (.lit (.func (.func 48) _ _)) _ _ _ _; refine wcall_fn (h48) rfl (by simp [plainL, plain]) ?_) | (show wcallX _ false (.lit (.func (.func 48) _ _)) _ _ _ _; refine wcallX_fn (h48) rfl (by simp [plainL, plain, plainR, hN, renR_ints, q0, q1, q2, p0, p1, p2]) ?_) | refine T_ret ?_ | refine leave_of (.inr rfl) _ rfl ?_ | refine leave_of (.inl rfl) _ rfl ?_ | refine wif_intro ?_ (fun hc => ?_) | refine And.intro ?_ ?_ | intro hc) | simp (maxSteps := 4000000) only [wops_nil, wops_cons, wstep_none, wstep_some, wguard_tf, wrun_call, wrun_mv, wrun_pick, wrun_bin, wrun_not, wrun_ext, wrun_load, wrun_store, wrun_len, wrun_alloc, wrunX_bin, wrunX_load, wrunX_store, wrunX_len, wdW_nil, wstepX_none, wop, aop, ev, look, put_some, put_none, writes, ores_some, binV, thenK, blockK, boolV, intV, lenOf, value, cut, hget, putCells, AV.parts, isOne, toLits, mkAgg, List.map_cons, List.map_nil, List.length_cons, List.length_nil, List.getElem?_cons_zero, List.getElem?_cons_succ, List.set_cons_zero, List.take_succ_cons, List.take_zero, List.take_nil, List.drop_succ_cons, List.drop_zero, List.drop_nil, List.cons_append, List.nil_append, List.append_nil, List.append_assoc, List.replicate_zero, List.replicate_succ, List.getD_cons_zero, List.all_cons, List.all_nil, List.length_append, Option.pure_def, Option.bind_eq_bind, Option.getD_some, Option.map_some, Option.bind_some, if_true, if_false, Nat.reduceEqDiff, Nat.reduceAdd, Nat.reduceLT, Nat.add_zero, Nat.zero_add, Nat.le_refl, reduceCtorEq, Bool.not_false, Bool.and_true, Bool.false_eq_true, eq_self, true_and, and_self, freeze, lidsL, lids, List.flatMap_cons, List.flatMap_nil, List.all_cons, ren, renL, renB, shiftρ, renR_ints, renR_ints, *] | simp (disch := omega) only [wrapI] | (with_reducible show wcall _ false (.lit (.func (.func 47) _ _)) _ _ _ _; refine wcall_fn (h47) ?_ ?_ ?_; (next => simp [rfyL, rfy, hget, ints, take_rfy, hN, renR_ints, q0, q1, q2, p0, p1, p2]); (next => simp [plainL, plain, plainR, hN, renR_ints, q0, q1, q2, p0, p1, p2])) | (with_reducible show wcallX _ false (.lit (.func (.func 47) _ _)) _ _ _ _; refine wcallX_fn (h47) ?_ ?_ ?_; (next => simp [rfyL, rfy, hget, ints, take_rfy, hN, renR_ints, q0, q1, q2, p0, p1, p2]); (next => simp [plainL, plain, plainR, hN, renR_ints, q0, q1, q2, p0, p1, p2])) | (with_reducible show wcall _ false (.lit (.func (.func 48) _ _)) _ _ _ _; refine wcall_fn (h48) ?_ ?_ ?_; (next => simp [rfyL, rfy, hget, ints, take_rfy, hN, renR_ints, q0, q1, q2, p0, p1, p2]); (next => simp [plainL, plain, plainR, hN, renR_ints, q0, q1, q2, p0, p1, p2])) | (with_reducible show wcallX _ false (.lit (.func (.func 48) _ _)) _ _ _ _; refine wcallX_fn (h48) ?_ ?_ ?_; (next => simp [rfyL, rfy, hget, ints, take_rfy, hN, renR_ints, q0, q1, q2, p0, p1, p2]); (next => simp [plainL, plain, plainR, hN, renR_ints, q0, q1, q2, p0, p1, p2])) | (with_reducible refine wdW_cons ?_ ?_; (next => simp [chk, foot, compatB, St.get, ev, look, kind, AOp.isRaw, wids, tops, opds, topId, p0]; done)) | omega)
  all_goals first | exact (fin.down _).1 | exact (fin.down _).2.1 | exact (fin.down _).2.2.1 | exact (fin.down _).2.2.2
end Go.Abs
