import Derived.Test.YtodheeifecoebaaK265x
set_option linter.all false
set_option linter.unusedVariables false
set_option linter.unusedSimpArgs false
set_option linter.unusedSectionVars false
namespace Go.Abs
open Go.Proofs
/-! loop: the whole function -/
theorem T_onlyU {P : Program} {muts : List FuncId} {N b : Nat} {σ S : St} {K : Exit → St → Prop} {md : Option Nat} {ac : ACode} (ts : List Nat) (h : σ.only ts = S) (hT : T md P muts N b ac S K) : T md P muts N b ac σ K :=
  T_weak (weak_only ts) (by rw [h]; exact hT)
theorem T_then {P : Program} {muts : List FuncId} {N b : Nat} {σ : St} {K : Exit → St → Prop} {md : Option Nat} {ac : ACode} {A B : St → Prop} (h : T md P muts N b ac σ (thenK A K)) (hab : ∀ s, A s → B s) : T md P muts N b ac σ (thenK B K) :=
  T_mono h fun e s hs => by
    cases e with
    | normal => exact hab s hs
    | _ => exact hs
structure LoopOk (H0 : List Blk) (X Y : List Nat) (r : AV) (H : List Blk) : Prop where
  h : ∃ t id, Stp X Y t ∧ StpEnd X Y t ∧ r = .lsl id 0 (lpL X Y t).length ∧ H[id]? = some (.cells true false 1 ((cz (lpL X Y t)).map fun x => [i64 x]))
  o : ∀ id, id < H0.length → H[id]? = H0[id]?
section
variable {n : Nat} {th : Nat → Bool} {ed : Nat → Nat → Bool} {st : Nat → Nat → Int} {o : List Nat} {h fr : Nat → Int} {X Y : List Nat}
set_option maxHeartbeats 8000000 in
theorem k109 (hX : Ch th ed st o h fr X) (hY : Ch th ed st o h fr Y) (hone : X.getD (X.length - 1) 0 = Y.getD (Y.length - 1) 0) (honx : ∀ k, k < X.length → X.getD k 0 < n) (hony : ∀ k, k < Y.length → Y.getD k 0 < n)
    (hlx : X.length ≤ 1000000) (hly : Y.length ≤ 1000000) (hn : n ≤ 1000000) {it ifr : Nat} {ot of : Bool} {w : Int} {nl : Bool} {ph : List Int} {a b : AV} {H0 : List Blk}
    (ht : H0[it]? = some (.cells ot false 5 [[i64 w, ints nl ph, a, .lsl ifr 0 n, b]])) (hfr : H0[ifr]? = some (.cells of false 1 ((mk n fr).map fun x => [i64 x]))) {c d : Nat} (hc : X.getD 0 0 = c) (hd : Y.getD 0 0 = d) :
    ACall Try.prog 109 [.loc it 0 0, i64 c, i64 d] H0 (LoopOk H0 X Y) := by
  refine envOf_all e109 ?_
  have h1 := k147 hX honx hlx hn ht hfr hc
  have l1 := (List.getElem?_eq_some_iff.1 ht).1
  have l2 := (List.getElem?_eq_some_iff.1 hfr).1
  have hx1 := hX.ne
  have hy1 := hY.ne
  replace h1 := PLift.up h1
  unfold c109
  repeat' (first
    | ((with_reducible refine T_calm ?_ ?_); rfl)
    | with_reducible first
      | refine T_seq ?_
      | refine T_reg ?_
      | refine T_draw ?_
      | refine T_skip ?_
      | refine T_exit ?_
      | refine T_block ?_
      | refine T_cond_t rfl ?_
      | refine T_cond_f rfl ?_
      | refine wdW_cons rfl ?_
      | ((first | refine T_cond rfl (fun hc => ?_) (fun hc => ?_) | refine wguard_split (fun hc => ?_) (fun hc => ?_) | refine wguardX_split (fun hc => ?_) (fun hc => ?_)) <;> have hd := hc <;> (try simp (disch := omega) only [wrapI] at hd) <;> have hs := hd <;> (try simp only [Bool.not_eq_true', Bool.not_eq_false', Bool.and_eq_true, Bool.and_eq_false_iff, Bool.or_eq_true, Bool.or_eq_false_iff, decide_eq_true_eq, decide_eq_false_iff_not, beq_iff_eq, bne_iff_ne, beq_eq_false_iff_ne, bne_eq_false_iff_eq, Bool.not_true, Bool.not_false, gt_iff_lt, ge_iff_le, Int.not_lt, Int.not_le, ne_eq, Decidable.not_not] at hd) <;> (try simp at hs))
      | refine T_ret ?_
      | refine wif_intro ?_ (fun hc => ?_)
      | refine And.intro ?_ ?_
      | intro hc
    | simp (maxSteps := 4000000) only [wops_nil, wops_cons, wstep_none, wrun_call, wrun_mv, wop, aop, ev, look, put_some, writes, ores_some, thenK, List.map_cons, List.map_nil, List.append_nil, List.replicate_zero, List.zipIdx_cons, List.zipIdx_nil, if_true, if_false, Nat.reduceEqDiff, Nat.reduceAdd, Nat.zero_add, Nat.zero_ne_one, reduceCtorEq, eq_self, *]
    | simp (disch := omega) only [getD_ints, wrapI]
    | omega)
  refine wcall_raw (ACall.mono h1.down fun r H1 hb => ?_)
  obtain ⟨⟨ix, hix0, rfl, hix⟩, ho1⟩ := hb
  have h2 := k147 hY hony hly hn ((ho1 _ l1).trans ht) ((ho1 _ l2).trans hfr) hd
  have lx := (List.getElem?_eq_some_iff.1 hix).1
  replace h2 := PLift.up h2
  replace ho1 := PLift.up ho1
  clear h1
  repeat' (first
    | ((with_reducible refine T_calm ?_ ?_); rfl)
    | with_reducible first
      | refine T_seq ?_
      | refine T_reg ?_
      | refine T_draw ?_
      | refine T_skip ?_
      | refine T_exit ?_
      | refine T_block ?_
      | refine T_cond_t rfl ?_
      | refine T_cond_f rfl ?_
      | refine wdW_cons rfl ?_
      | ((first | refine T_cond rfl (fun hc => ?_) (fun hc => ?_) | refine wguard_split (fun hc => ?_) (fun hc => ?_) | refine wguardX_split (fun hc => ?_) (fun hc => ?_)) <;> have hd := hc <;> (try simp (disch := omega) only [wrapI] at hd) <;> have hs := hd <;> (try simp only [Bool.not_eq_true', Bool.not_eq_false', Bool.and_eq_true, Bool.and_eq_false_iff, Bool.or_eq_true, Bool.or_eq_false_iff, decide_eq_true_eq, decide_eq_false_iff_not, beq_iff_eq, bne_iff_ne, beq_eq_false_iff_ne, bne_eq_false_iff_eq, Bool.not_true, Bool.not_false, gt_iff_lt, ge_iff_le, Int.not_lt, Int.not_le, ne_eq, Decidable.not_not] at hd) <;> (try simp at hs))
      | refine T_ret ?_
      | refine wif_intro ?_ (fun hc => ?_)
      | refine And.intro ?_ ?_
      | intro hc
    | simp (maxSteps := 4000000) only [wops_cons, wstep_none, wrun_call, wrun_mv, wop, aop, ev, look, put_some, writes, ores_some, List.map_cons, List.map_nil, if_true, if_false, Nat.reduceEqDiff, reduceCtorEq, eq_self, *]
    | simp (disch := omega) only [getD_ints, wrapI]
    | omega)
  refine wcall_raw (ACall.mono h2.down fun r H2 hb => ?_)
  obtain ⟨⟨iy, hiy0, rfl, hiy⟩, ho2⟩ := hb
  have hix2 := (ho2 _ lx).trans hix
  have ho : ∀ id, id < H0.length → H2[id]? = H0[id]? := fun id hid => by
    have := (ho1.down id hid)
    rw [ho2 id (by
      have : H0.length ≤ ix := hix0
      omega), this]
  have hS0 : Stp X Y 0 := ⟨by omega, by omega, by simpa using hone⟩
  clear h2 ho1 ho2 hix ht hfr hX hY hone honx hony hc hd
  replace ho := PLift.up ho
  replace hS0 := PLift.up hS0
  repeat' (first
    | ((with_reducible refine T_calm ?_ ?_); rfl)
    | with_reducible first
      | refine T_seq ?_
      | refine T_reg ?_
      | refine T_draw ?_
      | refine T_skip ?_
      | refine T_exit ?_
      | refine T_block ?_
      | refine T_cond_t rfl ?_
      | refine T_cond_f rfl ?_
      | refine wdW_cons rfl ?_
      | ((first | refine T_cond rfl (fun hc => ?_) (fun hc => ?_) | refine wguard_split (fun hc => ?_) (fun hc => ?_) | refine wguardX_split (fun hc => ?_) (fun hc => ?_)) <;> have hd := hc <;> (try simp (disch := omega) only [wrapI] at hd) <;> have hs := hd <;> (try simp only [Bool.not_eq_true', Bool.not_eq_false', Bool.and_eq_true, Bool.and_eq_false_iff, Bool.or_eq_true, Bool.or_eq_false_iff, decide_eq_true_eq, decide_eq_false_iff_not, beq_iff_eq, bne_iff_ne, beq_eq_false_iff_ne, bne_eq_false_iff_eq, Bool.not_true, Bool.not_false, gt_iff_lt, ge_iff_le, Int.not_lt, Int.not_le, ne_eq, Decidable.not_not] at hd) <;> (try simp at hs))
      | refine T_ret ?_
      | refine wif_intro ?_ (fun hc => ?_)
      | refine And.intro ?_ ?_
      | intro hc
    | simp (maxSteps := 4000000) only [wops_nil, wops_cons, wstep_none, wrun_mv, wop, aop, ev, look, put_some, writes, ores_some, thenK, if_true, if_false, Nat.reduceEqDiff, reduceCtorEq, eq_self, *]
    | simp (disch := omega) only [getD_ints, wrapI]
    | omega)
  refine T_forP [7, 8] (SL109 ix iy X Y) X.length (fun t H' => H' = H2 ∧ Stp X Y t) 0 ?_ ⟨rfl, hS0.down⟩ (Nat.zero_le _) ?_
  · simp [St.only, get_mk, look]
  rintro t H' htl ⟨rfl, hS⟩
  refine T_then (k109l hlx hly hix2 hiy _ t hS ?_) fun s' hs => ⟨hS.hx, ⟨hs.2.1, hs.1.2⟩, hs.2.2⟩
  intro hend σ hσ hsl
  refine T_onlyU (S := ⟨SL109 ix iy X Y t, H'⟩) [7, 8] (by rw [← hsl, ← hσ]; rfl) ?_
  obtain ⟨q1, q2, q3⟩ := hS
  have h131 := k131 (N := Y.length) (m := Y.length - t - 1) (f := fun j => ((Y.getD j 0 : Nat) : Int)) (by omega) hly hiy
  have hll := lpL_len (X := X) (Y := Y) (t := t)
  have hle := lpL_eq (X := X) (Y := Y) (t := t) q1 q2
  have lix := (List.getElem?_eq_some_iff.1 hix2).1
  have liy := (List.getElem?_eq_some_iff.1 hiy).1
  have hne : ix ≠ iy := by omega
  have ey1 : ((Y.length - t : Nat) : Int) - 1 = ((Y.length - t - 1 : Nat) : Int) := by omega
  have hb2 : (if 0 ≤ ((Y.length - t - 1 : Nat) : Int) ∧ ((Y.length - t - 1 : Nat) : Int) ≤ ((Y.length - t : Nat) : Int) then some (Y.length - t - 1) else none) = some (Y.length - t - 1) := if_pos (by omega)
  have ew : IntKind.i64.wrap ((Y.length - t - 1 : Nat) : Int) = ((Y.length - t - 1 : Nat) : Int) := wrapI (by omega) (by omega)
  have hWl : (mk Y.length fun j => if j < Y.length - t - 1 then ((Y.getD (Y.length - t - 1 - 1 - j) 0 : Nat) : Int) else ((Y.getD j 0 : Nat) : Int)).length = Y.length := mk_len ..
  generalize (mk Y.length fun j => if j < Y.length - t - 1 then ((Y.getD (Y.length - t - 1 - 1 - j) 0 : Nat) : Int) else ((Y.getD j 0 : Nat) : Int)) = W at *
  have gl : (H'.set iy (.cells true false 1 (W.map fun x => [i64 x]))).length = H'.length := by simp
  have gx : (H'.set iy (.cells true false 1 (W.map fun x => [i64 x])))[ix]? = some (.cells true false 1 ((cz X).map fun x => [i64 x])) := by rw [List.getElem?_set_ne (Ne.symm hne)]; exact hix2
  have gy : (H'.set iy (.cells true false 1 (W.map fun x => [i64 x])))[iy]? = some (.cells true false 1 (W.map fun x => [i64 x])) := List.getElem?_set_self liy
  have go : ∀ id, id < H0.length → (H'.set iy (.cells true false 1 (W.map fun x => [i64 x])))[id]? = H0[id]? := fun id hid => by rw [List.getElem?_set_ne (by omega)]; exact ho.down id hid
  replace h131 := PLift.up h131
  replace gl := PLift.up gl
  replace gx := PLift.up gx
  replace gy := PLift.up gy
  replace go := PLift.up go
  replace hWl := PLift.up hWl
  replace hle := PLift.up hle
  replace hsl := PLift.up hsl
  clear hsl hσ hS0
  repeat' (first
    | ((with_reducible refine T_calm ?_ ?_); rfl)
    | with_reducible first
      | refine T_seq ?_
      | refine T_reg ?_
      | refine T_draw ?_
      | refine T_skip ?_
      | refine T_exit ?_
      | refine T_block ?_
      | refine T_cond_t rfl ?_
      | refine T_cond_f rfl ?_
      | refine wdW_cons rfl ?_
      | ((first | refine T_cond rfl (fun hc => ?_) (fun hc => ?_) | refine wguard_split (fun hc => ?_) (fun hc => ?_) | refine wguardX_split (fun hc => ?_) (fun hc => ?_)) <;> have hd := hc <;> (try simp (disch := omega) only [wrapI] at hd) <;> have hs := hd <;> (try simp only [Bool.not_eq_true', Bool.not_eq_false', Bool.and_eq_true, Bool.and_eq_false_iff, Bool.or_eq_true, Bool.or_eq_false_iff, decide_eq_true_eq, decide_eq_false_iff_not, beq_iff_eq, bne_iff_ne, beq_eq_false_iff_ne, bne_eq_false_iff_eq, Bool.not_true, Bool.not_false, gt_iff_lt, ge_iff_le, Int.not_lt, Int.not_le, ne_eq, Decidable.not_not] at hd) <;> (try simp at hs))
      | refine T_ret ?_
      | refine wif_intro ?_ (fun hc => ?_)
      | refine And.intro ?_ ?_
      | intro hc
    | simp (maxSteps := 4000000) only [wops_nil, wops_cons, wstep_none, wrun_call, wrun_mv, wrun_bin, wrun_slc, wrun_len, wop, aop, ev, look, put_some, writes, ores_some, ores_map, ores_bind, binV, thenK, intV, lenOf, szOk, hget, boundOf, List.map_cons, List.map_nil, List.drop_zero, List.append_nil, List.replicate_zero, Option.pure_def, Option.bind_eq_bind, Option.getD_some, Option.map_some, Option.map_none, Option.bind_some, if_true, if_false, Nat.reduceEqDiff, Nat.add_zero, Nat.sub_zero, reduceCtorEq, Bool.or_true, eq_self, beq_self_eq_true, Int.toNat_natCast, *]
    | simp (disch := omega) only [getD_ints, wrapI]
    | omega)
  refine wcall_raw (ACall.mono h131.down fun r H3 h3 => ?_)
  subst h3
  clear h131 ho
  have hMl : H'.length = H'.length := rfl
  generalize H'.set iy (.cells true false 1 (W.map fun x => [i64 x])) = G at *
  have gl' := gl.down
  have hxa := at_in gx.down
  have hya := at_in gy.down
  have lgx := (List.getElem?_eq_some_iff.1 gx.down).1
  have fin : LoopOk H0 X Y (.lsl H'.length 0 (X.length - t + (Y.length - t - 1))) (G.set ix .dead ++ [.cells true false 1 ((cz (lpL X Y t)).map fun x => [i64 x])]) := by
    refine ⟨⟨t, H'.length, ⟨q1, q2, q3⟩, hend, by rw [hll], ?_⟩, fun id hid => ?_⟩
    · rw [List.getElem?_append_right (by simp [gl']), List.length_set, gl', Nat.sub_self]; rfl
    · have := go.down id hid
      rw [List.getElem?_append_left (by rw [List.length_set, gl']; omega), List.getElem?_set_ne (by omega)]; exact this
  rw [← hle.down] at fin
  have u6 : ∀ Z v, (G ++ Z).set ix v = G.set ix v ++ Z := fun Z v => List.set_append_left _ _ lgx
  obtain ⟨u1, u2, u3, u4⟩ := cells_sub (X := []) gl'
  obtain ⟨u7, u8, u9, u10⟩ := cells_sub (X := []) (H := G.set ix .dead) (N := H'.length) (by simp [gl'])
  have clx := cz_len X
  have hwl := hWl.down
  have e1 : ((W.map fun x => [i64 x]).take (Y.length - t - 1)).length = Y.length - t - 1 := by simp [hwl]; omega
  have e2 : (if Y.length - t - 1 ≤ Y.length then some (false, 1, (W.map fun x => [i64 x]).take (Y.length - t - 1)) else none) = some (false, 1, (W.map fun x => [i64 x]).take (Y.length - t - 1)) := if_pos (by omega)
  have e3 : Y.length - t - 1 ≤ Y.length := by omega
  have e4 : X.length - t ≤ X.length := by omega
  have e5 : (X.length - t + (Y.length - t - 1)) * 8 ≤ 140737488355328 := by omega
  replace fin := PLift.up fin
  clear hix2 hiy q3 hll hend
  repeat' (first
    | ((with_reducible refine T_calm ?_ ?_); rfl)
    | with_reducible first
      | refine T_seq ?_
      | refine T_reg ?_
      | refine T_draw ?_
      | refine T_skip ?_
      | refine T_exit ?_
      | refine T_block ?_
      | refine T_cond_t rfl ?_
      | refine T_cond_f rfl ?_
      | refine wdW_cons rfl ?_
      | ((first | refine T_cond rfl (fun hc => ?_) (fun hc => ?_) | refine wguard_split (fun hc => ?_) (fun hc => ?_) | refine wguardX_split (fun hc => ?_) (fun hc => ?_)) <;> have hd := hc <;> (try simp (disch := omega) only [wrapI] at hd) <;> have hs := hd <;> (try simp only [Bool.not_eq_true', Bool.not_eq_false', Bool.and_eq_true, Bool.and_eq_false_iff, Bool.or_eq_true, Bool.or_eq_false_iff, decide_eq_true_eq, decide_eq_false_iff_not, beq_iff_eq, bne_iff_ne, beq_eq_false_iff_ne, bne_eq_false_iff_eq, Bool.not_true, Bool.not_false, gt_iff_lt, ge_iff_le, Int.not_lt, Int.not_le, ne_eq, Decidable.not_not] at hd) <;> (try simp at hs))
      | refine T_ret ?_
      | refine wif_intro ?_ (fun hc => ?_)
      | refine And.intro ?_ ?_
      | intro hc
    | simp (maxSteps := 4000000) only [wops_nil, wops_cons, wstep_none, wrun_mv, wrun_app, wop, aop, ev, look, put_some, writes, ores_some, thenK, elsOf, szOk, hget, List.getElem?_cons_zero, List.set_cons_zero, List.drop_zero, List.replicate_zero, List.replicate_succ, List.length_map, Option.getD_some, if_true, if_false, Nat.reduceEqDiff, Nat.add_zero, Nat.sub_zero, Bool.false_and, Bool.or_true, eq_self, true_and, and_self, beq_self_eq_true, *]
    | simp (disch := omega) only [getD_ints, wrapI]
    | omega)
  all_goals first | exact ⟨[.lsl H'.length 0 (X.length - t + (Y.length - t - 1))], rfl, fin.down⟩
end
end Go.Abs
