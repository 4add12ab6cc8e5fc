import Derived.Test.YtpfmamngjefohaaK347x
set_option linter.all false
set_option linter.unusedVariables false
set_option linter.unusedSimpArgs false
set_option linter.unusedSectionVars false
namespace Go.Abs
open Go.Proofs
/-! the greatest pull -/
def mxP (l : List Sk) (lo hi : List Int) (n : Nat) : Nat → Int
  | 0 => 0
  | i + 1 => if i = 0 ∨ mxP l lo hi n i < plz (l.getD i sk0).wr lo hi n then plz (l.getD i sk0).wr lo hi n else mxP l lo hi n i
theorem mxP_max {l : List Sk} {lo hi : List Int} {n : Nat} : ∀ k, k ≠ 0 → (∀ i, i < k → plz (l.getD i sk0).wr lo hi n ≤ mxP l lo hi n k) ∧ ∃ i, i < k ∧ plz (l.getD i sk0).wr lo hi n = mxP l lo hi n k
  | 0, h => (h rfl).elim
  | k + 1, _ => by
    simp only [mxP]
    by_cases hk : k = 0
    · subst hk
      rw [if_pos (.inl rfl)]
      exact ⟨fun i hi => by obtain rfl : i = 0 := by omega
                            exact Int.le_refl _, 0, by omega, rfl⟩
    · obtain ⟨h1, j, h2, h3⟩ := mxP_max (l := l) (lo := lo) (hi := hi) (n := n) k hk
      by_cases hlt : mxP l lo hi n k < plz (l.getD k sk0).wr lo hi n
      · rw [if_pos (.inr hlt)]
        exact ⟨fun i hi => by
          rcases Nat.lt_succ_iff_lt_or_eq.1 hi with h | rfl
          · have := h1 i h; omega
          · exact Int.le_refl _, k, by omega, rfl⟩
      · rw [if_neg (by rintro (h | h); exact hk h; exact hlt h)]
        exact ⟨fun i hi => by
          rcases Nat.lt_succ_iff_lt_or_eq.1 hi with h | rfl
          · exact h1 i h
          · omega, j, by omega, h3⟩
theorem mxP_plB {l : List Sk} {lo hi : List Int} {n : Nat} {most : Int} (h : 0 < l.length) : decide (mxP l lo hi n l.length > most) = !plB l lo hi n most := by
  obtain ⟨h1, j, h2, h3⟩ := mxP_max (l := l) (lo := lo) (hi := hi) (n := n) l.length (by omega)
  unfold plB
  rw [← decide_not, decide_eq_decide]
  constructor
  · intro h4 h5
    have := h5 j h2
    omega
  · intro h4
    refine Int.not_le.1 fun h5 => h4 fun i hi => ?_
    have := h1 i hi
    omega
set_option maxHeartbeats 8000000 in
theorem k92in {nil n1 n2 : Bool} {l : List Sk} {lo hi : List Int} {den most : Int} {n i : Nat} (hn : n ≤ 40) (hW : WOk n lo hi den) (hl : l.length ≤ 12) (hi9 : i < l.length) (hw : (l.getD i sk0).wr.length = n) (hwr : ∀ z, z < n → 0 ≤ (l.getD i sk0).wr.getD z 0 ∧ (l.getD i sk0).wr.getD z 0 ≤ 100) (K : Exit → St → Prop)
    (hN : ∀ τ : St, τ.heap = [wB n1 lo n2 hi den] → (τ.only [0, 3, 5, 6, 7]).slots = [(0, sts nil l), (3, .loc 0 0 0), (5, i64 most), (6, i64 i), (7, i64 (plz (l.getD i sk0).wr lo hi n))] → K (.exit 2) τ)
    {σ : St} (h0 : (σ.only [0, 3, 5, 6, 7, 8]).slots = [(0, sts nil l), (3, .loc 0 0 0), (5, i64 most), (6, i64 i), (7, i64 0), (8, i64 0)]) (hH : σ.heap = [wB n1 lo n2 hi den]) {bb : Nat} : T none Try.prog muts 53 bb (.loop c92l0) σ K := by
  have hll := (by simp : (lo.map fun x => [i64 x]).length = lo.length)
  have hlh := (by simp : (hi.map fun x => [i64 x]).length = hi.length)
  have hsl := skR_len l
  have g0 := skR_get hi9
  have hwl : ((l.getD i sk0).wr.map fun x => [i64 x]).length = n := by rw [List.length_map, hw]
  have r1 := hW.l1
  have r2 := hW.l2
  refine T_forP [0, 3, 5, 6, 7, 8] (fun z => [(0, sts nil l), (3, .loc 0 0 0), (5, i64 most), (6, i64 i), (7, i64 (plz (l.getD i sk0).wr lo hi z)), (8, i64 z)]) n (fun z H' => H' = [wB n1 lo n2 hi den]) 0 h0 hH (Nat.zero_le _) ?_
  clear h0 hH
  intro z H' hz hH
  subst hH
  by_cases hzn : z < n
  · have g1 : ((l.getD i sk0).wr.map fun x => [i64 x]).getD z [] = [i64 ((l.getD i sk0).wr.getD z 0)] := getD_ints (by omega)
    have g2 : (lo.map fun x => [i64 x]).getD z [] = [i64 (lo.getD z 0)] := getD_ints (by omega)
    have g3 : (hi.map fun x => [i64 x]).getD z [] = [i64 (hi.getD z 0)] := getD_ints (by omega)
    have b1 := plz_bd hW hwr z (by omega)
    have b2 := hW.r1 z hzn
    have b3 := hW.r2 z hzn
    have b4 := abs_mul_bd (hwr z hzn) (b := lo.getD z 0 - hi.getD z 0) (B := 1000000000) (by omega) (by omega)
    have ew1 : IntKind.i64.wrap (lo.getD z 0 - hi.getD z 0) = lo.getD z 0 - hi.getD z 0 := wrapI (by omega) (by omega)
    have ew2 : IntKind.i64.wrap ((l.getD i sk0).wr.getD z 0 * (lo.getD z 0 - hi.getD z 0)) = (l.getD i sk0).wr.getD z 0 * (lo.getD z 0 - hi.getD z 0) := wrapI (by omega) (by omega)
    have ew3 : IntKind.i64.wrap (plz (l.getD i sk0).wr lo hi z + (l.getD i sk0).wr.getD z 0 * (lo.getD z 0 - hi.getD z 0)) = plz (l.getD i sk0).wr lo hi (z + 1) := wrapI (by omega) (by omega)
    have y1 : (z : Int) < (lo.length : Int) := by omega
    have y2 : (z : Int) < (hi.length : Int) := by omega
    have y3 : (z : Int) < ((l.getD i sk0).wr.length : Int) := by omega
    have y4 : (z : Int) < (n : Int) := by omega
    clear hN hwr b1 b2 b3 b4 hW r1 r2 hw
    generalize plz (l.getD i sk0).wr lo hi (z + 1) = T2 at *
    generalize plz (l.getD i sk0).wr lo hi z = T1 at *
    generalize (l.getD i sk0).wr.getD z 0 = u1 at *
    generalize lo.getD z 0 = u2 at *
    generalize hi.getD z 0 = u3 at *
    unfold c92l0
    repeat' (first
      | with_reducible first
        | refine T_seq ?_
        | refine T_reg ?_
        | refine T_draw ?_
        | refine T_skip ?_
        | refine T_exit ?_
        | refine T_block ?_
        | refine T_cond_t rfl ?_
        | refine T_cond_f rfl ?_
        | refine wdW_cons rfl ?_
        | ((first | refine T_cond rfl (fun hc => ?_) (fun hc => ?_) | refine wguard_split (fun hc => ?_) (fun hc => ?_) | refine wguardX_split (fun hc => ?_) (fun hc => ?_)) <;> have hd := hc <;> (try simp (disch := omega) only [wrapI] at hd) <;> have hs := hd <;> (try simp only [Bool.not_eq_true', Bool.not_eq_false', Bool.and_eq_true, Bool.and_eq_false_iff, Bool.or_eq_true, Bool.or_eq_false_iff, decide_eq_true_eq, decide_eq_false_iff_not, beq_iff_eq, bne_iff_ne, beq_eq_false_iff_ne, bne_eq_false_iff_eq, Bool.not_true, Bool.not_false, gt_iff_lt, ge_iff_le, Int.not_lt, Int.not_le, ne_eq, Decidable.not_not] at hd) <;> (try simp at hs))
        | refine T_ret ?_
        | refine wif_intro ?_ (fun hc => ?_)
        | refine And.intro ?_ ?_
        | intro hc
      | simp (maxSteps := 4000000) only [wops_nil, wops_cons, wstep_none, wrun_mv, wrun_bin, wrun_load, wrun_faddr, wrun_iaddrS, wrun_len, wrunX_mv, wrunX_bin, wrunX_load, wrunX_faddr, wrunX_iaddrS, wdW_nil, wstepX_none, wop, aop, ev, look, put_some, writes, ores_some, ores_ite_none, ores_map, ores_bind, binV, thenK, blockK, intV, lenOf, value, cut, hget, toLits, mkAgg, List.length_cons, List.length_nil, List.getElem?_cons_zero, List.take_succ_cons, List.take_zero, List.take_nil, List.drop_succ_cons, List.drop_zero, List.append_nil, List.replicate_zero, List.getD_cons_zero, Option.pure_def, Option.bind_eq_bind, Option.getD_some, Option.map_some, if_true, if_false, Nat.reduceEqDiff, Nat.add_zero, Nat.zero_add, reduceCtorEq, Bool.false_eq_true, eq_self, true_and, and_true, and_self, decide_true, Int.toNat_natCast, *]
      | simp (disch := omega) only [wrapI]
      | omega)
    all_goals first | rfl | (simp [St.only, get_mk, look]; done)
  · have hze : z = n := by omega
    subst hze
    have f := PLift.up (hN)
    have hzz : decide ((z : Int) < (lo.length : Int)) = false := decide_eq_false (by omega)
    clear hN hwr hW
    generalize plz (l.getD i sk0).wr lo hi z = T1 at *
    unfold c92l0
    repeat' (first
      | ((with_reducible refine T_calm ?_ ?_); rfl)
      | with_reducible first
        | refine T_seq ?_
        | refine T_reg ?_
        | refine T_draw ?_
        | refine T_skip ?_
        | refine T_exit ?_
        | refine T_block ?_
        | refine T_cond_t rfl ?_
        | refine T_cond_f rfl ?_
        | refine wdW_cons rfl ?_
        | ((first | refine T_cond rfl (fun hc => ?_) (fun hc => ?_) | refine wguard_split (fun hc => ?_) (fun hc => ?_) | refine wguardX_split (fun hc => ?_) (fun hc => ?_)) <;> have hd := hc <;> (try simp (disch := omega) only [wrapI] at hd) <;> have hs := hd <;> (try simp only [decide_eq_true_eq, decide_eq_false_iff_not, Int.not_lt] at hd) <;> (try simp at hs))
        | refine T_ret ?_
        | refine wif_intro ?_ (fun hc => ?_)
        | refine And.intro ?_ ?_
        | intro hc
      | simp (maxSteps := 4000000) only [wops_nil, wops_cons, wstep_none, wrun_mv, wrun_bin, wrun_load, wrun_faddr, wrun_len, wop, aop, ev, look, put_some, writes, ores_some, ores_map, ores_bind, binV, thenK, intV, lenOf, value, cut, hget, mkAgg, List.length_cons, List.length_nil, List.getElem?_cons_zero, List.take_succ_cons, List.take_zero, List.drop_zero, List.append_nil, List.replicate_zero, List.getD_cons_zero, Option.pure_def, Option.bind_eq_bind, Option.getD_some, Option.map_some, if_true, if_false, Nat.reduceEqDiff, Nat.add_zero, Nat.zero_add, reduceCtorEq, Bool.false_eq_true, eq_self, false_and, *]
      | simp (disch := omega) only [getD_ints, wrapI]
      | omega)
    all_goals first | exact f.down _ rfl (by simp [St.only, get_mk, look])
set_option maxHeartbeats 8000000 in
theorem k92l {nil n1 n2 : Bool} {l : List Sk} {lo hi : List Int} {den : Int} {n i : Nat} (hS : SOk l) (hn : n = (l.getD 0 sk0).wr.length) (hW : WOk n lo hi den) (hi9 : i < l.length) (K : Exit → St → Prop) {bb : Nat} :
    T none Try.prog muts 53 bb c92l1 ⟨[(0, sts nil l), (3, .loc 0 0 0), (5, i64 (mxP l lo hi n i)), (6, i64 i)], [wB n1 lo n2 hi den]⟩ (thenK (fun s' => s'.heap = [wB n1 lo n2 hi den] ∧ (s'.only [0, 3, 5, 6]).slots = [(0, sts nil l), (3, .loc 0 0 0), (5, i64 (mxP l lo hi n (i + 1))), (6, i64 ((i + 1 : Nat) : Int))]) K) := by
  have hll := skR_len l
  have hfew := hS.few
  have hz40 := hS.zon
  have hic : (i : Int) < (l.length : Int) := by omega
  have hin := fun most K hN σ h0 hH => k92in (nil := nil) (n1 := n1) (n2 := n2) (l := l) (lo := lo) (hi := hi) (den := den) (most := most) (n := n) (i := i) (bb := bb) (by omega) hW hfew hi9 (by rw [hn]; exact hS.len _ hi9) (fun z hz => hS.rng _ hi9 z (by omega)) K hN (σ := σ) h0 hH
  have em : mxP l lo hi n (i + 1) = if i = 0 ∨ mxP l lo hi n i < plz (l.getD i sk0).wr lo hi n then plz (l.getD i sk0).wr lo hi n else mxP l lo hi n i := rfl
  replace hin := PLift.up hin
  generalize mxP l lo hi n (i + 1) = M2 at *
  generalize mxP l lo hi n i = M1 at *
  generalize plz (l.getD i sk0).wr lo hi n = PP at *
  replace em := PLift.up em
  clear hS hW hn
  unfold c92l1
  repeat' (first
    | ((with_reducible refine T_calm ?_ ?_); rfl)
    | with_reducible first
      | refine T_seq ?_
      | refine T_reg ?_
      | refine T_draw ?_
      | refine T_skip ?_
      | refine T_exit ?_
      | refine T_block ?_
      | refine T_cond_t rfl ?_
      | refine T_cond_f rfl ?_
      | refine wdW_cons rfl ?_
      | ((first | refine T_cond rfl (fun hc => ?_) (fun hc => ?_) | refine wguard_split (fun hc => ?_) (fun hc => ?_) | refine wguardX_split (fun hc => ?_) (fun hc => ?_)) <;> have hd := hc <;> (try simp (disch := omega) only [wrapI] at hd) <;> have hs := hd <;> (try simp only [Bool.not_eq_true', Bool.not_eq_false', Bool.and_eq_true, Bool.and_eq_false_iff, Bool.or_eq_true, Bool.or_eq_false_iff, decide_eq_true_eq, decide_eq_false_iff_not, beq_iff_eq, bne_iff_ne, beq_eq_false_iff_ne, bne_eq_false_iff_eq, Bool.not_true, Bool.not_false, gt_iff_lt, ge_iff_le, Int.not_lt, Int.not_le, ne_eq, Decidable.not_not] at hd) <;> (try simp at hs))
      | refine T_ret ?_
      | refine wif_intro ?_ (fun hc => ?_)
      | refine And.intro ?_ ?_
      | intro hc
    | simp (maxSteps := 4000000) only [wops_nil, wops_cons, wstep_none, wrun_mv, wrun_bin, wrun_len, wop, aop, ev, look, put_some, writes, ores_some, ores_map, ores_bind, binV, thenK, intV, lenOf, hget, List.length_cons, List.length_nil, List.append_nil, List.replicate_zero, Option.pure_def, Option.bind_eq_bind, Option.map_some, if_true, if_false, Nat.reduceEqDiff, Nat.zero_add, reduceCtorEq, eq_self, decide_true, *]
    | simp (disch := omega) only [getD_ints, wrapI]
    | omega)
  refine hin.down M1 _ ?_ _ ?_ rfl
  · intro τ t1 t2
    simp only [blockK, thenK, reduceIte]
    refine T_onlyU [0, 3, 5, 6, 7] (S := ⟨[(0, sts nil l), (3, .loc 0 0 0), (5, i64 M1), (6, i64 i), (7, i64 PP)], [wB n1 lo n2 hi den]⟩) (by show (⟨(τ.only [0, 3, 5, 6, 7]).slots, τ.heap⟩ : St) = _; rw [t2, t1]) ?_
    have em' := em.down
    clear hin t1 t2 em
    by_cases hi0 : i = 0
    · have d1 : ((i : Int) == 0) = true := by simp [hi0]
      rw [if_pos (.inl hi0)] at em'
      subst em'
      clear hi0
      repeat' (first
        | ((with_reducible refine T_calm ?_ ?_); rfl)
        | with_reducible first
          | refine T_seq ?_
          | refine T_reg ?_
          | refine T_draw ?_
          | refine T_skip ?_
          | refine T_exit ?_
          | refine T_block ?_
          | refine T_cond_t rfl ?_
          | refine T_cond_f rfl ?_
          | refine wdW_cons rfl ?_
          | ((first | refine T_cond rfl (fun hc => ?_) (fun hc => ?_) | refine wguard_split (fun hc => ?_) (fun hc => ?_) | refine wguardX_split (fun hc => ?_) (fun hc => ?_)) <;> have hd := hc <;> (try simp (disch := omega) only [wrapI] at hd) <;> have hs := hd <;> (try simp only [Bool.not_eq_true', Bool.not_eq_false', Bool.and_eq_true, Bool.and_eq_false_iff, Bool.or_eq_true, Bool.or_eq_false_iff, decide_eq_true_eq, decide_eq_false_iff_not, beq_iff_eq, bne_iff_ne, beq_eq_false_iff_ne, bne_eq_false_iff_eq, Bool.not_true, Bool.not_false, gt_iff_lt, ge_iff_le, Int.not_lt, Int.not_le, ne_eq, Decidable.not_not] at hd) <;> (try simp at hs))
          | refine T_ret ?_
          | refine wif_intro ?_ (fun hc => ?_)
          | refine And.intro ?_ ?_
          | intro hc
        | simp (maxSteps := 4000000) only [wops_nil, wops_cons, wstep_none, wstep_some, wguard_tf, wrun_mv, wrun_pick, wrun_bin, wop, aop, ev, look, put_some, writes, ores_some, binV, thenK, blockK, List.length_cons, List.length_nil, List.append_nil, List.replicate_zero, Option.map_some, if_true, if_false, Nat.reduceEqDiff, Nat.zero_add, reduceCtorEq, eq_self, true_and, *]
        | simp (disch := omega) only [wrapI]
        | omega)
      all_goals first | rfl | (simp [St.only, get_mk, look]; done)
    · have d1 : ((i : Int) == 0) = false := by simp only [beq_eq_false_iff_ne]; omega
      by_cases hlt : M1 < PP
      · have d2 : decide (PP > M1) = true := decide_eq_true (by omega)
        rw [if_pos (.inr hlt)] at em'
        subst em'
        clear hi0 hlt
        repeat' (first
          | ((with_reducible refine T_calm ?_ ?_); rfl)
          | with_reducible first
            | refine T_seq ?_
            | refine T_reg ?_
            | refine T_draw ?_
            | refine T_skip ?_
            | refine T_exit ?_
            | refine T_block ?_
            | refine T_cond_t rfl ?_
            | refine T_cond_f rfl ?_
            | refine wdW_cons rfl ?_
            | ((first | refine T_cond rfl (fun hc => ?_) (fun hc => ?_) | refine wguard_split (fun hc => ?_) (fun hc => ?_) | refine wguardX_split (fun hc => ?_) (fun hc => ?_)) <;> have hd := hc <;> (try simp (disch := omega) only [wrapI] at hd) <;> have hs := hd <;> (try simp only [Bool.not_eq_true', Bool.not_eq_false', Bool.and_eq_true, Bool.and_eq_false_iff, Bool.or_eq_true, Bool.or_eq_false_iff, decide_eq_true_eq, decide_eq_false_iff_not, beq_iff_eq, bne_iff_ne, beq_eq_false_iff_ne, bne_eq_false_iff_eq, Bool.not_true, Bool.not_false, gt_iff_lt, ge_iff_le, Int.not_lt, Int.not_le, ne_eq, Decidable.not_not] at hd) <;> (try simp at hs))
            | refine T_ret ?_
            | refine wif_intro ?_ (fun hc => ?_)
            | refine And.intro ?_ ?_
            | intro hc
          | simp (maxSteps := 4000000) only [wops_nil, wops_cons, wstep_none, wstep_some, wguard_ff, wrun_mv, wrun_pick, wrun_bin, wop, aop, ev, look, put_some, writes, ores_some, binV, thenK, blockK, List.length_cons, List.length_nil, List.append_nil, List.replicate_zero, Option.map_some, if_true, if_false, Nat.reduceEqDiff, Nat.zero_add, reduceCtorEq, Bool.false_eq_true, eq_self, true_and, *]
          | simp (disch := omega) only [wrapI]
          | omega)
        all_goals first | rfl | (simp [St.only, get_mk, look]; done)
      · have d2 : decide (PP > M1) = false := decide_eq_false (by omega)
        rw [if_neg (by rintro (h | h); exact hi0 h; exact hlt h)] at em'
        subst em'
        clear hi0 hlt
        repeat' (first
          | ((with_reducible refine T_calm ?_ ?_); rfl)
          | with_reducible first
            | refine T_seq ?_
            | refine T_reg ?_
            | refine T_draw ?_
            | refine T_skip ?_
            | refine T_exit ?_
            | refine T_block ?_
            | refine T_cond_t rfl ?_
            | refine T_cond_f rfl ?_
            | refine wdW_cons rfl ?_
            | ((first | refine T_cond rfl (fun hc => ?_) (fun hc => ?_) | refine wguard_split (fun hc => ?_) (fun hc => ?_) | refine wguardX_split (fun hc => ?_) (fun hc => ?_)) <;> have hd := hc <;> (try simp (disch := omega) only [wrapI] at hd) <;> have hs := hd <;> (try simp only [Bool.not_eq_true', Bool.not_eq_false', Bool.and_eq_true, Bool.and_eq_false_iff, Bool.or_eq_true, Bool.or_eq_false_iff, decide_eq_true_eq, decide_eq_false_iff_not, beq_iff_eq, bne_iff_ne, beq_eq_false_iff_ne, bne_eq_false_iff_eq, Bool.not_true, Bool.not_false, gt_iff_lt, ge_iff_le, Int.not_lt, Int.not_le, ne_eq, Decidable.not_not] at hd) <;> (try simp at hs))
            | refine T_ret ?_
            | refine wif_intro ?_ (fun hc => ?_)
            | refine And.intro ?_ ?_
            | intro hc
          | simp (maxSteps := 4000000) only [wops_nil, wops_cons, wstep_none, wstep_some, wguard_ff, wrun_mv, wrun_pick, wrun_bin, wop, aop, ev, look, put_some, writes, ores_some, binV, thenK, blockK, List.length_cons, List.length_nil, List.append_nil, List.replicate_zero, Option.map_some, if_true, if_false, Nat.reduceEqDiff, Nat.zero_add, reduceCtorEq, Bool.false_eq_true, eq_self, true_and, *]
          | simp (disch := omega) only [wrapI]
          | omega)
        all_goals first | rfl | (simp [St.only, get_mk, look]; done)
  · simp [St.only, get_mk, look]
set_option maxHeartbeats 8000000 in
theorem k92 (nil n1 n2 : Bool) (l : List Sk) (lo hi : List Int) (den : Int) (hS : SOk l) (hW : WOk (l.getD 0 sk0).wr.length lo hi den) : Fn Try.prog 92 [sts nil l, wgV n1 lo n2 hi den] (i64 (mxP l lo hi (l.getD 0 sk0).wr.length l.length)) [] := by
  refine fn_of e92 ?_
  have hll := skR_len l
  have hfew := hS.few
  have hrow := PLift.up (fun i hi9 K => k92l (nil := nil) (n1 := n1) (n2 := n2) (lo := lo) (hi := hi) (den := den) (i := i) (bb := 0) hS rfl hW hi9 K)
  clear hS hW
  unfold c92
  repeat' (first
    | ((with_reducible refine T_calm ?_ ?_); rfl)
    | with_reducible first
      | refine T_seq ?_
      | refine T_reg ?_
      | refine T_draw ?_
      | refine T_skip ?_
      | refine T_exit ?_
      | refine T_block ?_
      | refine T_cond_t rfl ?_
      | refine T_cond_f rfl ?_
      | refine wdW_cons rfl ?_
      | ((first | refine T_cond rfl (fun hc => ?_) (fun hc => ?_) | refine wguard_split (fun hc => ?_) (fun hc => ?_) | refine wguardX_split (fun hc => ?_) (fun hc => ?_)) <;> have hd := hc <;> (try simp (disch := omega) only [wrapI] at hd) <;> have hs := hd <;> (try simp only [Bool.not_eq_true', Bool.not_eq_false', Bool.and_eq_true, Bool.and_eq_false_iff, Bool.or_eq_true, Bool.or_eq_false_iff, decide_eq_true_eq, decide_eq_false_iff_not, beq_iff_eq, bne_iff_ne, beq_eq_false_iff_ne, bne_eq_false_iff_eq, Bool.not_true, Bool.not_false, gt_iff_lt, ge_iff_le, Int.not_lt, Int.not_le, ne_eq, Decidable.not_not] at hd) <;> (try simp at hs))
      | refine T_ret ?_
      | refine leave_of (.inr rfl) _ rfl ?_
      | refine leave_of (.inl rfl) _ rfl ?_
      | refine leaveA_of (.inr rfl) _ rfl ?_
      | refine leaveA_of (.inl rfl) _ rfl ?_
      | refine wif_intro ?_ (fun hc => ?_)
      | refine And.intro ?_ ?_
      | intro hc
    | simp (maxSteps := 4000000) only [wops_nil, wops_cons, wstep_none, wrun_mv, wrun_box, wop, aop, ev, look, put_some, writes, ores_some, thenK, AV.parts, isOne, List.map_cons, List.map_nil, List.length_cons, List.length_nil, List.getElem?_cons_zero, List.set_cons_zero, List.nil_append, List.append_nil, List.replicate_zero, List.replicate_succ, List.zipIdx_cons, List.zipIdx_nil, List.all_cons, List.all_nil, if_true, if_false, Nat.reduceAdd, Nat.add_zero, Nat.zero_add, Nat.zero_ne_one, Bool.and_true, eq_self, true_and, and_self, List.all_cons, *]
    | simp (disch := omega) only [getD_ints, wrapI]
    | omega)
  refine T_forP [0, 3, 5, 6] (fun k => [(0, sts nil l), (3, .loc 0 0 0), (5, i64 (mxP l lo hi (l.getD 0 sk0).wr.length k)), (6, i64 k)]) l.length (fun k H => H = [wB n1 lo n2 hi den]) 0 ?_ rfl (Nat.zero_le _) ?_
  · simp [St.only, get_mk, look, mxP]
  intro k H hk hHe
  subst hHe
  by_cases hkn : k < l.length
  · exact T_thenR (hrow.down k hkn _) fun s' hs => ⟨hkn, hs.1, hs.2⟩
  · have hke : k = l.length := by omega
    subst hke
    clear hrow
    unfold c92l1
    repeat' (first
      | ((with_reducible refine T_calm ?_ ?_); rfl)
      | with_reducible first
        | refine T_seq ?_
        | refine T_reg ?_
        | refine T_draw ?_
        | refine T_skip ?_
        | refine T_exit ?_
        | refine T_block ?_
        | refine T_cond_t rfl ?_
        | refine T_cond_f rfl ?_
        | refine wdW_cons rfl ?_
        | ((first | refine T_cond rfl (fun hc => ?_) (fun hc => ?_) | refine wguard_split (fun hc => ?_) (fun hc => ?_) | refine wguardX_split (fun hc => ?_) (fun hc => ?_)) <;> have hd := hc <;> (try simp (disch := omega) only [wrapI] at hd) <;> have hs := hd <;> (try simp only [decide_eq_true_eq, decide_eq_false_iff_not, Int.not_lt] at hd) <;> (try simp at hs))
        | refine T_ret ?_
        | refine leave_of (.inr rfl) _ rfl ?_
        | refine leave_of (.inl rfl) _ rfl ?_
        | refine leaveA_of (.inr rfl) _ rfl ?_
        | refine leaveA_of (.inl rfl) _ rfl ?_
        | refine wif_intro ?_ (fun hc => ?_)
        | refine And.intro ?_ ?_
        | intro hc
      | simp (maxSteps := 4000000) only [wops_nil, wops_cons, wstep_none, wrun_mv, wrun_bin, wrun_len, get_mk, wop, aop, ev, look, put_some, writes, ores_some, ores_map, ores_bind, binV, thenK, blockK, intV, lenOf, hget, tupOf, List.length_cons, List.length_nil, List.append_nil, List.replicate_zero, Option.pure_def, Option.bind_eq_bind, Option.map_some, if_true, if_false, Nat.reduceEqDiff, Nat.zero_add, reduceCtorEq, eq_self, false_and, ren, *]
      | simp (disch := omega) only [getD_ints, wrapI]
      | omega)
    all_goals first | rfl
end Go.Abs
