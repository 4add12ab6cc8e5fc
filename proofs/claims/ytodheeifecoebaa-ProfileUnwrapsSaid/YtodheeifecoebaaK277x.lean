import Derived.Test.YtodheeifecoebaaK276x
set_option linter.all false
set_option linter.unusedVariables false
set_option linter.unusedSimpArgs false
set_option linter.unusedSectionVars false
namespace Go.Abs
open Go.Proofs
/-! ref.Unwrap: one first cell after the other -/
abbrev Pf (ph : List Int) : Nat → Int := fun c => ph.getD c 0
structure Pc (w : Int) (ph : List Int) (c : Nat) (o : List Nat) (h : Nat → Int) : Prop where
  fo : ∃ fr, Fo ph.length (thN ph) (edN w ph) (stN ph) (Pf ph) o h fr
  bd : ∀ c, -(1000 + 500 * (o.length : Int)) ≤ h c ∧ h c ≤ 1000 + 500 * (o.length : Int)
  cl : Cl (edN w ph) o o.length
  al : ∀ b, b < c → thN ph b = true → b ∈ o
  ze : ∀ c, c ∉ o → h c = 0
theorem T_onlyR {P : Program} {muts : List FuncId} {N b : Nat} {σ S : St} {K : Exit → St → Prop} {md : Option Nat} {ac : ACode} (ts : List Nat) (h : σ.only ts = S) (hT : T md P muts N b ac S K) : T md P muts N b ac σ K :=
  T_weak (weak_only ts) (by rw [h]; exact hT)
abbrev SLc45 (n c : Nat) : List (Nat × AV) := [(1, .loc 0 0 0), (4, .lsl 1 0 n), (5, .lsl 2 0 n), (6, i64 c)]
set_option maxHeartbeats 8000000 in
theorem k45l3 {w : Int} {nil : Bool} {ph : List Int} (hl : ph.length < 1000000) (hp : okPh ph) (hw : 1 ≤ w ∧ w ≤ 1000000) {c : Nat} {o : List Nat} {h : Nat → Int} (hc : c < ph.length) (hs : Pc w ph c o h) (K : Exit → St → Prop) :
    T none Try.prog muts 137 0 c45l3 ⟨SLc45 ph.length c, H45 w nil ph o h⟩ (thenK (fun s' => ∃ o h, Pc w ph (c + 1) o h ∧ s'.only [1, 4, 5, 6] = ⟨SLc45 ph.length (c + 1), H45 w nil ph o h⟩) K) := by
  have hml := mk_len ph.length h
  have hkl := kn_len ph.length o
  have hk1 := kn_get (o := o) hc
  have g1 : (ph.map fun x => [i64 x]).getD c [] = [i64 (ph.getD c 0)] := getD_ints hc
  have hpc := hp c
  have hth : thN ph c = decide (ph.getD c 0 ≠ -1) := by
    unfold thN thereB
    rw [Int.toNat_natCast]
    exact decide_eq_decide.2 ⟨fun h => h.2.2, fun h => ⟨by omega, by omega, h⟩⟩
  have hskip : (thN ph c = true → c ∈ o) → Pc w ph (c + 1) o h := fun hx => ⟨hs.fo, hs.bd, hs.cl, fun b hb ht => by
    by_cases e : b = c
    · subst e; exact hx ht
    · exact hs.al b (by omega) ht, hs.ze⟩
  by_cases h1 : ph.getD c 0 < 0
  · have hfin := PLift.up (hskip fun ht => by rw [hth] at ht; have := of_decide_eq_true ht; omega)
    clear hskip hs hth hp
    generalize hx : ph.getD c 0 = x at *
    unfold c45l3
    repeat' (first
      | ((with_reducible refine T_calm ?_ ?_); rfl)
      | with_reducible first
        | refine T_seq ?_
        | refine T_reg ?_
        | refine T_draw ?_
        | refine T_skip ?_
        | refine T_exit ?_
        | refine T_block ?_
        | refine T_cond_t rfl ?_
        | refine T_cond_f rfl ?_
        | refine wdW_cons rfl ?_
        | ((first | refine T_cond rfl (fun hc => ?_) (fun hc => ?_) | refine wguard_split (fun hc => ?_) (fun hc => ?_) | refine wguardX_split (fun hc => ?_) (fun hc => ?_)) <;> have hd := hc <;> (try simp (disch := omega) only [wrapI] at hd) <;> have hs := hd <;> (try simp only [decide_eq_true_eq, decide_eq_false_iff_not, Int.not_lt] at hd) <;> (try simp at hs))
        | refine T_ret ?_
        | refine leave_of (.inr rfl) _ rfl ?_
        | refine leave_of (.inl rfl) _ rfl ?_
        | refine leaveA_of (.inr rfl) _ rfl ?_
        | refine leaveA_of (.inl rfl) _ rfl ?_
        | refine wif_intro ?_ (fun hc => ?_)
        | refine And.intro ?_ ?_
        | intro hc
      | simp (maxSteps := 4000000) only [wops_nil, wops_cons, wstep_none, wstep_some, wguard_tf, wrun_mv, wrun_pick, wrun_bin, wrun_load, wrun_faddr, wrun_iaddrS, wrun_len, wop, aop, ev, look, put_some, writes, ores_some, ores_ite_none, ores_map, ores_bind, binV, thenK, blockK, intV, lenOf, value, cut, hget, mkAgg, List.length_cons, List.length_nil, List.getElem?_cons_zero, List.getElem?_cons_succ, List.take_succ_cons, List.take_nil, List.drop_succ_cons, List.drop_zero, List.append_nil, List.replicate_zero, List.getD_cons_zero, List.length_map, Option.pure_def, Option.bind_eq_bind, Option.getD_some, Option.map_some, if_true, if_false, Nat.reduceEqDiff, Nat.reduceAdd, Nat.zero_add, reduceCtorEq, Bool.false_eq_true, eq_self, and_true, and_self, decide_true, Int.toNat_natCast, *]
      | simp (disch := omega) only [wrapI]
      | omega)
    all_goals first | exact ⟨o, h, hfin.down, by simp [St.only, get_mk, look]⟩
  · cases d1 : decide (c ∈ o) with
    | true =>
      have hfin := PLift.up (hskip fun _ => by simpa using d1)
      rw [d1] at hk1
      clear hskip hs hth hp
      unfold c45l3
      generalize hx : ph.getD c 0 = x at *
      repeat' (first
        | ((with_reducible refine T_calm ?_ ?_); rfl)
        | with_reducible first
          | refine T_seq ?_
          | refine T_reg ?_
          | refine T_draw ?_
          | refine T_skip ?_
          | refine T_exit ?_
          | refine T_block ?_
          | refine T_cond_t rfl ?_
          | refine T_cond_f rfl ?_
          | refine wdW_cons rfl ?_
          | ((first | refine T_cond rfl (fun hc => ?_) (fun hc => ?_) | refine wguard_split (fun hc => ?_) (fun hc => ?_) | refine wguardX_split (fun hc => ?_) (fun hc => ?_)) <;> have hd := hc <;> (try simp (disch := omega) only [wrapI] at hd) <;> have hs := hd <;> (try simp only [decide_eq_true_eq, decide_eq_false_iff_not, Int.not_lt] at hd) <;> (try simp at hs))
          | refine T_ret ?_
          | refine leave_of (.inr rfl) _ rfl ?_
          | refine leave_of (.inl rfl) _ rfl ?_
          | refine leaveA_of (.inr rfl) _ rfl ?_
          | refine leaveA_of (.inl rfl) _ rfl ?_
          | refine wif_intro ?_ (fun hc => ?_)
          | refine And.intro ?_ ?_
          | intro hc
        | simp (maxSteps := 4000000) only [wops_nil, wops_cons, wstep_none, wstep_some, wguard_ff, wrun_mv, wrun_pick, wrun_bin, wrun_load, wrun_faddr, wrun_iaddrS, wrun_len, wop, aop, ev, look, put_some, writes, ores_some, ores_ite_none, ores_map, ores_bind, binV, thenK, blockK, intV, lenOf, value, cut, hget, mkAgg, List.length_cons, List.length_nil, List.getElem?_cons_zero, List.getElem?_cons_succ, List.take_succ_cons, List.take_nil, List.drop_succ_cons, List.drop_zero, List.append_nil, List.replicate_zero, List.getD_cons_zero, List.length_map, Option.pure_def, Option.bind_eq_bind, Option.getD_some, Option.map_some, if_true, if_false, Nat.reduceEqDiff, Nat.reduceAdd, Nat.zero_add, reduceCtorEq, Bool.false_eq_true, eq_self, and_true, and_self, decide_true, decide_false, Int.toNat_natCast, *]
        | simp (disch := omega) only [wrapI]
        | omega)
      all_goals first | exact ⟨o, h, hfin.down, by simp [St.only, get_mk, look]⟩
    | false =>
      have hco : c ∉ o := by simpa using d1
      have ht : thN ph c = true := by rw [hth]; exact decide_eq_true (by omega)
      have hl2 := fun K hg hK => k45l2 (nil := nil) hl hp hw (P := Pf ph) (o0 := o ++ [c]) (c := c) (o := o ++ [c]) (h := upd h c (ph.getD c 0)) hg K hK
      have hpg : Pg w ph (Pf ph) (o ++ [c]) (o ++ [c]) (upd h c (ph.getD c 0)) := by
        obtain ⟨fr, fo⟩ := hs.fo
        refine ⟨⟨upd fr c (-1), fo.add hco ⟨hc, ht⟩ (.inl ⟨rfl, rfl, hs.cl.root hs.al hco ht⟩)⟩, fun x => ?_, fun _ h => h, fun x hx => by
          simp only [List.mem_append, List.mem_singleton, not_or] at hx
          rw [upd_ne _ hx.2]; exact hs.ze x hx.1⟩
        have hbx := hs.bd x
        have hlc : (((o ++ [c]).length : Nat) : Int) = (o.length : Int) + 1 := by simp
        rw [hlc]
        unfold upd
        split <;> omega
      have hnx : ∀ o' h', Pg w ph (Pf ph) (o ++ [c]) o' h' → Cl (edN w ph) o' o'.length → Pc w ph (c + 1) o' h' := fun o' h' hg hcl => ⟨hg.fo, hg.bd, hcl, fun b hb htb => hg.pre b (by
        by_cases e : b = c
        · subst e; simp
        · exact List.mem_append_left _ (hs.al b (by omega) htb)), hg.ze⟩
      rw [d1] at hk1
      have es1 : ((mk ph.length h).map fun x => [i64 x]).set c [i64 (ph.getD c 0)] = (mk ph.length (upd h c (ph.getD c 0))).map fun x => [i64 x] := by rw [← mk_upd, List.map_set]
      have es2 : (kn ph.length o).set c [bl true] = kn ph.length (o ++ [c]) := kn_set
      have gm : ((mk ph.length h).map fun x => [i64 x]).getD c [] = [i64 (h c)] := by rw [getD_ints (by rw [mk_len]; exact hc), mk_get hc]
      replace hl2 := PLift.up hl2
      replace hpg := PLift.up hpg
      replace hnx := PLift.up hnx
      replace es1 := PLift.up es1
      replace es2 := PLift.up es2
      clear hskip hs hth hp
      unfold c45l3
      repeat' (first
        | ((with_reducible refine T_calm ?_ ?_); rfl)
        | with_reducible first
          | refine T_seq ?_
          | refine T_reg ?_
          | refine T_draw ?_
          | refine T_skip ?_
          | refine T_exit ?_
          | refine T_block ?_
          | refine T_cond_t rfl ?_
          | refine T_cond_f rfl ?_
          | refine wdW_cons rfl ?_
          | ((first | refine T_cond rfl (fun hc => ?_) (fun hc => ?_) | refine wguard_split (fun hc => ?_) (fun hc => ?_) | refine wguardX_split (fun hc => ?_) (fun hc => ?_)) <;> have hd := hc <;> (try simp (disch := omega) only [wrapI] at hd) <;> have hs := hd <;> (try simp only [decide_eq_true_eq, decide_eq_false_iff_not, Int.not_lt] at hd) <;> (try simp at hs))
          | refine T_ret ?_
          | refine leave_of (.inr rfl) _ rfl ?_
          | refine leave_of (.inl rfl) _ rfl ?_
          | refine leaveA_of (.inr rfl) _ rfl ?_
          | refine leaveA_of (.inl rfl) _ rfl ?_
          | refine wif_intro ?_ (fun hc => ?_)
          | refine And.intro ?_ ?_
          | intro hc
        | simp (maxSteps := 4000000) only [wops_nil, wops_cons, wstep_none, wstep_some, wguard_ff, wrun_mv, wrun_pick, wrun_bin, wrun_load, wrun_store, wrun_faddr, wrun_iaddrS, wrun_len, wop, aop, ev, look, put_some, put_none, writes, ores_some, ores_ite_none, ores_map, ores_bind, binV, thenK, intV, lenOf, value, cut, hget, putCells, AV.parts, isOne, mkAgg, List.length_cons, List.length_nil, List.getElem?_cons_zero, List.getElem?_cons_succ, List.set_cons_zero, List.set_cons_succ, List.take_succ_cons, List.take_zero, List.take_nil, List.drop_succ_cons, List.drop_zero, List.drop_nil, List.cons_append, List.nil_append, List.append_nil, List.append_assoc, List.replicate_zero, List.getD_cons_zero, List.all_cons, List.all_nil, List.length_map, Option.pure_def, Option.bind_eq_bind, Option.getD_some, Option.map_some, if_true, if_false, Nat.reduceEqDiff, Nat.reduceAdd, Nat.zero_add, Nat.le_refl, reduceCtorEq, Bool.and_true, Bool.false_eq_true, eq_self, true_and, and_true, and_self, decide_true, decide_false, List.all_cons, Int.toNat_natCast, *]
        | simp (disch := omega) only [getD_ints, wrapI]
        | omega)
      refine T_onlyR (S := ⟨SLg45 ph.length c true, H45 w nil ph (o ++ [c]) (upd h c (ph.getD c 0))⟩) [1, 4, 5, 6, 7] ?_ (hl2.down _ hpg.down fun o' h' hg hcl σ hσ => ?_)
      · unfold H45
        rw [← es1.down, ← es2.down]
        simp [St.only, get_mk, look]
      · refine T_onlyR [1, 4, 5, 6, 7] hσ ?_
        have hfin := PLift.up (hnx.down o' h' hg hcl)
        clear hl2 hpg hnx es1 es2 hg hcl
        repeat' (first
          | ((with_reducible refine T_calm ?_ ?_); rfl)
          | with_reducible first
            | refine T_seq ?_
            | refine T_reg ?_
            | refine T_draw ?_
            | refine T_skip ?_
            | refine T_exit ?_
            | refine T_block ?_
            | refine T_cond_t rfl ?_
            | refine T_cond_f rfl ?_
            | refine wdW_cons rfl ?_
            | ((first | refine T_cond rfl (fun hc => ?_) (fun hc => ?_) | refine wguard_split (fun hc => ?_) (fun hc => ?_) | refine wguardX_split (fun hc => ?_) (fun hc => ?_)) <;> have hd := hc <;> (try simp (disch := omega) only [wrapI] at hd) <;> have hs := hd <;> (try simp only [Bool.not_eq_true', Bool.not_eq_false', Bool.and_eq_true, Bool.and_eq_false_iff, Bool.or_eq_true, Bool.or_eq_false_iff, decide_eq_true_eq, decide_eq_false_iff_not, beq_iff_eq, bne_iff_ne, beq_eq_false_iff_ne, bne_eq_false_iff_eq, Bool.not_true, Bool.not_false, gt_iff_lt, ge_iff_le, Int.not_lt, Int.not_le, ne_eq, Decidable.not_not] at hd) <;> (try simp at hs))
            | refine T_ret ?_
            | refine leave_of (.inr rfl) _ rfl ?_
            | refine leave_of (.inl rfl) _ rfl ?_
            | refine leaveA_of (.inr rfl) _ rfl ?_
            | refine leaveA_of (.inl rfl) _ rfl ?_
            | refine wif_intro ?_ (fun hc => ?_)
            | refine And.intro ?_ ?_
            | intro hc
          | simp (maxSteps := 4000000) only [wops_nil, wops_cons, wstep_none, wrun_mv, wrun_bin, wop, aop, ev, look, put_some, writes, ores_some, binV, thenK, List.length_cons, List.length_nil, List.append_nil, List.replicate_zero, Option.map_some, if_true, if_false, Nat.reduceEqDiff, Nat.reduceAdd, Nat.zero_add, reduceCtorEq, eq_self, *]
          | simp (disch := omega) only [wrapI]
          | omega)
        all_goals first | exact ⟨o', h', hfin.down, by simp [St.only, get_mk, look]⟩
end Go.Abs
