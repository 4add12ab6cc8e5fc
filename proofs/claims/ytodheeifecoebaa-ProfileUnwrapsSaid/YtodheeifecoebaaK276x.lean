import Derived.Test.YtodheeifecoebaaK274
set_option linter.all false
set_option linter.unusedVariables false
set_option linter.unusedSimpArgs false
set_option linter.unusedSectionVars false
namespace Go.Abs
open Go.Proofs
/-! ref.Unwrap: passes until nothing grows -/
structure Pg (w : Int) (ph : List Int) (P : Nat → Int) (o0 o : List Nat) (h : Nat → Int) : Prop where
  fo : ∃ fr, Fo ph.length (thN ph) (edN w ph) (stN ph) P o h fr
  bd : ∀ c, -(1000 + 500 * (o.length : Int)) ≤ h c ∧ h c ≤ 1000 + 500 * (o.length : Int)
  pre : ∀ c, c ∈ o0 → c ∈ o
  ze : ∀ c, c ∉ o → h c = 0
abbrev SLg45 (n c : Nat) (gr : Bool) : List (Nat × AV) := [(1, .loc 0 0 0), (4, .lsl 1 0 n), (5, .lsl 2 0 n), (6, i64 c), (7, bl gr)]
set_option maxHeartbeats 8000000 in
theorem k45l2 {w : Int} {nil : Bool} {ph : List Int} (hl : ph.length < 1000000) (hp : okPh ph) (hw : 1 ≤ w ∧ w ≤ 1000000) {P : Nat → Int} {o0 : List Nat} {c : Nat} {o : List Nat} {h : Nat → Int} (hg : Pg w ph P o0 o h) (K : Exit → St → Prop)
    (hK : ∀ o' h', Pg w ph P o0 o' h' → Cl (edN w ph) o' o'.length → ∀ σ : St, σ.only [1, 4, 5, 6, 7] = ⟨SLg45 ph.length c false, H45 w nil ph o' h'⟩ → K (.exit 2) σ) :
    T none Try.prog muts 137 0 (.loop c45l2) ⟨SLg45 ph.length c true, H45 w nil ph o h⟩ K := by
  refine T_loop_only [1, 4, 5, 6, 7] (fun m s => ∃ gr o' h', Pg w ph P o0 o' h' ∧ (gr = false → Cl (edN w ph) o' o'.length) ∧ m = 2 * (ph.length - o'.length) + gr.toNat ∧ s = ⟨SLg45 ph.length c gr, H45 w nil ph o' h'⟩) (2 * (ph.length - o.length) + 1) ⟨true, o, h, hg, fun h => by simp at h, rfl, ?_⟩ ?_
  · simp [St.only, get_mk, look]
  clear hg
  rintro m s ⟨gr, o1, h1, hg, hcl, rfl, rfl⟩
  have hlen : o1.length ≤ ph.length := by obtain ⟨fr, hf⟩ := hg.fo; exact hf.len
  have hl1 := fun {c a gr o h} ha hs K => k45l1 (nil := nil) hl hp hw (P := P) (o0 := o1) (c := c) (a := a) (gr := gr) (o := o) (h := h) ha hs K
  replace hl1 := PLift.up @hl1
  replace hK := PLift.up hK
  have hPg := PLift.up hg
  cases gr with
  | false =>
    have hcl' := PLift.up (hcl rfl)
    clear hcl hl1 hg
    unfold c45l2
    repeat' (first
      | ((with_reducible refine T_calm ?_ ?_); rfl)
      | with_reducible first
        | refine T_seq ?_
        | refine T_reg ?_
        | refine T_draw ?_
        | refine T_skip ?_
        | refine T_exit ?_
        | refine T_block ?_
        | refine T_cond_t rfl ?_
        | refine T_cond_f rfl ?_
        | refine wdW_cons rfl ?_
        | ((first | refine T_cond rfl (fun hc => ?_) (fun hc => ?_) | refine wguard_split (fun hc => ?_) (fun hc => ?_) | refine wguardX_split (fun hc => ?_) (fun hc => ?_)) <;> have hd := hc <;> (try simp (disch := omega) only [wrapI] at hd) <;> have hs := hd <;> (try simp only [Bool.not_eq_true', Bool.not_eq_false', Bool.and_eq_true, Bool.and_eq_false_iff, Bool.or_eq_true, Bool.or_eq_false_iff, decide_eq_true_eq, decide_eq_false_iff_not, beq_iff_eq, bne_iff_ne, beq_eq_false_iff_ne, bne_eq_false_iff_eq, Bool.not_true, Bool.not_false, gt_iff_lt, ge_iff_le, Int.not_lt, Int.not_le, ne_eq, Decidable.not_not] at hd) <;> (try simp at hs))
        | refine T_ret ?_
        | refine leave_of (.inr rfl) _ rfl ?_
        | refine leave_of (.inl rfl) _ rfl ?_
        | refine leaveA_of (.inr rfl) _ rfl ?_
        | refine leaveA_of (.inl rfl) _ rfl ?_
        | refine wif_intro ?_ (fun hc => ?_)
        | refine And.intro ?_ ?_
        | intro hc
      | simp (maxSteps := 4000000) only [wops_nil, wops_cons, wstep_none, wrun_mv, wop, aop, ev, look, put_some, writes, ores_some, thenK, List.length_cons, List.length_nil, List.append_nil, List.replicate_zero, if_true, if_false, Nat.reduceEqDiff, Nat.reduceAdd, Nat.zero_add, eq_self, *]
      | simp (disch := omega) only [getD_ints, wrapI]
      | omega)
    all_goals first | exact hK.down _ _ hPg.down hcl'.down _ (by simp [St.only, get_mk, look])
  | true =>
    have hps : Ps w ph P o1 0 0 false o1 h1 := ⟨hg.fo, hg.bd, ⟨Nat.le_refl _, fun _ h => h⟩, fun h => by simp at h, fun _ => ⟨rfl, fun a' b' hab => by omega⟩, hg.ze⟩
    replace hps := PLift.up hps
    clear hcl hg
    unfold c45l2
    repeat' (first
      | ((with_reducible refine T_calm ?_ ?_); rfl)
      | with_reducible first
        | refine T_seq ?_
        | refine T_reg ?_
        | refine T_draw ?_
        | refine T_skip ?_
        | refine T_exit ?_
        | refine T_block ?_
        | refine T_cond_t rfl ?_
        | refine T_cond_f rfl ?_
        | refine wdW_cons rfl ?_
        | ((first | refine T_cond rfl (fun hc => ?_) (fun hc => ?_) | refine wguard_split (fun hc => ?_) (fun hc => ?_) | refine wguardX_split (fun hc => ?_) (fun hc => ?_)) <;> have hd := hc <;> (try simp (disch := omega) only [wrapI] at hd) <;> have hs := hd <;> (try simp only [Bool.not_eq_true', Bool.not_eq_false', Bool.and_eq_true, Bool.and_eq_false_iff, Bool.or_eq_true, Bool.or_eq_false_iff, decide_eq_true_eq, decide_eq_false_iff_not, beq_iff_eq, bne_iff_ne, beq_eq_false_iff_ne, bne_eq_false_iff_eq, Bool.not_true, Bool.not_false, gt_iff_lt, ge_iff_le, Int.not_lt, Int.not_le, ne_eq, Decidable.not_not] at hd) <;> (try simp at hs))
        | refine T_ret ?_
        | refine leave_of (.inr rfl) _ rfl ?_
        | refine leave_of (.inl rfl) _ rfl ?_
        | refine leaveA_of (.inr rfl) _ rfl ?_
        | refine leaveA_of (.inl rfl) _ rfl ?_
        | refine wif_intro ?_ (fun hc => ?_)
        | refine And.intro ?_ ?_
        | intro hc
      | simp (maxSteps := 4000000) only [wops_nil, wops_cons, wstep_none, wrun_mv, wop, aop, ev, look, put_some, writes, ores_some, thenK, List.length_cons, List.length_nil, List.append_nil, List.replicate_zero, if_true, if_false, Nat.reduceEqDiff, Nat.reduceAdd, Nat.zero_add, eq_self, *]
      | simp (disch := omega) only [getD_ints, wrapI]
      | omega)
    refine T_loop_only [1, 4, 5, 6, 7, 8] (fun m s => ∃ a gr o h, a ≤ ph.length ∧ m = ph.length - a ∧ Ps w ph P o1 a 0 gr o h ∧ s = ⟨SLa45 ph.length c a gr, H45 w nil ph o h⟩) ph.length ⟨0, false, o1, h1, Nat.zero_le _, rfl, hps.down, ?_⟩ ?_
    · simp [St.only, get_mk, look]
    clear hps
    rintro m s ⟨a, gr, o, h, ha, rfl, hs, rfl⟩
    by_cases han : a < ph.length
    · refine T_thenR (hl1.down han hs _) fun s' h' => ?_
      obtain ⟨gr', o', h'', hs', e'⟩ := h'
      exact ⟨ph.length - (a + 1), by omega, a + 1, gr', o', h'', by omega, rfl, hs', e'⟩
    · have hae : a = ph.length := by omega
      subst hae
      have hml := mk_len ph.length h
      have hlen2 : o.length ≤ ph.length := by obtain ⟨fr, hf⟩ := hs.fo; exact hf.len
      have hfin : ∃ n', n' < 2 * (ph.length - o1.length) + true.toNat ∧ ∃ gr2 o' h', Pg w ph P o0 o' h' ∧ (gr2 = false → Cl (edN w ph) o' o'.length) ∧ n' = 2 * (ph.length - o'.length) + gr2.toNat ∧ (⟨SLg45 ph.length c gr, H45 w nil ph o h⟩ : St) = ⟨SLg45 ph.length c gr2, H45 w nil ph o' h'⟩ := by
        have hpg : Pg w ph P o0 o h := ⟨hs.fo, hs.bd, fun x hx => hs.pre.2 x (hPg.down.pre x hx), hs.ze⟩
        refine ⟨_, ?_, gr, o, h, hpg, fun hgr => ?_, rfl, rfl⟩
        · cases gr with
          | true => have := hs.gt rfl; simp; omega
          | false => have := (hs.cl rfl).1; subst this; simp
        · subst hgr; exact hs.done.2
      replace hfin := PLift.up hfin
      clear hl1 hK hs hPg
      unfold c45l1
      repeat' (first
        | ((with_reducible refine T_calm ?_ ?_); rfl)
        | with_reducible first
          | refine T_seq ?_
          | refine T_reg ?_
          | refine T_draw ?_
          | refine T_skip ?_
          | refine T_exit ?_
          | refine T_block ?_
          | refine T_cond_t rfl ?_
          | refine T_cond_f rfl ?_
          | refine wdW_cons rfl ?_
          | ((first | refine T_cond rfl (fun hc => ?_) (fun hc => ?_) | refine wguard_split (fun hc => ?_) (fun hc => ?_) | refine wguardX_split (fun hc => ?_) (fun hc => ?_)) <;> have hd := hc <;> (try simp (disch := omega) only [wrapI] at hd) <;> have hs := hd <;> (try simp only [decide_eq_true_eq, decide_eq_false_iff_not, Int.not_lt] at hd) <;> (try simp at hs))
          | refine T_ret ?_
          | refine leave_of (.inr rfl) _ rfl ?_
          | refine leave_of (.inl rfl) _ rfl ?_
          | refine leaveA_of (.inr rfl) _ rfl ?_
          | refine leaveA_of (.inl rfl) _ rfl ?_
          | refine wif_intro ?_ (fun hc => ?_)
          | refine And.intro ?_ ?_
          | intro hc
        | simp (maxSteps := 4000000) only [wops_nil, wops_cons, wstep_none, wrun_mv, wrun_bin, wrun_len, wop, aop, ev, look, put_some, writes, ores_some, ores_map, ores_bind, binV, thenK, blockK, intV, lenOf, hget, List.length_cons, List.length_nil, List.getElem?_cons_zero, List.getElem?_cons_succ, List.append_nil, List.replicate_zero, Option.pure_def, Option.bind_eq_bind, Option.getD_some, Option.map_some, if_true, if_false, Nat.reduceEqDiff, Nat.reduceAdd, Nat.zero_add, Nat.sub_self, reduceCtorEq, eq_self, false_and, Nat.not_lt_zero, *]
        | simp (disch := omega) only [getD_ints, wrapI]
        | omega)
      all_goals first | (simpa [St.only, get_mk, look] using hfin.down)
end Go.Abs
