import Derived.Test.YtodheeifecoebaaK277x
set_option linter.all false
set_option linter.unusedVariables false
set_option linter.unusedSimpArgs false
set_option linter.unusedSectionVars false
namespace Go.Abs
open Go.Proofs
/-! ref.Unwrap: do all steps agree? -/
def okAB (w : Int) (ph : List Int) (h : Nat → Int) (a b : Nat) : Prop := edN w ph a b = true → h b - h a = stN ph a b
abbrev SLd45 (n a b : Nat) : List (Nat × AV) := [(1, .loc 0 0 0), (4, .lsl 1 0 n), (12, i64 a), (13, i64 b)]
set_option maxHeartbeats 8000000 in
theorem k45l4 {w : Int} {nil : Bool} {ph : List Int} (hl : ph.length < 1000000) (hp : okPh ph) (hw : 1 ≤ w ∧ w ≤ 1000000) {a b : Nat} {o : List Nat} {h : Nat → Int} (ha : a < ph.length) (hb : b < ph.length) (hB : ∀ c, -1000000000 ≤ h c ∧ h c ≤ 1000000000) (K : Exit → St → Prop)
    (hret : ¬okAB w ph h a b → ∀ σ : St, σ.get 2 = .sl true 0 [] → σ.get 3 = bl false → K .ret σ) :
    T none Try.prog muts 137 0 c45l4 ⟨SLd45 ph.length a b, H45 w nil ph o h⟩ (thenK (fun s' => okAB w ph h a b ∧ s'.only [1, 4, 12, 13] = ⟨SLd45 ph.length a (b + 1), H45 w nil ph o h⟩) K) := by
  have h64 := k64 w nil ph a b hl hp hw
  have hst := stepI_r ph a b
  have hm1 : ((mk ph.length h).map fun x => [i64 x]).getD a [] = [i64 (h a)] := by rw [getD_ints (by rw [mk_len]; exact ha), mk_get ha]
  have hm2 : ((mk ph.length h).map fun x => [i64 x]).getD b [] = [i64 (h b)] := by rw [getD_ints (by rw [mk_len]; exact hb), mk_get hb]
  have hml := mk_len ph.length h
  have hBa := hB a
  have hBb := hB b
  have ew : IntKind.i64.wrap (h b - h a) = h b - h a := wrapI (by omega) (by omega)
  have hnew : edN w ph a b = decide ((refStep w ph a b).2 = 0) := by
    unfold edN refStep
    rw [there_eq hp, there_eq hp]
    cases thereB ph (a : Int) <;> cases thereB ph (b : Int) <;> cases besideB w (a : Int) (b : Int) <;> simp
  have hstp : (refStep w ph a b).2 = 0 → (refStep w ph a b).1 = stepI ph a b := by
    unfold refStep
    split
    · split
      · intro _; rfl
      · intro h; simp at h
    · intro h; simp at h
  have hst0 : stN ph a b = stepI ph a b := rfl
  have fok : (edN w ph a b = true → h b - h a = stN ph a b) → okAB w ph h a b := fun h => h
  rw [hst0] at fok
  have fno : ¬(edN w ph a b = true → h b - h a = stN ph a b) → ¬okAB w ph h a b := fun h => h
  rw [hst0] at fno
  unfold H45
  generalize kn ph.length o = KN at *
  clear hB hp hst0
  generalize hq : refStep w ph a b = q at *
  obtain ⟨s, e⟩ := q
  dsimp only at *
  by_cases he : e = 0
  · have hs := hstp he
    subst he
    subst hs
    have he2 : edN w ph a b = true := by rw [hnew]; rfl
    by_cases hd0 : h b - h a = stepI ph a b
    · have f := PLift.up (fok fun _ => hd0)
      have hd1 : (h b - h a != stepI ph a b) = false := by simp only [bne_eq_false_iff_eq]; exact hd0
      clear hstp fok fno hret hq hnew he2 hd0
      generalize stepI ph a b = s at *
      generalize mk ph.length h = L at *
      generalize h a = u at *
      generalize h b = v at *
      unfold c45l4
      repeat' (first
        | ((with_reducible refine T_calm ?_ ?_); rfl)
        | with_reducible first
          | refine T_seq ?_
          | refine T_reg ?_
          | refine T_draw ?_
          | refine T_skip ?_
          | refine T_exit ?_
          | refine T_block ?_
          | refine T_cond_t rfl ?_
          | refine T_cond_f rfl ?_
          | refine wdW_cons rfl ?_
          | (show wcall _ false (.lit (.func (.func 64) _ _)) _ _ _ _; refine wcall_fn (h64) rfl (by simp [plainL, plain]) ?_)
          | (show wcallX _ false (.lit (.func (.func 64) _ _)) _ _ _ _; refine wcallX_fn (h64) rfl (by simp [plainL, plain, plainR, Int.toNat_natCast]) ?_)
          | ((first | refine T_cond rfl (fun hc => ?_) (fun hc => ?_) | refine wguard_split (fun hc => ?_) (fun hc => ?_) | refine wguardX_split (fun hc => ?_) (fun hc => ?_)) <;> have hd := hc <;> (try simp (disch := omega) only [wrapI] at hd) <;> have hs := hd <;> (try simp only [decide_eq_true_eq, decide_eq_false_iff_not, Int.not_lt] at hd) <;> (try simp at hs))
          | refine T_ret ?_
          | refine leave_of (.inr rfl) _ rfl ?_
          | refine leave_of (.inl rfl) _ rfl ?_
          | refine leaveA_of (.inr rfl) _ rfl ?_
          | refine leaveA_of (.inl rfl) _ rfl ?_
          | refine wif_intro ?_ (fun hc => ?_)
          | refine And.intro ?_ ?_
          | intro hc
        | simp (maxSteps := 4000000) only [wops_nil, wops_cons, wstep_none, wstep_some, wguard_true, wrun_call, wrun_mv, wrun_pick, wrun_bin, wrun_ext, wrun_load, wrun_iaddrS, wrun_len, wop, aop, ev, look, put_some, writes, ores_some, ores_ite_none, ores_map, ores_bind, binV, thenK, blockK, intV, lenOf, value, cut, hget, toLits, mkAgg, List.map_cons, List.map_nil, List.length_cons, List.length_nil, List.getElem?_cons_zero, List.getElem?_cons_succ, List.take_succ_cons, List.take_nil, List.drop_zero, List.append_nil, List.replicate_zero, List.getD_cons_zero, Option.pure_def, Option.bind_eq_bind, Option.getD_some, Option.map_some, Option.map_none, if_true, if_false, Nat.reduceEqDiff, Nat.reduceAdd, Nat.zero_add, reduceCtorEq, Bool.false_eq_true, eq_self, and_true, and_self, decide_true, beq_self_eq_true, freeze, lidsL, lids, List.flatMap_cons, List.flatMap_nil, ren, renL, Int.toNat_natCast, *]
        | simp (disch := omega) only [wrapI]
        | (with_reducible show wcall _ false (.lit (.func (.func 64) _ _)) _ _ _ _; refine wcall_fn (h64) ?_ ?_ ?_; (next => simp [rfyL, rfy, hget, ints, take_rfy, Int.toNat_natCast]); (next => simp [plainL, plain, plainR, Int.toNat_natCast]))
        | (with_reducible show wcallX _ false (.lit (.func (.func 64) _ _)) _ _ _ _; refine wcallX_fn (h64) ?_ ?_ ?_; (next => simp [rfyL, rfy, hget, ints, take_rfy, Int.toNat_natCast]); (next => simp [plainL, plain, plainR, Int.toNat_natCast]))
        | omega)
      all_goals first | exact f.down | (simp [St.only, get_mk, look]; done)
    · have f := PLift.up (hret (fno fun g => hd0 (g he2)))
      have hd1 : (h b - h a != stepI ph a b) = true := by simp only [bne_iff_ne]; exact hd0
      clear hstp fok fno hret hq hnew he2 hd0
      generalize stepI ph a b = s at *
      generalize mk ph.length h = L at *
      generalize h a = u at *
      generalize h b = v at *
      unfold c45l4
      repeat' (first
        | ((with_reducible refine T_calm ?_ ?_); rfl)
        | with_reducible first
          | refine T_seq ?_
          | refine T_reg ?_
          | refine T_draw ?_
          | refine T_skip ?_
          | refine T_exit ?_
          | refine T_block ?_
          | refine T_cond_t rfl ?_
          | refine T_cond_f rfl ?_
          | refine wdW_cons rfl ?_
          | (show wcall _ false (.lit (.func (.func 64) _ _)) _ _ _ _; refine wcall_fn (h64) rfl (by simp [plainL, plain]) ?_)
          | (show wcallX _ false (.lit (.func (.func 64) _ _)) _ _ _ _; refine wcallX_fn (h64) rfl (by simp [plainL, plain, plainR, Int.toNat_natCast]) ?_)
          | ((first | refine T_cond rfl (fun hc => ?_) (fun hc => ?_) | refine wguard_split (fun hc => ?_) (fun hc => ?_) | refine wguardX_split (fun hc => ?_) (fun hc => ?_)) <;> have hd := hc <;> (try simp (disch := omega) only [wrapI] at hd) <;> have hs := hd <;> (try simp only [decide_eq_true_eq, decide_eq_false_iff_not, Int.not_lt] at hd) <;> (try simp at hs))
          | refine T_ret ?_
          | refine wif_intro ?_ (fun hc => ?_)
          | refine And.intro ?_ ?_
          | intro hc
        | simp (maxSteps := 4000000) only [wops_nil, wops_cons, wstep_none, wstep_some, wguard_true, wrun_call, wrun_mv, wrun_pick, wrun_bin, wrun_ext, wrun_load, wrun_iaddrS, wrun_len, wop, aop, ev, look, put_some, writes, ores_some, ores_ite_none, ores_map, ores_bind, binV, thenK, blockK, intV, lenOf, value, cut, hget, toLits, mkAgg, List.map_cons, List.map_nil, List.length_cons, List.length_nil, List.getElem?_cons_zero, List.getElem?_cons_succ, List.take_succ_cons, List.take_nil, List.drop_zero, List.append_nil, List.replicate_zero, List.getD_cons_zero, Option.pure_def, Option.bind_eq_bind, Option.getD_some, Option.map_some, Option.map_none, if_true, if_false, Nat.reduceEqDiff, Nat.reduceAdd, Nat.zero_add, reduceCtorEq, Bool.false_eq_true, eq_self, and_true, and_self, decide_true, beq_self_eq_true, freeze, lidsL, lids, List.flatMap_cons, List.flatMap_nil, ren, renL, Int.toNat_natCast, *]
        | simp (disch := omega) only [getD_ints, wrapI]
        | (with_reducible show wcall _ false (.lit (.func (.func 64) _ _)) _ _ _ _; refine wcall_fn (h64) ?_ ?_ ?_; (next => simp [rfyL, rfy, hget, ints, take_rfy, Int.toNat_natCast]); (next => simp [plainL, plain, plainR, Int.toNat_natCast]))
        | (with_reducible show wcallX _ false (.lit (.func (.func 64) _ _)) _ _ _ _; refine wcallX_fn (h64) ?_ ?_ ?_; (next => simp [rfyL, rfy, hget, ints, take_rfy, Int.toNat_natCast]); (next => simp [plainL, plain, plainR, Int.toNat_natCast]))
        | omega)
      all_goals first | exact f.down _ rfl rfl
  · have heb : (e == 0) = false := by simp only [beq_eq_false_iff_ne]; exact he
    have f := PLift.up (fok fun g => by rw [hnew, decide_eq_false he] at g; simp at g)
    clear hstp fok fno hret hq hnew he
    generalize mk ph.length h = L at *
    unfold c45l4
    repeat' (first
      | ((with_reducible refine T_calm ?_ ?_); rfl)
      | with_reducible first
        | refine T_seq ?_
        | refine T_reg ?_
        | refine T_draw ?_
        | refine T_skip ?_
        | refine T_exit ?_
        | refine T_block ?_
        | refine T_cond_t rfl ?_
        | refine T_cond_f rfl ?_
        | refine wdW_cons rfl ?_
        | (show wcall _ false (.lit (.func (.func 64) _ _)) _ _ _ _; refine wcall_fn (h64) rfl (by simp [plainL, plain]) ?_)
        | (show wcallX _ false (.lit (.func (.func 64) _ _)) _ _ _ _; refine wcallX_fn (h64) rfl (by simp [plainL, plain, plainR, Int.toNat_natCast]) ?_)
        | ((first | refine T_cond rfl (fun hc => ?_) (fun hc => ?_) | refine wguard_split (fun hc => ?_) (fun hc => ?_) | refine wguardX_split (fun hc => ?_) (fun hc => ?_)) <;> have hd := hc <;> (try simp (disch := omega) only [wrapI] at hd) <;> have hs := hd <;> (try simp only [decide_eq_true_eq, decide_eq_false_iff_not, Int.not_lt] at hd) <;> (try simp at hs))
        | refine T_ret ?_
        | refine leave_of (.inr rfl) _ rfl ?_
        | refine leave_of (.inl rfl) _ rfl ?_
        | refine leaveA_of (.inr rfl) _ rfl ?_
        | refine leaveA_of (.inl rfl) _ rfl ?_
        | refine wif_intro ?_ (fun hc => ?_)
        | refine And.intro ?_ ?_
        | intro hc
      | simp (maxSteps := 4000000) only [wops_nil, wops_cons, wstep_none, wstep_some, wguard_ft, wrun_call, wrun_mv, wrun_pick, wrun_bin, wrun_ext, wrun_load, wrun_len, wop, aop, ev, look, put_some, writes, ores_some, ores_map, ores_bind, binV, thenK, blockK, intV, lenOf, value, cut, hget, toLits, mkAgg, List.map_cons, List.map_nil, List.length_cons, List.length_nil, List.getElem?_cons_zero, List.getElem?_cons_succ, List.take_succ_cons, List.take_nil, List.drop_zero, List.append_nil, List.replicate_zero, List.getD_cons_zero, Option.pure_def, Option.bind_eq_bind, Option.getD_some, Option.map_some, Option.map_none, if_true, if_false, Nat.reduceEqDiff, Nat.reduceAdd, Nat.zero_add, reduceCtorEq, Bool.false_eq_true, eq_self, decide_true, freeze, lidsL, lids, List.flatMap_cons, List.flatMap_nil, ren, renL, *]
      | simp (disch := omega) only [wrapI]
      | (with_reducible show wcall _ false (.lit (.func (.func 64) _ _)) _ _ _ _; refine wcall_fn (h64) ?_ ?_ ?_; (next => simp [rfyL, rfy, hget, ints, take_rfy, Int.toNat_natCast]); (next => simp [plainL, plain, plainR, Int.toNat_natCast]))
      | (with_reducible show wcallX _ false (.lit (.func (.func 64) _ _)) _ _ _ _; refine wcallX_fn (h64) ?_ ?_ ?_; (next => simp [rfyL, rfy, hget, ints, take_rfy, Int.toNat_natCast]); (next => simp [plainL, plain, plainR, Int.toNat_natCast]))
      | omega)
    all_goals first | exact f.down | (simp [St.only, get_mk, look]; done)
abbrev SLe45 (n a : Nat) : List (Nat × AV) := [(1, .loc 0 0 0), (4, .lsl 1 0 n), (12, i64 a)]
set_option maxHeartbeats 8000000 in
theorem k45l5 {w : Int} {nil : Bool} {ph : List Int} (hl : ph.length < 1000000) (hp : okPh ph) (hw : 1 ≤ w ∧ w ≤ 1000000) {a : Nat} {o : List Nat} {h : Nat → Int} (ha : a < ph.length) (hB : ∀ c, -1000000000 ≤ h c ∧ h c ≤ 1000000000) (K : Exit → St → Prop)
    (hret : ∀ b, ¬okAB w ph h a b → ∀ σ : St, σ.get 2 = .sl true 0 [] → σ.get 3 = bl false → K .ret σ) :
    T none Try.prog muts 137 0 c45l5 ⟨SLe45 ph.length a, H45 w nil ph o h⟩ (thenK (fun s' => (∀ b, a < b → b < ph.length → okAB w ph h a b) ∧ s'.only [1, 4, 12] = ⟨SLe45 ph.length (a + 1), H45 w nil ph o h⟩) K) := by
  have hml := mk_len ph.length h
  have hl4 := fun {b} hb K hret => k45l4 (nil := nil) hl hp hw (a := a) (b := b) (o := o) (h := h) ha hb hB K hret
  replace hl4 := PLift.up @hl4
  replace hret := PLift.up hret
  clear hB hp
  unfold c45l5
  repeat' (first
    | ((with_reducible refine T_calm ?_ ?_); rfl)
    | with_reducible first
      | refine T_seq ?_
      | refine T_reg ?_
      | refine T_draw ?_
      | refine T_skip ?_
      | refine T_exit ?_
      | refine T_block ?_
      | refine T_cond_t rfl ?_
      | refine T_cond_f rfl ?_
      | refine wdW_cons rfl ?_
      | ((first | refine T_cond rfl (fun hc => ?_) (fun hc => ?_) | refine wguard_split (fun hc => ?_) (fun hc => ?_) | refine wguardX_split (fun hc => ?_) (fun hc => ?_)) <;> have hd := hc <;> (try simp (disch := omega) only [wrapI] at hd) <;> have hs := hd <;> (try simp only [decide_eq_true_eq, decide_eq_false_iff_not, Int.not_lt] at hd) <;> (try simp at hs))
      | refine T_ret ?_
      | refine leave_of (.inr rfl) _ rfl ?_
      | refine leave_of (.inl rfl) _ rfl ?_
      | refine leaveA_of (.inr rfl) _ rfl ?_
      | refine leaveA_of (.inl rfl) _ rfl ?_
      | refine wif_intro ?_ (fun hc => ?_)
      | refine And.intro ?_ ?_
      | intro hc
    | simp (maxSteps := 4000000) only [wops_nil, wops_cons, wstep_none, wrun_mv, wrun_bin, wrun_len, wop, aop, ev, look, put_some, writes, ores_some, ores_map, ores_bind, binV, thenK, intV, lenOf, hget, List.length_cons, List.length_nil, List.getElem?_cons_zero, List.getElem?_cons_succ, List.append_nil, List.replicate_zero, Option.pure_def, Option.bind_eq_bind, Option.getD_some, Option.map_some, if_true, if_false, Nat.reduceEqDiff, Nat.reduceAdd, Nat.zero_add, reduceCtorEq, eq_self, decide_true, *]
    | simp (disch := omega) only [wrapI]
    | omega)
  refine T_loop_only [1, 4, 12, 13] (fun m s => ∃ b, a < b ∧ b ≤ ph.length ∧ m = ph.length - b ∧ (∀ b', a < b' → b' < b → okAB w ph h a b') ∧ s = ⟨SLd45 ph.length a b, H45 w nil ph o h⟩) (ph.length - (a + 1)) ⟨a + 1, by omega, by omega, rfl, fun b' h1 h2 => by omega, ?_⟩ ?_
  · simp [St.only, get_mk, look]
  clear hml
  rintro m s ⟨b, hab, hb, rfl, hpv, rfl⟩
  by_cases hbn : b < ph.length
  · refine T_thenR (hl4.down hbn _ fun hno σ h2 h3 => hret.down b hno σ h2 h3) fun s' h' => ?_
    refine ⟨ph.length - (b + 1), by omega, b + 1, by omega, by omega, rfl, fun b' h1 h2 => ?_, h'.2⟩
    rcases Nat.lt_succ_iff_lt_or_eq.1 h2 with h | rfl
    · exact hpv b' h1 h
    · exact h'.1
  · have hbe : b = ph.length := by omega
    subst hbe
    have hml := mk_len ph.length h
    replace hpv := PLift.up hpv
    clear hl4 hret
    unfold c45l4
    repeat' (first
      | ((with_reducible refine T_calm ?_ ?_); rfl)
      | with_reducible first
        | refine T_seq ?_
        | refine T_reg ?_
        | refine T_draw ?_
        | refine T_skip ?_
        | refine T_exit ?_
        | refine T_block ?_
        | refine T_cond_t rfl ?_
        | refine T_cond_f rfl ?_
        | refine wdW_cons rfl ?_
        | ((first | refine T_cond rfl (fun hc => ?_) (fun hc => ?_) | refine wguard_split (fun hc => ?_) (fun hc => ?_) | refine wguardX_split (fun hc => ?_) (fun hc => ?_)) <;> have hd := hc <;> (try simp (disch := omega) only [wrapI] at hd) <;> have hs := hd <;> (try simp only [decide_eq_true_eq, decide_eq_false_iff_not, Int.not_lt] at hd) <;> (try simp at hs))
        | refine T_ret ?_
        | refine leave_of (.inr rfl) _ rfl ?_
        | refine leave_of (.inl rfl) _ rfl ?_
        | refine leaveA_of (.inr rfl) _ rfl ?_
        | refine leaveA_of (.inl rfl) _ rfl ?_
        | refine wif_intro ?_ (fun hc => ?_)
        | refine And.intro ?_ ?_
        | intro hc
      | simp (maxSteps := 4000000) only [wops_nil, wops_cons, wstep_none, wrun_mv, wrun_bin, wrun_len, wop, aop, ev, look, put_some, writes, ores_some, ores_map, ores_bind, binV, thenK, blockK, intV, lenOf, hget, List.length_cons, List.length_nil, List.getElem?_cons_zero, List.getElem?_cons_succ, List.append_nil, List.replicate_zero, Option.pure_def, Option.bind_eq_bind, Option.getD_some, Option.map_some, if_true, if_false, Nat.reduceEqDiff, Nat.reduceAdd, Nat.zero_add, Nat.sub_self, reduceCtorEq, eq_self, false_and, Nat.not_lt_zero, *]
      | simp (disch := omega) only [wrapI]
      | omega)
    all_goals first | exact hpv.down _ (by assumption) (by assumption) | (simp [St.only, get_mk, look]; done)
end Go.Abs
