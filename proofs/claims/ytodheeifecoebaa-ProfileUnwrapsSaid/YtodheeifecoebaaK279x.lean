import Derived.Test.YtodheeifecoebaaK278x
set_option linter.all false
set_option linter.unusedVariables false
set_option linter.unusedSimpArgs false
set_option linter.unusedSectionVars false
namespace Go.Abs
open Go.Proofs
/-! ref.Unwrap: the whole function -/
/-- what it finds: a search that reaches all cells; its heights, or none where they do not agree with all steps -/
def Q45 (w : Int) (ph : List Int) (r : AV) (H : List Blk) : Prop :=
  ∃ o h, Pc w ph ph.length o h ∧ ((PotG (edN w ph) (stN ph) h ∧ ∃ id, r = .tup [.lsl id 0 ph.length, bl true] ∧ H[id]? = some (.cells true false 1 ((mk ph.length h).map fun x => [i64 x]))) ∨ (¬PotG (edN w ph) (stN ph) h ∧ r = .tup [.sl true 0 [], bl false]))
theorem pot_all {w : Int} {ph : List Int} {h : Nat → Int} (hs : ∀ a, a < ph.length → ∀ b, a < b → b < ph.length → okAB w ph h a b) : PotG (edN w ph) (stN ph) h := fun a b he => by
  have hg := grid_gr w ph
  have ha := (hg.inn a b he).1
  have hb := (hg.inn b a (by rw [hg.sym]; exact he)).1
  rcases Nat.lt_trichotomy a b with h1 | h1 | h1
  · exact hs a ha b h1 hb he
  · subst h1
    have := hg.anti a a he
    omega
  · have h2 := hs b hb a h1 ha (by rw [hg.sym]; exact he)
    have h3 := hg.anti a b he
    rw [h3] at h2; omega
set_option maxHeartbeats 8000000 in
theorem k45 (w : Int) (nil : Bool) (ph : List Int) (hl : ph.length < 1000000) (hp : okPh ph) (hw : 1 ≤ w ∧ w ≤ 1000000) : ACall Try.prog 45 [fmap w nil ph] [] (Q45 w ph) := by
  refine envOf_all e45 ?_
  have hl3 := fun {c o h} hc hs K => k45l3 (nil := nil) hl hp hw (c := c) (o := o) (h := h) hc hs K
  have hl5 := fun {a o h} ha hB K hret => k45l5 (nil := nil) hl hp hw (a := a) (o := o) (h := h) ha hB K hret
  have hfirst : Pc w ph 0 [] (fun _ => 0) := ⟨⟨fun _ => 0, Fo.nil⟩, fun c => by simp, fun i a b hi => by simp at hi, fun b hb => by omega, fun c _ => rfl⟩
  have ez : (mk ph.length fun _ => 0).map (fun x => [i64 x]) = List.replicate ph.length [i64 0] := by
    refine List.ext_getElem (by simp [mk_len]) fun i h1 h2 => ?_
    simp only [List.length_map, mk_len] at h1
    simp [mk]
  have ek : kn ph.length [] = List.replicate ph.length [bl false] := by
    refine List.ext_getElem (by simp [kn]) fun i h1 h2 => ?_
    simp [kn]
  replace hl3 := PLift.up @hl3
  replace hl5 := PLift.up @hl5
  replace hfirst := PLift.up hfirst
  replace ez := PLift.up ez
  replace ek := PLift.up ek
  clear hp
  unfold c45
  repeat' (first
    | ((with_reducible refine T_calm ?_ ?_); rfl)
    | with_reducible first
      | refine T_seq ?_
      | refine T_reg ?_
      | refine T_draw ?_
      | refine T_skip ?_
      | refine T_exit ?_
      | refine T_block ?_
      | refine T_cond_t rfl ?_
      | refine T_cond_f rfl ?_
      | refine wdW_cons rfl ?_
      | ((first | refine T_cond rfl (fun hc => ?_) (fun hc => ?_) | refine wguard_split (fun hc => ?_) (fun hc => ?_) | refine wguardX_split (fun hc => ?_) (fun hc => ?_)) <;> have hd := hc <;> (try simp (disch := omega) only [wrapI] at hd) <;> have hs := hd <;> (try simp only [Bool.not_eq_true', Bool.not_eq_false', Bool.and_eq_true, Bool.and_eq_false_iff, Bool.or_eq_true, Bool.or_eq_false_iff, decide_eq_true_eq, decide_eq_false_iff_not, beq_iff_eq, bne_iff_ne, beq_eq_false_iff_ne, bne_eq_false_iff_eq, Bool.not_true, Bool.not_false, gt_iff_lt, ge_iff_le, Int.not_lt, Int.not_le, ne_eq, Decidable.not_not] at hd) <;> (try simp at hs))
      | refine T_ret ?_
      | refine wif_intro ?_ (fun hc => ?_)
      | refine And.intro ?_ ?_
      | intro hc
    | simp (maxSteps := 4000000) only [wops_nil, wops_cons, wstep_none, wrun_mv, wrun_load, wrun_faddr, wrun_len, wrun_box, wrun_mks, wrunX_mv, wrunX_load, wrunX_faddr, wrunX_len, wrunX_mks, wdW_nil, wstepX_none, wop, aop, ev, look, put_some, writes, ores_some, ores_ite_none, thenK, intV, lenOf, value, cut, hget, AV.parts, isOne, toLits, mkAgg, List.map_cons, List.map_nil, List.length_cons, List.length_nil, List.getElem?_cons_zero, List.getElem?_cons_succ, List.set_cons_zero, List.set_cons_succ, List.take_succ_cons, List.take_nil, List.drop_succ_cons, List.drop_zero, List.cons_append, List.nil_append, List.append_nil, List.replicate_zero, List.replicate_succ, List.getD_cons_zero, List.zipIdx_cons, List.zipIdx_nil, List.all_cons, List.all_nil, List.length_map, Option.pure_def, Option.bind_eq_bind, Option.getD_some, Option.map_some, Option.bind_some, if_true, if_false, Nat.reduceEqDiff, Nat.reduceAdd, Nat.add_zero, Nat.zero_add, Nat.zero_ne_one, reduceCtorEq, Bool.and_true, Bool.false_eq_true, eq_self, true_and, and_true, and_self, List.all_cons, Int.toNat_natCast, *]
    | simp (disch := omega) only [getD_ints, wrapI]
    | omega)
  refine T_loop_only [1, 4, 5, 6] (fun m s => ∃ c o h, c ≤ ph.length ∧ m = ph.length - c ∧ Pc w ph c o h ∧ s = ⟨SLc45 ph.length c, H45 w nil ph o h⟩) ph.length ⟨0, [], fun _ => 0, Nat.zero_le _, rfl, hfirst.down, ?_⟩ ?_
  · unfold H45
    rw [ez.down, ek.down]
    simp [St.only, get_mk, look]
  clear hfirst ez ek
  rintro m s ⟨c, o, h, hc, rfl, hs, rfl⟩
  by_cases hcn : c < ph.length
  · refine T_thenR (hl3.down hcn hs _) fun s' h' => ?_
    obtain ⟨o', h'', hs', e'⟩ := h'
    exact ⟨ph.length - (c + 1), by omega, c + 1, o', h'', by omega, rfl, hs', e'⟩
  have hce : c = ph.length := by omega
  subst hce
  have hml := mk_len ph.length h
  have hB : ∀ c, -1000000000 ≤ h c ∧ h c ≤ 1000000000 := fun c => by
    have h1 := hs.bd c
    have h2 : o.length ≤ ph.length := by obtain ⟨fr, hf⟩ := hs.fo; exact hf.len
    omega
  have hno : ∀ a b, ¬okAB w ph h a b → ∀ (σ : St), σ.get 2 = .sl true 0 [] → σ.get 3 = bl false → leaveA [.tmp 2, .tmp 3] (Q45 w ph) .ret σ := fun a b hnot σ h2 h3 =>
    ⟨[.sl true 0 [], bl false], by simp [resL, resAV, h2, h3], o, h, hs, .inr ⟨fun hpot => hnot (hpot a b), rfl⟩⟩
  have hyes : (∀ a, a < ph.length → ∀ b, a < b → b < ph.length → okAB w ph h a b) → ∀ σ : St, σ.get 4 = .lsl 1 0 ph.length → σ.heap = H45 w nil ph o h → Q45 w ph (tupOf [.lsl 1 0 ph.length, bl true]) σ.heap := fun hall σ _ he =>
    ⟨o, h, hs, .inl ⟨pot_all hall, 1, rfl, by rw [he]; rfl⟩⟩
  replace hB := PLift.up hB
  replace hno := PLift.up hno
  replace hyes := PLift.up hyes
  clear hs hl3
  unfold c45l3
  repeat' (first
    | ((with_reducible refine T_calm ?_ ?_); rfl)
    | with_reducible first
      | refine T_seq ?_
      | refine T_reg ?_
      | refine T_draw ?_
      | refine T_skip ?_
      | refine T_exit ?_
      | refine T_block ?_
      | refine T_cond_t rfl ?_
      | refine T_cond_f rfl ?_
      | refine wdW_cons rfl ?_
      | ((first | refine T_cond rfl (fun hc => ?_) (fun hc => ?_) | refine wguard_split (fun hc => ?_) (fun hc => ?_) | refine wguardX_split (fun hc => ?_) (fun hc => ?_)) <;> have hd := hc <;> (try simp (disch := omega) only [wrapI] at hd) <;> have hs := hd <;> (try simp only [decide_eq_true_eq, decide_eq_false_iff_not, Int.not_lt] at hd) <;> (try simp at hs))
      | refine T_ret ?_
      | refine wif_intro ?_ (fun hc => ?_)
      | refine And.intro ?_ ?_
      | intro hc
    | simp (maxSteps := 4000000) only [wops_nil, wops_cons, wstep_none, wrun_mv, wrun_bin, wrun_len, wop, aop, ev, look, put_some, writes, ores_some, ores_map, ores_bind, binV, thenK, blockK, intV, lenOf, hget, List.length_cons, List.length_nil, List.getElem?_cons_zero, List.getElem?_cons_succ, List.append_nil, List.replicate_zero, Option.pure_def, Option.bind_eq_bind, Option.getD_some, Option.map_some, if_true, if_false, Nat.reduceEqDiff, Nat.reduceAdd, Nat.zero_add, Nat.sub_self, reduceCtorEq, eq_self, false_and, Nat.not_lt_zero, *]
    | simp (disch := omega) only [getD_ints, wrapI]
    | omega)
  refine T_loop_only [1, 4, 12] (fun m s => ∃ a, a ≤ ph.length ∧ m = ph.length - a ∧ (∀ a', a' < a → ∀ b, a' < b → b < ph.length → okAB w ph h a' b) ∧ s = ⟨SLe45 ph.length a, H45 w nil ph o h⟩) ph.length ⟨0, Nat.zero_le _, rfl, fun a' h => by omega, ?_⟩ ?_
  · simp [St.only, get_mk, look]
  rintro m s ⟨a, ha, rfl, hs, rfl⟩
  by_cases han : a < ph.length
  · refine T_thenR (hl5.down han hB.down _ fun b hnot σ h2 h3 => hno.down a b hnot σ h2 h3) fun s' h' => ?_
    refine ⟨ph.length - (a + 1), by omega, a + 1, by omega, rfl, fun a' h1 b h2 h3 => ?_, h'.2⟩
    rcases Nat.lt_succ_iff_lt_or_eq.1 h1 with h | rfl
    · exact hs a' h b h2 h3
    · exact h'.1 b h2 h3
  · have hae : a = ph.length := by omega
    subst hae
    have hfin := PLift.up (hyes.down hs)
    clear hl5 hno hyes hs
    unfold c45l5
    repeat' (first
      | ((with_reducible refine T_calm ?_ ?_); rfl)
      | with_reducible first
        | refine T_seq ?_
        | refine T_reg ?_
        | refine T_draw ?_
        | refine T_skip ?_
        | refine T_exit ?_
        | refine T_block ?_
        | refine T_cond_t rfl ?_
        | refine T_cond_f rfl ?_
        | refine wdW_cons rfl ?_
        | ((first | refine T_cond rfl (fun hc => ?_) (fun hc => ?_) | refine wguard_split (fun hc => ?_) (fun hc => ?_) | refine wguardX_split (fun hc => ?_) (fun hc => ?_)) <;> have hd := hc <;> (try simp (disch := omega) only [wrapI] at hd) <;> have hs := hd <;> (try simp only [Bool.not_eq_true', Bool.not_eq_false', Bool.and_eq_true, Bool.and_eq_false_iff, Bool.or_eq_true, Bool.or_eq_false_iff, decide_eq_true_eq, decide_eq_false_iff_not, beq_iff_eq, bne_iff_ne, beq_eq_false_iff_ne, bne_eq_false_iff_eq, Bool.not_true, Bool.not_false, gt_iff_lt, ge_iff_le, Int.not_lt, Int.not_le, ne_eq, Decidable.not_not] at hd) <;> (try simp at hs))
        | refine T_ret ?_
        | refine wif_intro ?_ (fun hc => ?_)
        | refine And.intro ?_ ?_
        | intro hc
      | simp (maxSteps := 4000000) only [wops_nil, wops_cons, wstep_none, wrun_mv, wrun_bin, wrun_len, wop, aop, ev, look, put_some, writes, ores_some, ores_map, ores_bind, binV, thenK, blockK, intV, lenOf, hget, List.length_cons, List.length_nil, List.getElem?_cons_zero, List.getElem?_cons_succ, List.append_nil, List.replicate_zero, Option.pure_def, Option.bind_eq_bind, Option.getD_some, Option.map_some, if_true, if_false, Nat.reduceEqDiff, Nat.reduceAdd, Nat.zero_add, Nat.sub_self, reduceCtorEq, eq_self, false_and, Nat.not_lt_zero, *]
      | simp (disch := omega) only [getD_ints, wrapI]
      | omega)
    all_goals first | exact ⟨_, rfl, hfin.down _ rfl rfl⟩
end Go.Abs
