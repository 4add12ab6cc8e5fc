import Derived.Test.YtodheeifecoebaaK273x
set_option linter.all false
set_option linter.unusedVariables false
set_option linter.unusedSimpArgs false
set_option linter.unusedSectionVars false
namespace Go.Abs
/-! ref.Unwrap: what a pass over all pairs keeps (no program in sight) -/
structure Ps (w : Int) (ph : List Int) (P : Nat → Int) (o0 : List Nat) (a b : Nat) (gr : Bool) (o : List Nat) (h : Nat → Int) : Prop where
  fo : ∃ fr, Fo ph.length (thN ph) (edN w ph) (stN ph) P o h fr
  bd : ∀ c, -(1000 + 500 * (o.length : Int)) ≤ h c ∧ h c ≤ 1000 + 500 * (o.length : Int)
  pre : o0.length ≤ o.length ∧ ∀ c, c ∈ o0 → c ∈ o
  gt : gr = true → o0.length < o.length
  cl : gr = false → o = o0 ∧ ∀ a' b', (a' < a ∨ (a' = a ∧ b' < b)) → a' ∈ o → edN w ph a' b' = true → b' ∈ o
  ze : ∀ c, c ∉ o → h c = 0
section
variable {w : Int} {ph : List Int} {P : Nat → Int} {o0 : List Nat} {a b : Nat} {gr : Bool} {o : List Nat} {h : Nat → Int}
theorem Ps.step (hs : Ps w ph P o0 a b gr o h) : Ps w ph P o0 a (b + 1) (gr || newB w ph o a b) (if newB w ph o a b then o ++ [b] else o) (if newB w ph o a b then upd h b (h a + stN ph a b) else h) := by
  obtain ⟨⟨fr, fo⟩, bd, pre, gt, cl, ze⟩ := hs
  cases hn : newB w ph o a b with
  | true =>
    simp only [if_true, Bool.or_true]
    unfold newB at hn
    simp only [Bool.and_eq_true, decide_eq_true_eq, Bool.not_eq_true', decide_eq_false_iff_not] at hn
    obtain ⟨⟨h1, h2⟩, h3⟩ := hn
    have hg := grid_gr w ph
    have hbn := hg.inn b a (by rw [hg.sym]; exact h3)
    have hst := stepI_r ph (a : Int) (b : Int)
    refine ⟨⟨upd fr b a, fo.add h2 hbn (.inr ⟨a, h1, rfl, h3, rfl⟩)⟩, fun c => ?_, ⟨by simp; omega, fun c hc => by simp [pre.2 c hc]⟩, fun _ => by simp; omega, fun h => by simp at h, fun c hc => by
      simp only [List.mem_append, List.mem_singleton, not_or] at hc
      rw [upd_ne _ hc.2]; exact ze c hc.1⟩
    have hba := bd a
    have hbc := bd c
    have hl : (((o ++ [b]).length : Nat) : Int) = (o.length : Int) + 1 := by simp
    rw [hl]
    unfold upd
    split
    · show _ ∧ _
      have : stN ph a b = stepI ph a b := rfl
      rw [this]; omega
    · omega
  | false =>
    simp only [Bool.or_false, Bool.false_eq_true, if_false]
    refine ⟨⟨fr, fo⟩, bd, pre, gt, fun hgr => ⟨(cl hgr).1, fun a' b' hab ha' he => ?_⟩, ze⟩
    by_cases hc : a' = a ∧ b' = b
    · obtain ⟨rfl, rfl⟩ := hc
      unfold newB at hn
      rw [decide_eq_true ha', he] at hn
      simpa using hn
    · exact (cl hgr).2 a' b' (by omega) ha' he
theorem Ps.row (hs : Ps w ph P o0 a ph.length gr o h) : Ps w ph P o0 (a + 1) 0 gr o h := by
  obtain ⟨fo, bd, pre, gt, cl, ze⟩ := hs
  refine ⟨fo, bd, pre, gt, fun hgr => ⟨(cl hgr).1, fun a' b' hab ha' he => ?_⟩, ze⟩
  have hg := grid_gr w ph
  have hbn := (hg.inn b' a' (by rw [hg.sym]; exact he)).1
  exact (cl hgr).2 a' b' (by omega) ha' he
/-- a pass without a find: all neighbours are reached -/
theorem Ps.done (hs : Ps w ph P o0 ph.length b false o h) : o = o0 ∧ Cl (edN w ph) o o.length := by
  obtain ⟨_, _, _, _, cl, _⟩ := hs
  obtain ⟨h1, h2⟩ := cl rfl
  refine ⟨h1, fun i x y hi hx he => ?_⟩
  have hg := grid_gr w ph
  exact h2 x y (.inl (hg.inn x y he).1) (List.mem_of_getElem? hx) he
end
end Go.Abs
namespace Go.Abs
open Go.Proofs
/-! ref.Unwrap: one row of a pass -/
theorem T_thenR {P : Program} {muts : List FuncId} {N b : Nat} {σ : St} {K : Exit → St → Prop} {md : Option Nat} {ac : ACode} {A B : St → Prop} (h : T md P muts N b ac σ (thenK A K)) (hab : ∀ s, A s → B s) : T md P muts N b ac σ (thenK B K) :=
  T_mono h fun e s hs => by
    cases e with
    | normal => exact hab s hs
    | _ => exact hs
abbrev SLa45 (n c a : Nat) (gr : Bool) : List (Nat × AV) := [(1, .loc 0 0 0), (4, .lsl 1 0 n), (5, .lsl 2 0 n), (6, i64 c), (7, bl gr), (8, i64 a)]
set_option maxHeartbeats 8000000 in
theorem k45l1 {w : Int} {nil : Bool} {ph : List Int} (hl : ph.length < 1000000) (hp : okPh ph) (hw : 1 ≤ w ∧ w ≤ 1000000) {P : Nat → Int} {o0 : List Nat} {c a : Nat} {gr : Bool} {o : List Nat} {h : Nat → Int} (ha : a < ph.length) (hs : Ps w ph P o0 a 0 gr o h) (K : Exit → St → Prop) :
    T none Try.prog muts 137 0 c45l1 ⟨SLa45 ph.length c a gr, H45 w nil ph o h⟩ (thenK (fun s' => ∃ gr o h, Ps w ph P o0 (a + 1) 0 gr o h ∧ s'.only [1, 4, 5, 6, 7, 8] = ⟨SLa45 ph.length c (a + 1) gr, H45 w nil ph o h⟩) K) := by
  have hml := mk_len ph.length h
  have hl0 := fun {c a b gr o h} ha hb hB K => k45l0 (nil := nil) hl hp hw (c := c) (a := a) (b := b) (gr := gr) (o := o) (h := h) ha hb hB K
  replace hl0 := PLift.up @hl0
  have hPs := PLift.up hs
  clear hs
  unfold c45l1
  repeat' (first
    | ((with_reducible refine T_calm ?_ ?_); rfl)
    | with_reducible first
      | refine T_seq ?_
      | refine T_reg ?_
      | refine T_draw ?_
      | refine T_skip ?_
      | refine T_exit ?_
      | refine T_block ?_
      | refine T_cond_t rfl ?_
      | refine T_cond_f rfl ?_
      | refine wdW_cons rfl ?_
      | ((first | refine T_cond rfl (fun hc => ?_) (fun hc => ?_) | refine wguard_split (fun hc => ?_) (fun hc => ?_) | refine wguardX_split (fun hc => ?_) (fun hc => ?_)) <;> have hd := hc <;> (try simp (disch := omega) only [wrapI] at hd) <;> have hs := hd <;> (try simp only [decide_eq_true_eq, decide_eq_false_iff_not, Int.not_lt] at hd) <;> (try simp at hs))
      | refine T_ret ?_
      | refine leave_of (.inr rfl) _ rfl ?_
      | refine leave_of (.inl rfl) _ rfl ?_
      | refine leaveA_of (.inr rfl) _ rfl ?_
      | refine leaveA_of (.inl rfl) _ rfl ?_
      | refine wif_intro ?_ (fun hc => ?_)
      | refine And.intro ?_ ?_
      | intro hc
    | simp (maxSteps := 4000000) only [wops_nil, wops_cons, wstep_none, wrun_mv, wrun_bin, wrun_len, wop, aop, ev, look, put_some, writes, ores_some, ores_map, ores_bind, binV, thenK, intV, lenOf, hget, List.length_cons, List.length_nil, List.getElem?_cons_zero, List.getElem?_cons_succ, List.append_nil, List.replicate_zero, Option.pure_def, Option.bind_eq_bind, Option.getD_some, Option.map_some, if_true, if_false, Nat.reduceEqDiff, Nat.reduceAdd, Nat.zero_add, reduceCtorEq, eq_self, decide_true, *]
    | simp (disch := omega) only [getD_ints, wrapI]
    | omega)
  refine T_loop_only [1, 4, 5, 6, 7, 8, 9] (fun m s => ∃ b gr o h, b ≤ ph.length ∧ m = ph.length - b ∧ Ps w ph P o0 a b gr o h ∧ s = ⟨SL45 ph.length c a b gr, H45 w nil ph o h⟩) ph.length ⟨0, gr, o, h, Nat.zero_le _, rfl, hPs.down, ?_⟩ ?_
  · simp [St.only, get_mk, look]
  clear hPs hml
  rintro m s ⟨b, gr, o, h, hb, rfl, hs, rfl⟩
  have hlen : o.length ≤ ph.length := by obtain ⟨fr, hf⟩ := hs.fo; exact hf.len
  have hB := hs.bd a
  by_cases hbn : b < ph.length
  · refine T_thenR (hl0.down ha hbn (by omega) _) fun s' h' => ?_
    refine ⟨ph.length - (b + 1), by omega, b + 1, _, _, _, by omega, rfl, hs.step, ?_⟩
    rw [h']
    split <;> rfl
  · have hbe : b = ph.length := by omega
    subst hbe
    have hr := PLift.up hs.row
    have hml := mk_len ph.length h
    clear hl0 hs
    unfold c45l0
    repeat' (first
      | ((with_reducible refine T_calm ?_ ?_); rfl)
      | with_reducible first
        | refine T_seq ?_
        | refine T_reg ?_
        | refine T_draw ?_
        | refine T_skip ?_
        | refine T_exit ?_
        | refine T_block ?_
        | refine T_cond_t rfl ?_
        | refine T_cond_f rfl ?_
        | refine wdW_cons rfl ?_
        | ((first | refine T_cond rfl (fun hc => ?_) (fun hc => ?_) | refine wguard_split (fun hc => ?_) (fun hc => ?_) | refine wguardX_split (fun hc => ?_) (fun hc => ?_)) <;> have hd := hc <;> (try simp (disch := omega) only [wrapI] at hd) <;> have hs := hd <;> (try simp only [decide_eq_true_eq, decide_eq_false_iff_not, Int.not_lt] at hd) <;> (try simp at hs))
        | refine T_ret ?_
        | refine leave_of (.inr rfl) _ rfl ?_
        | refine leave_of (.inl rfl) _ rfl ?_
        | refine leaveA_of (.inr rfl) _ rfl ?_
        | refine leaveA_of (.inl rfl) _ rfl ?_
        | refine wif_intro ?_ (fun hc => ?_)
        | refine And.intro ?_ ?_
        | intro hc
      | simp (maxSteps := 4000000) only [wops_nil, wops_cons, wstep_none, wrun_mv, wrun_bin, wrun_len, wop, aop, ev, look, put_some, writes, ores_some, ores_map, ores_bind, binV, thenK, blockK, intV, lenOf, hget, List.length_cons, List.length_nil, List.getElem?_cons_zero, List.getElem?_cons_succ, List.append_nil, List.replicate_zero, Option.pure_def, Option.bind_eq_bind, Option.getD_some, Option.map_some, if_true, if_false, Nat.reduceEqDiff, Nat.reduceAdd, Nat.zero_add, Nat.sub_self, reduceCtorEq, eq_self, false_and, Nat.not_lt_zero, *]
      | simp (disch := omega) only [wrapI]
      | omega)
    all_goals first | exact ⟨gr, o, h, hr.down, by simp [St.only, get_mk, look]⟩
end Go.Abs
