import Derived.Test.YtookdheldelepaaGreatDoorKP6x
set_option linter.all false
set_option linter.unusedVariables false
set_option linter.unusedSimpArgs false
set_option linter.unusedSectionVars false
namespace Go.Abs
open Go.Proofs
/-! the reference's Parse -/
def lnsOf : List ByteArray → Option (List Ln)
  | [] => some []
  | p :: r => match rdS (pieces p ⟨#[32]⟩), lnsOf r with
    | some x, some l => some (x :: l)
    | _, _ => none
theorem lnsOf_len : ∀ {P : List ByteArray} {M : List Ln}, lnsOf P = some M → M.length = P.length
  | [], M, h => by unfold lnsOf at h; obtain rfl := Option.some.inj h; rfl
  | p :: r, M, h => by
    unfold lnsOf at h
    cases h1 : rdS (pieces p ⟨#[32]⟩) with
    | none => rw [h1] at h; simp at h
    | some x =>
      cases h2 : lnsOf r with
      | none => rw [h1, h2] at h; simp at h
      | some l =>
        rw [h1, h2] at h
        obtain rfl := Option.some.inj h
        simp [lnsOf_len h2]
theorem lnsOf_snoc {P : List ByteArray} {k : Nat} {w : ByteArray} {M : List Ln} {x : Ln} (hk : P[k]? = some w) (h : lnsOf (P.take k) = some M) (hv : rdS (pieces w ⟨#[32]⟩) = some x) : lnsOf (P.take (k + 1)) = some (M ++ [x]) := by
  induction P generalizing k M with
  | nil => simp at hk
  | cons y r ih =>
    cases k with
    | zero =>
      simp at hk; subst hk
      have h0 : M = [] := by simp [lnsOf] at h; exact h
      subst h0
      simp [lnsOf, hv]
    | succ k =>
      simp only [List.take_succ_cons] at h ⊢
      unfold lnsOf at h ⊢
      cases h1 : rdS (pieces y ⟨#[32]⟩) with
      | none => rw [h1] at h; simp at h
      | some z =>
        cases h2 : lnsOf (r.take k) with
        | none => rw [h1, h2] at h; simp at h
        | some t =>
          rw [h1, h2] at h
          obtain rfl := Option.some.inj h
          rw [ih (by simpa using hk) h2]
          rfl
abbrev stE (M : List Ln) : Int := sE (M.map skz)
inductive PR (P : List ByteArray) : List AV → Prop
  | bad {k : Nat} {M : List Ln} {w : ByteArray} (hk : k + 1 < P.length) (h : lnsOf (P.take k) = some M) (hw : P[k]? = some w) (hn : rdS (pieces w ⟨#[32]⟩) = none) : PR P [.sl true 0 [], i64 ((k : Int) + 1), i64 7]
  | cut {M : List Ln} {w : ByteArray} (h : lnsOf (P.take (P.length - 1)) = some M) (hw : P[P.length - 1]? = some w) (hz : w.size ≠ 0) : PR P [.sl true 0 [], i64 (P.length : Nat), i64 7]
  | no {M : List Ln} {w : ByteArray} (h : lnsOf (P.take (P.length - 1)) = some M) (hw : P[P.length - 1]? = some w) (hz : w.size = 0) (he : stE M ≠ 0) : PR P [.sl true 0 [], i64 0, i64 (stE M)]
  | yes {M : List Ln} {w : ByteArray} (h : lnsOf (P.take (P.length - 1)) = some M) (hw : P[P.length - 1]? = some w) (hz : w.size = 0) (he : stE M = 0) : PR P [stz M, i64 0, i64 0]
theorem PR.ex {P : List ByteArray} (hP : P ≠ []) : ∃ ws, PR P ws := by
  have key : ∀ k, k + 1 ≤ P.length → (∃ ws, PR P ws) ∨ ∃ M, lnsOf (P.take k) = some M := by
    intro k
    induction k with
    | zero => intro _; exact .inr ⟨[], rfl⟩
    | succ k ih =>
      intro hk
      rcases ih (by omega) with h | ⟨M, hM⟩
      · exact .inl h
      · obtain ⟨w, hw⟩ : ∃ w, P[k]? = some w := ⟨P[k], List.getElem?_eq_getElem (by omega)⟩
        cases hr : rdS (pieces w ⟨#[32]⟩) with
        | none => exact .inl ⟨_, .bad (by omega) hM hw hr⟩
        | some x => exact .inr ⟨_, lnsOf_snoc hw hM hr⟩
  have hpos := List.length_pos_iff.2 hP
  rcases key (P.length - 1) (by omega) with h | ⟨M, hM⟩
  · exact h
  · obtain ⟨w, hw⟩ : ∃ w, P[P.length - 1]? = some w := ⟨P[P.length - 1], List.getElem?_eq_getElem (by omega)⟩
    by_cases hz : w.size = 0
    · by_cases he : stE M = 0
      · exact ⟨_, .yes hM hw hz he⟩
      · exact ⟨_, .no hM hw hz he⟩
    · exact ⟨_, .cut hM hw hz⟩
set_option maxHeartbeats 8000000 in
theorem k18R {P : List ByteArray} {M : List Ln} {io : Nat} {H : List Blk} {w : ByteArray} {k : Nat} (hk : P[k]? = some w) (hk1 : k + 1 < P.length) (hl : P.length ≤ 1000000) (hw : w.size ≤ 1000) (hJ : J18 P M io H) (hM : M.length = k) :
    T none Tryz.prog muts 58 0 c18l0 ⟨SLp P k io, H⟩ (fun e s => (rdS (pieces w ⟨#[32]⟩) = none ∧ e = .ret ∧ look s.slots 2 = .sl true 0 [] ∧ look s.slots 3 = i64 ((k : Int) + 1) ∧ look s.slots 4 = i64 7) ∨
      (∃ x, rdS (pieces w ⟨#[32]⟩) = some x ∧ e = .normal ∧ ∃ io', J18 P (M ++ [x]) io' s.heap ∧ (s.only [5, 6, 7]).slots = SLp P (k + 1) io')) := by
  have h51 := k51 hw
  cases hr : rdS (pieces w ⟨#[32]⟩) with
  | none =>
    rw [hr] at h51
    exact T_mono (k18n hk hk1 hl hJ hM h51) fun e s h => .inl ⟨rfl, h⟩
  | some x =>
    rw [hr] at h51
    obtain ⟨n, l⟩ := x
    by_cases hm : M = []
    · by_cases h0 : l = []
      · exact T_mono (k18f0e hk hk1 hl hJ hM hm h0 h51) fun e s h => .inr ⟨_, rfl, h⟩
      · exact T_mono (k18f0v hk hk1 hl hJ hM hm h0 h51) fun e s h => .inr ⟨_, rfl, h⟩
    · by_cases h0 : l = []
      · exact T_mono (k18f1e hk hk1 hl hJ hM hm h0 h51) fun e s h => .inr ⟨_, rfl, h⟩
      · exact T_mono (k18f1v hk hk1 hl hJ hM hm h0 h51) fun e s h => .inr ⟨_, rfl, h⟩
set_option maxHeartbeats 8000000 in
theorem k18x {P : List ByteArray} {io : Nat} {H : List Blk} {k : Nat} (hk1 : k + 1 = P.length) (hl : P.length ≤ 1000000) (hb : H[0]? = some (.cells true false 1 (P.map fun x => [strV x]))) :
    T none Tryz.prog muts 58 0 c18l0 ⟨SLp P k io, H⟩ (fun e s => e = .exit 0 ∧ s.heap = H ∧ (s.only [5, 6, 7]).slots = SLp P k io) := by
  have hd : decide ((k : Int) < (P.length : Int) - 1) = false := decide_eq_false (by omega)
  have hw : IntKind.i64.wrap ((P.length : Int) - 1) = (P.length : Int) - 1 := wrapI (by omega) (by omega)
  unfold c18l0
  simp only [SLp]
  generalize ouV io k = ov at *
  repeat' (first | (with_reducible first | refine T_seq ?_ | refine T_reg ?_ | refine T_skip ?_ | refine T_exit ?_ | refine T_block ?_ | refine T_cond_t rfl ?_ | refine T_cond_f rfl ?_ | refine T_ret ?_ | refine leave_of (.inr rfl) _ rfl ?_ | refine leave_of (.inl rfl) _ rfl ?_ | refine wif_intro ?_ (fun hc => ?_) | refine And.intro ?_ ?_ | intro hc) | simp (maxSteps := 4000000) only [wops_nil, wops_cons, wstep_none, wrun_mv, wrun_bin, wrun_len, wop, aop, ev, look, put_some, writes, ores_some, ores_map, ores_bind, binV, thenK, intV, lenOf, hget, List.append_nil, List.replicate_zero, Option.pure_def, Option.bind_eq_bind, Option.getD_some, Option.map_some, if_true, if_false, Nat.reduceEqDiff, reduceCtorEq, eq_self, true_and, *] | simp (disch := omega) only [getD_ints, wrapI] | omega)
  all_goals first | (simp [St.only, get_mk, look]; done)
set_option maxHeartbeats 8000000 in
theorem k18loop {P : List ByteArray} (hl : P.length ≤ 1000000) (hP : P ≠ []) (hsz : ∀ w ∈ P, w.size ≤ 1000) {H : List Blk} (hJ : J18 P [] 0 H) {σ : St} (h0 : σ.only [5, 6, 7] = ⟨SLp P 0 0, H⟩) (K : Exit → St → Prop)
    (hB : ∀ k M w τ, k + 1 < P.length → lnsOf (P.take k) = some M → P[k]? = some w → rdS (pieces w ⟨#[32]⟩) = none → look τ.slots 2 = .sl true 0 [] → look τ.slots 3 = i64 ((k : Int) + 1) → look τ.slots 4 = i64 7 → K .ret τ)
    (hE : ∀ M io τ, lnsOf (P.take (P.length - 1)) = some M → J18 P M io τ.heap → (τ.only [5, 6, 7]).slots = SLp P (P.length - 1) io → K (.exit 0) τ) : T none Tryz.prog muts 58 0 (.loop c18l0) σ K := by
  have hpos := List.length_pos_iff.2 hP
  refine T_loop_only [5, 6, 7] (fun m s => ∃ k M io, k + 1 ≤ P.length ∧ m = P.length - 1 - k ∧ lnsOf (P.take k) = some M ∧ J18 P M io s.heap ∧ s.slots = SLp P k io) (P.length - 1) ⟨0, [], 0, by omega, rfl, rfl, by rw [h0]; exact hJ, by rw [h0]⟩ ?_
  rintro m ⟨sl, H'⟩ ⟨k, M, io, hk, rfl, hM, hJ', hsl⟩
  dsimp only at hJ' hsl
  subst hsl
  have hMl : M.length = k := by rw [lnsOf_len hM, List.length_take]; omega
  by_cases hk1 : k + 1 < P.length
  · obtain ⟨w, hw⟩ : ∃ w, P[k]? = some w := ⟨P[k], List.getElem?_eq_getElem (by omega)⟩
    refine T_mono (k18R hw hk1 hl (hsz w (List.mem_of_getElem? hw)) hJ' hMl) fun e s h => ?_
    rcases h with ⟨h1, rfl, h2, h3, h4⟩ | ⟨x, h1, rfl, io', h2, h3⟩
    · exact hB k M w s hk1 hM hw h1 h2 h3 h4
    · exact ⟨P.length - 1 - (k + 1), by omega, k + 1, M ++ [x], io', by omega, rfl, lnsOf_snoc hw hM h1, h2, h3⟩
  · have hke : k + 1 = P.length := by omega
    refine T_mono (k18x (io := io) (H := H') hke hl hJ'.l) fun e s h => ?_
    obtain ⟨rfl, rfl, h2⟩ := h
    have hk2 : k = P.length - 1 := by omega
    subst hk2
    exact hE M io s hM hJ' h2
end Go.Abs
