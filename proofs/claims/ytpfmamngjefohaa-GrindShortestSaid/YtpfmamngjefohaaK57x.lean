import Derived.Test.YtpfmamngjefohaaK56x
set_option linter.all false
set_option linter.unusedVariables false
set_option linter.unusedSimpArgs false
set_option linter.unusedSectionVars false
namespace Go.Abs
open Go.Proofs
/-! try -/
set_option maxHeartbeats 8000000 in
theorem k94loop {b id j : Nat} {nil : Bool} {l : List Gr} {q : List Int} {m d w : Int} {n : Nat} {o : Pol} {H : List Blk} (hl : l.length < 1000000) (hR : GOk l) (hd0 : 0 ≤ d ∧ d ≤ 1000000) (hq : q.length + n < 3000000) (hm : 0 ≤ m ∧ m + 1000000 * (n : Int) ≤ 4000000000000000000) (hdn : d.toNat ≤ n)
    (hI : ∀ n', n = n' + 1 → ∀ k, k < l.length → (l.getD k gr0).dm < d → IH94 id nil l w n' (l.getD k gr0).dm) (hsb : SB id (trL q m d w o) H) (hr : RowAt j q H) (hne : j ≠ id) (hid : id < H.length) (K : Exit → St → Prop)
    (hK : ∀ s : St, SB id (tr l w n d q m o) s.heap ∧ Kp id H s.heap → K .normal s) :
    T none Try.prog muts 115 b c94r1 ⟨SL94 id j nil l q m d w, H⟩ K := by
  have hll := gR_len l
  have hend : ∀ H', SB id (trK l (fun k o' => tr l w (n - 1) (l.getD k gr0).dm (q ++ [(k : Int)]) (m + ceil d (l.getD k gr0).rt) o') d l.length (trL q m d w o)) H' → SB id (tr l w n d q m o) H' := fun H' h => by
    cases n with
    | succ n => exact h
    | zero =>
      have : ∀ k, k ≤ l.length → ∀ f o, trK l f d k o = o := by
        intro k
        induction k with
        | zero => intro _ f o; rfl
        | succ k ih =>
          intro hk f o
          have := (hR k (by omega)).1.1
          simp only [trK]
          rw [if_neg (by omega), ih (by omega)]
      rw [this _ (Nat.le_refl _)] at h
      exact h
  have hrow : ∀ k, k < l.length → ∀ H' K', SB id (trK l (fun k o' => tr l w (n - 1) (l.getD k gr0).dm (q ++ [(k : Int)]) (m + ceil d (l.getD k gr0).rt) o') d k (trL q m d w o)) H' → Kp id H H' →
      T none Try.prog muts 115 b c94l0 ⟨SL94k id j nil l q m d w k, H'⟩ (thenK (fun s' => (SB id (trK l (fun k o' => tr l w (n - 1) (l.getD k gr0).dm (q ++ [(k : Int)]) (m + ceil d (l.getD k gr0).rt) o') d (k + 1) (trL q m d w o)) s'.heap ∧ Kp id H s'.heap) ∧ (s'.only [0, 1, 2, 3, 4, 5, 13]).slots = SL94k id j nil l q m d w (k + 1)) K') := fun k hk H' K' h1 h2 => by
    by_cases hlt : (l.getD k gr0).dm < d
    · have h0 := (hR k hk).1.1
      obtain ⟨n', rfl⟩ : ∃ n', n = n' + 1 := ⟨n - 1, by omega⟩
      obtain ⟨bj, hj⟩ := hr.kp h2 hne
      have e : trK l (fun k o' => tr l w (n' + 1 - 1) (l.getD k gr0).dm (q ++ [(k : Int)]) (m + ceil d (l.getD k gr0).rt) o') d (k + 1) (trL q m d w o) = tr l w n' (l.getD k gr0).dm (q ++ [(k : Int)]) (m + ceil d (l.getD k gr0).rt) (trK l (fun k o' => tr l w (n' + 1 - 1) (l.getD k gr0).dm (q ++ [(k : Int)]) (m + ceil d (l.getD k gr0).rt) o') d k (trL q m d w o)) := by
        simp only [trK]
        rw [if_pos hlt]; rfl
      rw [e]
      have hsb2 : SB id (trK l (fun k o' => tr l w (n' + 1 - 1) (l.getD k gr0).dm (q ++ [(k : Int)]) (m + ceil d (l.getD k gr0).rt) o') d k (trL q m d w o)) (freeze1 H' j) := by
        generalize trK l (fun k o' => tr l w (n' + 1 - 1) (l.getD k gr0).dm (q ++ [(k : Int)]) (m + ceil d (l.getD k gr0).rt) o') d k (trL q m d w o) = o2 at *
        cases o2 with
        | none =>
          show (freeze1 H' j)[id]? = _
          rw [freeze1_ne (Ne.symm hne)]; exact h1
        | some x =>
          obtain ⟨i, bi, g1, g2⟩ := h1
          by_cases hij : i = j
          · subst hij; exact ⟨i, false, by rw [freeze1_ne (Ne.symm hne)]; exact g1, freeze1_of g2⟩
          · exact ⟨i, bi, by rw [freeze1_ne (Ne.symm hne)]; exact g1, by rw [freeze1_ne hij]; exact g2⟩
      refine T_weak (weak_freeze j) ?_
      refine T_thenR (k94go (H := freeze1 H' j) (n := n') hl hk hR hd0 hlt hq (by push_cast at hm; omega) (hI n' rfl k hk hlt) hsb2 (freeze1_of hj) hne (by rw [freeze1_len]; have := h2.len; omega) K') fun s h => ⟨⟨h.1.1, (h2.trans (Kp.fr id j H')).trans h.1.2⟩, h.2⟩
    · have e : ∀ f o, trK l f d (k + 1) o = trK l f d k o := fun f o => by simp only [trK]; rw [if_neg hlt]
      rw [e]
      refine T_thenR (k94skip hl hk hlt K') fun s h => ⟨⟨by rw [h.1]; exact h1, by rw [h.1]; exact h2⟩, h.2⟩
  generalize (fun k o' => tr l w (n - 1) (l.getD k gr0).dm (q ++ [(k : Int)]) (m + ceil d (l.getD k gr0).rt) o') = f at *
  generalize tr l w n d q m o = o9 at *
  generalize trL q m d w o = o8 at *
  replace hrow := PLift.up hrow
  replace hend := PLift.up hend
  replace hK := PLift.up hK
  replace hsb := PLift.up hsb
  clear hI hR hr hm hq hdn hid
  unfold c94r1
  repeat' (first
    | ((with_reducible refine T_calm ?_ ?_); rfl)
    | with_reducible first
      | refine T_seq ?_
      | refine T_reg ?_
      | refine T_draw ?_
      | refine T_skip ?_
      | refine T_exit ?_
      | refine T_block ?_
      | refine T_cond_t rfl ?_
      | refine T_cond_f rfl ?_
      | refine wdW_cons rfl ?_
      | ((first | refine T_cond rfl (fun hc => ?_) (fun hc => ?_) | refine wguard_split (fun hc => ?_) (fun hc => ?_) | refine wguardX_split (fun hc => ?_) (fun hc => ?_)) <;> have hd := hc <;> (try simp (disch := omega) only [wrapI] at hd) <;> have hs := hd <;> (try simp only [Bool.not_eq_true', Bool.not_eq_false', Bool.and_eq_true, Bool.and_eq_false_iff, Bool.or_eq_true, Bool.or_eq_false_iff, decide_eq_true_eq, decide_eq_false_iff_not, beq_iff_eq, bne_iff_ne, beq_eq_false_iff_ne, bne_eq_false_iff_eq, Bool.not_true, Bool.not_false, gt_iff_lt, ge_iff_le, Int.not_lt, Int.not_le, ne_eq, Decidable.not_not] at hd) <;> (try simp at hs))
      | refine T_ret ?_
      | refine wif_intro ?_ (fun hc => ?_)
      | refine And.intro ?_ ?_
      | intro hc
    | simp (maxSteps := 4000000) only [wops_nil, wops_cons, wstep_none, wrun_mv, wop, aop, ev, put_some, writes, ores_some, thenK, List.append_nil, List.replicate_zero, *]
    | simp (disch := omega) only [getD_ints, wrapI]
    | omega)
  refine T_forP [0, 1, 2, 3, 4, 5, 13] (SL94k id j nil l q m d w) l.length (fun k H' => SB id (trK l f d k o8) H' ∧ Kp id H H') 0 ?_ ⟨hsb.down, Kp.refl id H⟩ (Nat.zero_le _) ?_
  · simp [St.only, get_mk, look]
  intro k H' hk h
  by_cases hkn : k < l.length
  · exact T_thenR (hrow.down k hkn H' _ h.1 h.2) fun s hs => ⟨hkn, hs.1, hs.2⟩
  · have hke : k = l.length := by omega
    subst hke
    have f9 := PLift.up (fun s he => hK.down s (by rw [show s.heap = H' from he]; exact ⟨hend.down _ h.1, h.2⟩))
    clear hrow hend hK hsb h
    unfold c94l0
    repeat' (first
      | ((with_reducible refine T_calm ?_ ?_); rfl)
      | with_reducible first
        | refine T_seq ?_
        | refine T_reg ?_
        | refine T_draw ?_
        | refine T_skip ?_
        | refine T_exit ?_
        | refine T_block ?_
        | refine T_cond_t rfl ?_
        | refine T_cond_f rfl ?_
        | refine wdW_cons rfl ?_
        | ((first | refine T_cond rfl (fun hc => ?_) (fun hc => ?_) | refine wguard_split (fun hc => ?_) (fun hc => ?_) | refine wguardX_split (fun hc => ?_) (fun hc => ?_)) <;> have hd := hc <;> (try simp (disch := omega) only [wrapI] at hd) <;> have hs := hd <;> (try simp only [decide_eq_true_eq, decide_eq_false_iff_not, Int.not_lt] at hd) <;> (try simp at hs))
        | refine T_ret ?_
        | refine wif_intro ?_ (fun hc => ?_)
        | refine And.intro ?_ ?_
        | intro hc
      | simp (maxSteps := 4000000) only [wops_nil, wops_cons, wstep_none, wrun_mv, wrun_bin, wrun_len, wop, aop, ev, look, put_some, writes, ores_some, ores_map, ores_bind, binV, thenK, blockK, intV, lenOf, hget, List.append_nil, List.replicate_zero, Option.pure_def, Option.bind_eq_bind, Option.map_some, if_true, if_false, Nat.reduceEqDiff, Nat.zero_ne_one, reduceCtorEq, eq_self, false_and, *]
      | simp (disch := omega) only [getD_ints, wrapI]
      | omega)
    all_goals first | exact f9.down _ rfl
end Go.Abs
