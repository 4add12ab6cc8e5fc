import Derived.Test.YtpfmamngjefohaaK58
import Derived.Test.YtpfmamngjefohaaK60x
set_option linter.all false
set_option linter.unusedVariables false
set_option linter.unusedSimpArgs false
set_option linter.unusedSectionVars false
namespace Go.Abs
open Go.Proofs
/-! try: the first call -/
set_option maxHeartbeats 8000000 in
theorem k94zloop {b id : Nat} {nil : Bool} {l : List Gr} {d w : Int} {n : Nat} {H : List Blk} (hl : l.length < 1000000) (hR : GOk l) (hd0 : 0 ≤ d ∧ d ≤ 1000000) (hn : n ≤ 1000000) (hdn : d.toNat ≤ n + 1) (hsb : SB id (trL [] 0 d w none) H) (hid : id < H.length) (K : Exit → St → Prop)
    (hK : ∀ s : St, SB id (tr l w (n + 1) d [] 0 none) s.heap ∧ Kp id H s.heap → K .normal s) :
    T none Try.prog muts 115 b c94r1 ⟨SL94z id nil l d w, H⟩ K := by
  have hll := gR_len l
  have hend : ∀ H', SB id (trK l (fun k o' => tr l w n (l.getD k gr0).dm [(k : Int)] (0 + ceil d (l.getD k gr0).rt) o') d l.length (trL [] 0 d w none)) H' → SB id (tr l w (n + 1) d [] 0 none) H' := fun H' h => h
  have hrow : ∀ k, k < l.length → ∀ H' K', SB id (trK l (fun k o' => tr l w n (l.getD k gr0).dm [(k : Int)] (0 + ceil d (l.getD k gr0).rt) o') d k (trL [] 0 d w none)) H' → Kp id H H' →
      T none Try.prog muts 115 b c94l0 ⟨SL94y id nil l d w k, H'⟩ (thenK (fun s' => (SB id (trK l (fun k o' => tr l w n (l.getD k gr0).dm [(k : Int)] (0 + ceil d (l.getD k gr0).rt) o') d (k + 1) (trL [] 0 d w none)) s'.heap ∧ Kp id H s'.heap) ∧ (s'.only [0, 1, 2, 3, 4, 5, 13]).slots = SL94y id nil l d w (k + 1)) K') := fun k hk H' K' h1 h2 => by
    by_cases hlt : (l.getD k gr0).dm < d
    · have h0 := (hR k hk).1.1
      have e : trK l (fun k o' => tr l w n (l.getD k gr0).dm [(k : Int)] (0 + ceil d (l.getD k gr0).rt) o') d (k + 1) (trL [] 0 d w none) = tr l w n (l.getD k gr0).dm [(k : Int)] (0 + ceil d (l.getD k gr0).rt) (trK l (fun k o' => tr l w n (l.getD k gr0).dm [(k : Int)] (0 + ceil d (l.getD k gr0).rt) o') d k (trL [] 0 d w none)) := by
        simp only [trK]
        rw [if_pos hlt]
      rw [e]
      refine T_thenR (k94zgo (H := H') (n := n) hl hk hR hd0 hlt hn (k94 hl hR n _ (hR k hk).1 (by omega)) h1 (by have := h2.len; omega) K') fun s h => ⟨⟨h.1.1, h2.trans h.1.2⟩, h.2⟩
    · have e : ∀ f o, trK l f d (k + 1) o = trK l f d k o := fun f o => by simp only [trK]; rw [if_neg hlt]
      rw [e]
      refine T_thenR (k94zskip hl hk hlt K') fun s h => ⟨⟨by rw [h.1]; exact h1, by rw [h.1]; exact h2⟩, h.2⟩
  generalize (fun k o' => tr l w n (l.getD k gr0).dm [(k : Int)] (0 + ceil d (l.getD k gr0).rt) o') = f at *
  generalize tr l w (n + 1) d [] 0 none = o9 at *
  generalize trL [] 0 d w none = o8 at *
  replace hrow := PLift.up hrow
  replace hend := PLift.up hend
  replace hK := PLift.up hK
  replace hsb := PLift.up hsb
  clear hR hn hdn hid
  unfold c94r1
  repeat' (first
    | ((with_reducible refine T_calm ?_ ?_); rfl)
    | with_reducible first
      | refine T_seq ?_
      | refine T_reg ?_
      | refine T_draw ?_
      | refine T_skip ?_
      | refine T_exit ?_
      | refine T_block ?_
      | refine T_cond_t rfl ?_
      | refine T_cond_f rfl ?_
      | refine wdW_cons rfl ?_
      | ((first | refine T_cond rfl (fun hc => ?_) (fun hc => ?_) | refine wguard_split (fun hc => ?_) (fun hc => ?_) | refine wguardX_split (fun hc => ?_) (fun hc => ?_)) <;> have hd := hc <;> (try simp (disch := omega) only [wrapI] at hd) <;> have hs := hd <;> (try simp only [Bool.not_eq_true', Bool.not_eq_false', Bool.and_eq_true, Bool.and_eq_false_iff, Bool.or_eq_true, Bool.or_eq_false_iff, decide_eq_true_eq, decide_eq_false_iff_not, beq_iff_eq, bne_iff_ne, beq_eq_false_iff_ne, bne_eq_false_iff_eq, Bool.not_true, Bool.not_false, gt_iff_lt, ge_iff_le, Int.not_lt, Int.not_le, ne_eq, Decidable.not_not] at hd) <;> (try simp at hs))
      | refine T_ret ?_
      | refine wif_intro ?_ (fun hc => ?_)
      | refine And.intro ?_ ?_
      | intro hc
    | simp (maxSteps := 4000000) only [wops_nil, wops_cons, wstep_none, wrun_mv, wop, aop, ev, put_some, writes, ores_some, thenK, List.append_nil, List.replicate_zero, *]
    | simp (disch := omega) only [getD_ints, wrapI]
    | omega)
  refine T_forP [0, 1, 2, 3, 4, 5, 13] (SL94y id nil l d w) l.length (fun k H' => SB id (trK l f d k o8) H' ∧ Kp id H H') 0 ?_ ⟨hsb.down, Kp.refl id H⟩ (Nat.zero_le _) ?_
  · simp [St.only, get_mk, look]
  intro k H' hk h
  by_cases hkn : k < l.length
  · exact T_thenR (hrow.down k hkn H' _ h.1 h.2) fun s hs => ⟨hkn, hs.1, hs.2⟩
  · have hke : k = l.length := by omega
    subst hke
    have f9 := PLift.up (fun s he => hK.down s (by rw [show s.heap = H' from he]; exact ⟨hend.down _ h.1, h.2⟩))
    clear hrow hend hK hsb h
    unfold c94l0
    repeat' (first
      | ((with_reducible refine T_calm ?_ ?_); rfl)
      | with_reducible first
        | refine T_seq ?_
        | refine T_reg ?_
        | refine T_draw ?_
        | refine T_skip ?_
        | refine T_exit ?_
        | refine T_block ?_
        | refine T_cond_t rfl ?_
        | refine T_cond_f rfl ?_
        | refine wdW_cons rfl ?_
        | ((first | refine T_cond rfl (fun hc => ?_) (fun hc => ?_) | refine wguard_split (fun hc => ?_) (fun hc => ?_) | refine wguardX_split (fun hc => ?_) (fun hc => ?_)) <;> have hd := hc <;> (try simp (disch := omega) only [wrapI] at hd) <;> have hs := hd <;> (try simp only [decide_eq_true_eq, decide_eq_false_iff_not, Int.not_lt] at hd) <;> (try simp at hs))
        | refine T_ret ?_
        | refine wif_intro ?_ (fun hc => ?_)
        | refine And.intro ?_ ?_
        | intro hc
      | simp (maxSteps := 4000000) only [wops_nil, wops_cons, wstep_none, wrun_mv, wrun_bin, wrun_len, wop, aop, ev, look, put_some, writes, ores_some, ores_map, ores_bind, binV, thenK, blockK, intV, lenOf, hget, List.append_nil, List.replicate_zero, Option.pure_def, Option.bind_eq_bind, Option.map_some, if_true, if_false, Nat.reduceEqDiff, Nat.zero_ne_one, reduceCtorEq, eq_self, false_and, *]
      | simp (disch := omega) only [getD_ints, wrapI]
      | omega)
    all_goals first | exact f9.down _ rfl
set_option maxHeartbeats 8000000 in
theorem k94z {id : Nat} {nil : Bool} {l : List Gr} {w : Int} (hl : l.length < 1000000) (hR : GOk l) (n : Nat) (d : Int) (hd : 0 ≤ d ∧ d ≤ 1000000) (hn : n ≤ 1000000) (hdn : d.toNat ≤ n + 1) (H : List Blk) (hsb : SB id none H) :
    ACall Try.prog 94 [.loc id 0 0, gts nil l, .sl true 0 [], i64 0, i64 d, i64 w] H fun _ H' => SB id (tr l w (n + 1) d [] 0 none) H' ∧ Kp id H H' := by
  refine envOf_all e94 ?_
  rw [c94_cut]
  refine T_seq ?_
  have hid := hsb.lt
  have ha : ∀ K, T none Try.prog muts 115 H.length c94r0 ⟨SL94z id nil l d w, H⟩ (thenK (fun s' => SB id (trL [] 0 d w none) s'.heap ∧ Kp id H s'.heap ∧ (s'.only [0, 1, 2, 3, 4, 5]).slots = SL94z id nil l d w) K) := fun K => by
    by_cases hw : d ≤ w
    · have e : trL [] 0 d w none = some ([], 0) := by unfold trL; rw [if_pos hw]
      rw [e]
      exact k94zst hw hsb K
    · exact k94zno hw hsb K
  refine T_thenR (ha _) fun s h => ?_
  obtain ⟨h1, h2, h3⟩ := h
  refine T_onlyU [0, 1, 2, 3, 4, 5] (S := ⟨SL94z id nil l d w, s.heap⟩) ?_ (k94zloop hl hR hd hn hdn h1 (by have := h2.len; omega) _ fun s' hs' => leaveA_of (.inl rfl) [] rfl ⟨hs'.1, h2.trans hs'.2⟩)
  show (⟨(s.only [0, 1, 2, 3, 4, 5]).slots, s.heap⟩ : St) = _
  rw [h3]
end Go.Abs
