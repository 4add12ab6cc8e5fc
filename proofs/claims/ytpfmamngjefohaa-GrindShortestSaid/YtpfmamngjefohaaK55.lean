import Derived.Test.YtpfmamngjefohaaK53x
import Derived.Test.YtpfmamngjefohaaK54x
set_option linter.all false
set_option linter.unusedVariables false
set_option linter.unusedSimpArgs false
set_option linter.unusedSectionVars false
namespace Go.Abs
open Go.Proofs
/-! try: the look, all cases -/
theorem k94a {b : Nat} {id j : Nat} {nil : Bool} {l : List Gr} {q : List Int} {m d w : Int} {o : Pol} {H : List Blk} (hq : q.length < 3000000) (hsb : SB id o H) (hr : RowAt j q H) (hne : j ≠ id) (K : Exit → St → Prop) :
    T none Try.prog muts 115 b c94r0 ⟨SL94 id j nil l q m d w, H⟩ (thenK (fun s' => SB id (trL q m d w o) s'.heap ∧ Kp id H s'.heap ∧ (s'.only [0, 1, 2, 3, 4, 5]).slots = SL94 id j nil l q m d w) K) := by
  by_cases hw : d ≤ w
  · obtain ⟨bj, hj⟩ := hr
    cases o with
    | none =>
      have hsb' : H[id]? = some (.cells true false 3 [[.sl true 0 [], i64 0, bl false]]) := hsb
      have e : trL q m d w none = some (q, m) := by unfold trL; rw [if_pos hw]
      rw [e]
      refine T_weak (weak_freeze j) ?_
      refine T_thenR (k94st (H := freeze1 H j) hw hq (by rw [freeze1_ne (Ne.symm hne)]; exact hsb') (freeze1_of hj) K) fun s h => ⟨h.1, (Kp.fr id j H).trans h.2.1, h.2.2⟩
    | some x =>
      obtain ⟨p, M⟩ := x
      obtain ⟨i, bi, hid, hi⟩ := hsb
      dsimp only at hid hi
      have hin : i ≠ id := fun h => by subst h; rw [hid] at hi; simp at hi
      have e : trL q m d w (some (p, M)) = if befB q m p M = true then some (q, m) else some (p, M) := by unfold trL; rw [if_pos hw]
      rw [e]
      refine T_weak (weak_freeze j) ?_
      refine T_weak (weak_freeze i) ?_
      have hid2 : (freeze1 (freeze1 H j) i)[id]? = some (.cells true false 3 [[.lsl i 0 p.length, i64 M, bl true]]) := by
        rw [freeze1_ne (Ne.symm hin), freeze1_ne (Ne.symm hne)]; exact hid
      have hi2 : (freeze1 (freeze1 H j) i)[i]? = some (.cells false false 1 (p.map fun x => [i64 x])) := by
        by_cases hij : i = j
        · subst hij; exact freeze1_of (freeze1_of hi)
        · exact freeze1_of (o := bi) (by rw [freeze1_ne hij]; exact hi)
      have hj2 : (freeze1 (freeze1 H j) i)[j]? = some (.cells false false 1 (q.map fun x => [i64 x])) := by
        by_cases hij : j = i
        · subst hij; exact freeze1_of (freeze1_of hj)
        · rw [freeze1_ne hij]; exact freeze1_of hj
      have hk : Kp id H (freeze1 (freeze1 H j) i) := (Kp.fr id j H).trans (Kp.fr id i _)
      have fin : ∀ y, (T none Try.prog muts 115 b c94r0 ⟨SL94 id j nil l q m d w, freeze1 (freeze1 H j) i⟩ (thenK (fun s' => SB id (some y) s'.heap ∧ Kp id (freeze1 (freeze1 H j) i) s'.heap ∧ (s'.only [0, 1, 2, 3, 4, 5]).slots = SL94 id j nil l q m d w) K)) → T none Try.prog muts 115 b c94r0 ⟨SL94 id j nil l q m d w, freeze1 (freeze1 H j) i⟩ (thenK (fun s' => SB id (some y) s'.heap ∧ Kp id H s'.heap ∧ (s'.only [0, 1, 2, 3, 4, 5]).slots = SL94 id j nil l q m d w) K) :=
        fun y h => T_thenR h fun s h => ⟨h.1, hk.trans h.2.1, h.2.2⟩
      by_cases h1 : m < M
      · have eb : befB q m p M = true := by unfold befB; rw [if_pos (by omega)]; simp [h1]
        rw [if_pos eb]
        exact fin _ (k94A hw hq hid2 hi2 hj2 h1 K)
      · by_cases h2 : M < m
        · have eb : befB q m p M = false := by unfold befB; rw [if_pos (by omega)]; simp; omega
          rw [if_neg (by rw [eb]; simp)]
          exact fin _ (k94B hw hq hid2 hi2 hj2 h2 K)
        · have hm : m = M := by omega
          by_cases h3 : q.length < p.length
          · have eb : befB q m p M = true := by unfold befB; rw [if_neg (fun h => h hm), if_pos (by omega)]; simp; omega
            rw [if_pos eb]
            exact fin _ (k94C hw hq hid2 hi2 hj2 ⟨hm, h3⟩ K)
          · by_cases h4 : p.length < q.length
            · have eb : befB q m p M = false := by unfold befB; rw [if_neg (fun h => h hm), if_pos (by omega)]; simp; omega
              rw [if_neg (by rw [eb]; simp)]
              exact fin _ (k94D hw hq hid2 hi2 hj2 ⟨hm, h4⟩ K)
            · have hl : q.length = p.length := by omega
              have eb : befB q m p M = decide (cmpL q p < 0) := by unfold befB; rw [if_neg (fun h => h hm), if_neg (fun h => h hl)]
              cases h5 : decide (cmpL q p < 0) with
              | true =>
                rw [if_pos (by rw [eb]; exact h5)]
                exact fin _ (k94E hw hq hid2 hi2 hj2 ⟨hm, hl, h5⟩ K)
              | false =>
                rw [if_neg (by rw [eb, h5]; simp)]
                exact fin _ (k94F hw hq hid2 hi2 hj2 ⟨hm, hl, h5⟩ K)
  · exact k94no hw hsb K
end Go.Abs
