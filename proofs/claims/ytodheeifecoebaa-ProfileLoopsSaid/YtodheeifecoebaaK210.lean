import Derived.Test.YtodheeifecoebaaK201
set_option linter.all false
set_option linter.unusedVariables false
set_option linter.unusedSimpArgs false
set_option linter.unusedSectionVars false
namespace Go.Abs
section
variable {P : Program} {s : List (Nat × AV)} {h : List Blk} {K : St → Prop} {g : FuncId} {args args' : List AV} {e : Option Nat} {d : Nat}
theorem T_forP {P : Program} {muts : List FuncId} {N b : Nat} {σ : St} {K : Exit → St → Prop} {md : Option Nat} {p : ACode} (ts : List Nat) (SL : Nat → List (Nat × AV)) (m : Nat) (I : Nat → List Blk → Prop) (k0 : Nat) (h0 : (σ.only ts).slots = SL k0) (hI0 : I k0 σ.heap) (hk0 : k0 ≤ m)
    (h : ∀ k H, k ≤ m → I k H → T md P muts N b p ⟨SL k, H⟩ (thenK (fun s' => k < m ∧ I (k + 1) s'.heap ∧ (s'.only ts).slots = SL (k + 1)) K)) : T md P muts N b (.loop p) σ K :=
  T_loop_only ts (fun n s => ∃ k H, k ≤ m ∧ I k H ∧ n = m - k ∧ s = ⟨SL k, H⟩) (m - k0) ⟨k0, σ.heap, hk0, hI0, rfl, by rw [← h0]; rfl⟩ fun n s ⟨k, H, hk, hI, hn, hs⟩ => by
    subst hs hn
    refine T_mono (h k H hk hI) fun e s' hK => ?_
    cases e with
    | normal => obtain ⟨h1, h2, h3⟩ := hK; exact ⟨m - (k + 1), by omega, k + 1, s'.heap, h1, h2, rfl, by rw [← h3]; rfl⟩
    | _ => exact hK
theorem Ext.cell {H H' : List Blk} (hx : Ext H H') {id : Nat} {o n : Bool} {sz : Nat} {els : List (List AV)} (h : H[id]? = some (.cells o n sz els)) : ∃ o', H'[id]? = some (.cells o' n sz els) := hx _ _ _ _ _ h
end
end Go.Abs
