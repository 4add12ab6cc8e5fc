import Derived.Test.YtpfmamngjefohaaK57x
set_option linter.all false
set_option linter.unusedVariables false
set_option linter.unusedSimpArgs false
set_option linter.unusedSectionVars false
namespace Go.Abs
open Go.Proofs
/-! try, by induction on the depth -/
theorem SB.lt {id : Nat} {o : Pol} {H : List Blk} (h : SB id o H) : id < H.length := by
  cases o with
  | none => exact (List.getElem?_eq_some_iff.1 h).1
  | some x => obtain ⟨_, _, h1, _⟩ := h; exact (List.getElem?_eq_some_iff.1 h1).1
theorem k94 {id : Nat} {nil : Bool} {l : List Gr} {w : Int} (hl : l.length < 1000000) (hR : GOk l) (n : Nat) (d : Int) (hd : 0 ≤ d ∧ d ≤ 1000000) (hdn : d.toNat ≤ n) : IH94 id nil l w n d := fun H j q m o hq hm hsb hr hne => by
  have hI : ∀ n', n = n' + 1 → ∀ k, k < l.length → (l.getD k gr0).dm < d → IH94 id nil l w n' (l.getD k gr0).dm := fun n' e k hk hlt => k94 hl hR n' _ (hR k hk).1 (by have := (hR k hk).1; omega)
  refine envOf_all e94 ?_
  rw [c94_cut]
  refine T_seq ?_
  have hid := hsb.lt
  refine T_thenR (k94a (by omega) hsb hr hne _) fun s h => ?_
  obtain ⟨h1, h2, h3⟩ := h
  refine T_onlyU [0, 1, 2, 3, 4, 5] (S := ⟨SL94 id j nil l q m d w, s.heap⟩) ?_ (k94loop hl hR hd hq hm hdn hI h1 (hr.kp h2 hne) hne (by have := h2.len; omega) _ fun s' hs' => leaveA_of (.inl rfl) [] rfl ⟨hs'.1, h2.trans hs'.2⟩)
  show (⟨(s.only [0, 1, 2, 3, 4, 5]).slots, s.heap⟩ : St) = _
  rw [h3]
termination_by n
decreasing_by omega
end Go.Abs
