import Derived.Test.YtodheeifecoebaaGreatDoorPCmin
import Derived.Test.YtodheeifecoebaaGreatDoorK7x
import Derived.Test.YtodheeifecoebaaGreatDoorK40x
set_option linter.all false
set_option linter.unusedVariables false
set_option linter.unusedSimpArgs false
set_option linter.unusedSectionVars false
namespace Go.Abs
open Go.Proofs
theorem IterOk.weaken {P : Program} {gf : FuncId} {first cap : List AV} {n : Nat} {E E' : Nat → List Blk → List AV → Prop} {B B' : List Blk → Prop} (h : IterOk P gf first cap n E B) (hE : ∀ k H a, E k H a → E' k H a) (hB : ∀ H, B' H → B H) : IterOk P gf first cap n E' B' :=
  fun hl J Jx H h1 h2 h200 => h hl J Jx H (fun k H' hj => ⟨(h1 k H' hj).1, hB _ (h1 k H' hj).2⟩) (fun k H' a hk hj he => h2 k H' a hk hj (hE _ _ _ he)) h200
theorem key_inj {w w' c c' : Int} {nil nil' : Bool} {ph ph' : List Int} (h : w :: c :: (if nil then (1 : Int) else 0) :: ph = w' :: c' :: (if nil' then (1 : Int) else 0) :: ph') : w = w' ∧ c = c' ∧ nil = nil' ∧ ph = ph' := by
  simp only [List.cons.injEq] at h
  exact ⟨h.1, h.2.1, by cases nil <;> cases nil' <;> simp at h ⊢, h.2.2.2⟩
theorem itA_ok : ItOk Tryz.prog itA := by
  intro gf first cap H0 x hx
  obtain ⟨ic, ig, w, c, nil, ph, rfl, rfl, rfl, hg, hw, hc, hl, rfl⟩ := itA_iff hx
  refine ⟨(i146 ic ig w c nil ph hw hc hl _ rfl).weaken (fun _ _ _ h => h) (fun H hH => ?_), fun H hl0 r s h1 h2 => ?_⟩
  · obtain ⟨ic', ig', w', c', nil', ph', _, _, hcap, hg', _, _, _, he⟩ := itA_iff hH
    simp only [List.cons.injEq, AV.loc.injEq, and_true] at hcap
    obtain ⟨rfl, rfl⟩ := hcap
    obtain ⟨rfl, rfl, rfl, rfl⟩ := key_inj (Prod.mk.inj he).2
    exact gridOf_ok hg'
  · obtain ⟨ic', ig', w', c', nil', ph', _, _, hcap, hg', hw', hc', hl', he⟩ := itA_iff h2
    simp only [List.cons.injEq, AV.loc.injEq, and_true] at hcap
    obtain ⟨rfl, rfl⟩ := hcap
    obtain ⟨⟨o, n, h200⟩, o2, n2, h201⟩ := gridOf_ok hg'
    have keep : ∀ {i : Nat} {b : Blk}, (∀ o, b ≠ .obj o) → (H.set hl0 (.obj .lpx))[i]? = some b → H[i]? = some b := fun {i b} hb h => by
      by_cases hi : hl0 = i
      · subst hi
        rw [List.getElem?_set_self (by obtain ⟨hlt, _⟩ := List.getElem?_eq_some_iff.1 h1; exact hlt)] at h
        exact (hb _ (Option.some.inj h).symm).elim
      · rwa [List.getElem?_set_ne hi] at h
    rw [itA_of (gridOf_of ⟨⟨o, n, keep (by simp) h200⟩, o2, n2, keep (by simp) h201⟩) hw' hc' hl', he]
end Go.Abs
namespace Go.Abs
open Go.Proofs
abbrev far : Int := 1099511627776
noncomputable def rep1 (z : Nat) : Bool := match rcall Tryz.prog muts noPrim itA 400 66 [.sl false 1 [[i64 far]], i64 z] [] with
  | some (.lsl 0 0 n, [.cells true false 1 r]) => decide (n = z) && decide (unI r = some (List.replicate z far))
  | _ => false
theorem rep1_ok {z : Nat} (h : rep1 z = true) : Fn Tryz.prog 66 [ints false [far], i64 z] (.lsl 0 0 z) [.cells true false 1 ((List.replicate z far).map fun x => [i64 x])] := by
  unfold rep1 at h
  split at h
  · rename_i n r hr
    simp only [Bool.and_eq_true, decide_eq_true_eq] at h
    obtain ⟨h1, h2⟩ := h
    rw [unI_ok h2, h1] at hr
    exact rcall_ok (noPrim_ok _) itA_ok hr
  · simp at h
theorem rep_all : (List.range 41).all (fun z => z == 0 || rep1 z) = true := by kernel_rfl
theorem k66 (z : Nat) (hz : 1 ≤ z ∧ z ≤ 40) : Fn Tryz.prog 66 [ints false [far], i64 z] (.lsl 0 0 z) [.cells true false 1 ((List.replicate z far).map fun x => [i64 x])] := by
  have h := List.all_eq_true.1 rep_all z (by simp; omega)
  simp only [Bool.or_eq_true, beq_iff_eq] at h
  rcases h with h | h
  · omega
  · exact rep1_ok h
end Go.Abs
