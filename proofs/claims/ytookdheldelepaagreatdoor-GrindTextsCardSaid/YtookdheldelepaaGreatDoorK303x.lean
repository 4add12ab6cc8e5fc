import Derived.Test.YtookdheldelepaaGreatDoorPCmin
import Derived.Test.YtookdheldelepaaGreatDoorK64
import Derived.Test.YtookdheldelepaaGreatDoorK300x
set_option linter.all false
set_option linter.unusedVariables false
set_option linter.unusedSimpArgs false
set_option linter.unusedSectionVars false
namespace Go.Abs
open Go.Proofs
/-! Copy: what it yields reads as the strokes -/
def skc (l : List Sk) : List Sk := l.map fun s => ⟨s.nm, false, s.wr⟩
def cpS (l : List Sk) : AV := if l = [] then .sl true 0 [] else sts false (skc l)
def otS (l : List Sk) (k : Nat) : List (List AV) := (List.range k).map fun i => [tx (l.getD i sk0).nm, AV.lsl (3 * i + 2) 0 (l.getD i sk0).wr.length]
theorem otS_len (l : List Sk) (k : Nat) : (otS l k).length = k := by simp [otS]
structure I22 (l : List Sk) (k : Nat) (H : List Blk) : Prop where
  n : H.length = 3 * k
  r : ∀ i, i < k → ∃ o, H[3 * i + 2]? = some (.cells o false 1 ((l.getD i sk0).wr.map fun x => [i64 x]))
  t : k ≠ 0 → H[3 * k - 2]? = some (.cells true false 2 (otS l k))
theorem I22.rds {l : List Sk} {H : List Blk} (h : I22 l l.length H) (h0 : l.length ≠ 0) : rfy (hget H) 2 (.lsl (3 * l.length - 2) 0 l.length) = cpS l := by
  have hne : l ≠ [] := fun e => h0 (by rw [e]; rfl)
  unfold cpS
  rw [if_neg hne]
  unfold rfy
  rw [hget_some' (h.t h0)]
  have ho := otS_len l l.length
  dsimp only
  rw [if_pos (by omega), List.drop_zero, List.take_of_length_le (by omega)]
  refine congrArg (AV.sl false 2) ?_
  unfold otS skR skc
  rw [List.map_map, List.map_map]
  refine List.ext_getElem (by simp) fun i h1 h2 => ?_
  simp only [List.length_map, List.length_range] at h1
  obtain ⟨o, hr⟩ := h.r i h1
  have e := rfy_iB (d := 0) hr rfl
  have e2 : l.getD i sk0 = l[i] := by simp [List.getD, h1]
  simp only [List.getElem_map, List.getElem_range, Function.comp, List.map_cons, List.map_nil, Nat.zero_add, rfyL0] at e ⊢
  rw [e, e2]
end Go.Abs
