import Derived.Test.YtpfmamngjefohaaK9
import Derived.Test.YtpfmamngjefohaaK20x
import Derived.Test.YtpfmamngjefohaaK30x
import Derived.Test.YtpfmamngjefohaaK21x
set_option linter.all false
set_option linter.unusedVariables false
set_option linter.unusedSimpArgs false
set_option linter.unusedSectionVars false
namespace Go.Abs
open Go.Proofs
/-! CheckSequence of the reference -/
end Go.Abs
namespace Go.Abs
open Go.Proofs
/-! GrindSequences -/
theorem iR_take (q : List Int) : List.take q.length (q.map fun x => [i64 x]) = q.map fun x => [i64 x] := List.take_of_length_le (by simp)
theorem iR_rfy (h : Nat → Blk) (d : Nat) (q : List Int) : List.map (fun r => List.map (rfy h d) r) (q.map fun x => [i64 x]) = q.map fun x => [i64 x] := by
  rw [List.map_map]
  exact List.map_congr_left fun g _ => by simp only [Function.comp, List.map_cons, List.map_nil, rfyL0]
theorem iR_lids (h : Nat → Blk) (d : Nat) (q : List Int) : (q.map fun x => [i64 x]).flatMap (fun r => r.flatMap (lids h d)) = [] := by
  rw [List.flatMap_eq_nil_iff]
  intro r hr
  obtain ⟨g, _, rfl⟩ := List.mem_map.1 hr
  simp [lids0]
end Go.Abs
namespace Go.Abs
open Go.Proofs
/-! the best sequence -/
abbrev Pol := Option (List Int × Int)
def bcand (l : List Gr) (f : Int → Pol) (deep : Int) (k : Nat) : Pol := if (l.getD k gr0).dm ≥ deep then none else (f (l.getD k gr0).dm).map fun x => ((k : Int) :: x.1, x.2 + ceil deep (l.getD k gr0).rt)
def bpick : Pol → Pol → Pol
  | none, o => o
  | some a, none => some a
  | some a, some b => if befB a.1 a.2 b.1 b.2 = true then some a else some b
def bsf (l : List Gr) (f : Int → Pol) (deep : Int) : Nat → Pol
  | 0 => none
  | k + 1 => bpick (bcand l f deep k) (bsf l f deep k)
def bst (l : List Gr) (want : Int) : Nat → Int → Pol
  | 0, d => if d ≤ want then some ([], 0) else none
  | n + 1, d => if d ≤ want then some ([], 0) else bsf l (bst l want n) d l.length
theorem bpick_cases (a b : Pol) : bpick a b = a ∨ bpick a b = b := by
  cases a with
  | none => exact .inr rfl
  | some a =>
    cases b with
    | none => exact .inl rfl
    | some b =>
      show (if befB a.1 a.2 b.1 b.2 = true then some a else some b) = some a ∨ (if befB a.1 a.2 b.1 b.2 = true then some a else some b) = some b
      by_cases h : befB a.1 a.2 b.1 b.2 = true
      · rw [if_pos h]; exact .inl rfl
      · rw [if_neg h]; exact .inr rfl
def PBd (N : Nat) (o : Pol) : Prop := ∀ x, o = some x → (0 ≤ x.2 ∧ x.2 ≤ 1000000 * (N : Int)) ∧ x.1.length ≤ N
def GOk (l : List Gr) : Prop := ∀ k, k < l.length → (0 ≤ (l.getD k gr0).dm ∧ (l.getD k gr0).dm ≤ 1000000) ∧ 1 ≤ (l.getD k gr0).rt ∧ (l.getD k gr0).rt ≤ 100000
theorem bcand_bd {l : List Gr} {f : Int → Pol} {d : Int} {N k : Nat} (hR : GOk l) (hd : 0 ≤ d ∧ d ≤ 1000000) (hf : ∀ e, 0 ≤ e ∧ e ≤ 1000000 → PBd N (f e)) (hk : k < l.length) : PBd (N + 1) (bcand l f d k) := fun x hx => by
  unfold bcand at hx
  by_cases h : (l.getD k gr0).dm ≥ d
  · rw [if_pos h] at hx; simp at hx
  · rw [if_neg h] at hx
    cases ho : f (l.getD k gr0).dm with
    | none => rw [ho] at hx; simp at hx
    | some y =>
      rw [ho] at hx
      simp only [Option.map_some, Option.some.injEq] at hx
      subst hx
      obtain ⟨h1, h2⟩ := hf _ (hR k hk).1 y ho
      have h3 := ceil_b (n := d) hd.1 (hR k hk).2.1
      refine ⟨?_, by simp; omega⟩
      push_cast
      omega
theorem bsf_bd {l : List Gr} {f : Int → Pol} {d : Int} {N : Nat} (hR : GOk l) (hd : 0 ≤ d ∧ d ≤ 1000000) (hf : ∀ e, 0 ≤ e ∧ e ≤ 1000000 → PBd N (f e)) : ∀ k, k ≤ l.length → PBd (N + 1) (bsf l f d k)
  | 0, _ => fun x hx => by simp [bsf] at hx
  | k + 1, hk => by
    have h1 := bcand_bd (k := k) hR hd hf (by omega)
    have h2 := bsf_bd hR hd hf k (by omega)
    simp only [bsf]
    rcases bpick_cases (bcand l f d k) (bsf l f d k) with h | h
    · rw [h]; exact h1
    · rw [h]; exact h2
theorem bst_bd {l : List Gr} {want : Int} (hR : GOk l) : ∀ (n : Nat) (d : Int), 0 ≤ d ∧ d ≤ 1000000 → PBd n (bst l want n d)
  | 0, d, hd => fun x hx => by
    unfold bst at hx
    split at hx
    · simp at hx; subst hx; simp
    · simp at hx
  | n + 1, d, hd => by
    unfold bst
    split
    · intro x hx
      simp at hx; subst hx
      refine ⟨⟨Int.le_refl _, ?_⟩, by simp⟩
      show (0 : Int) ≤ _
      omega
    · exact bsf_bd hR hd (fun e he => bst_bd hR n e he) _ (Nat.le_refl _)
theorem bsf_ne {l : List Gr} {f : Int → Pol} {d : Int} : ∀ k x, bsf l f d k = some x → x.1 ≠ []
  | 0, x, hx => by simp [bsf] at hx
  | k + 1, x, hx => by
    simp only [bsf] at hx
    rcases bpick_cases (bcand l f d k) (bsf l f d k) with h | h
    · rw [h] at hx
      unfold bcand at hx
      split at hx
      · simp at hx
      · cases ho : f (l.getD k gr0).dm with
        | none => rw [ho] at hx; simp at hx
        | some y => rw [ho] at hx; simp at hx; subst hx; simp
    · rw [h] at hx; exact bsf_ne k x hx
/-- as it is given back -/
def polR : Pol → AV
  | none => .agg [.sl true 0 [], i64 0, bl false]
  | some x => .agg [if x.1 = [] then .sl true 0 [] else .lsl 0 0 x.1.length, i64 x.2, bl true]
def polH : Pol → List Blk
  | none => []
  | some x => if x.1 = [] then [] else [.cells false false 1 (x.1.map fun x => [i64 x])]
def S66h : Pol → List Blk
  | none => [.cells true false 3 [[.sl true 0 [], i64 0, bl false]], .cells true false 3 [[.sl true 0 [], i64 0, bl false]]]
  | some x => [.cells true false 3 [[.sl true 0 [], i64 0, bl false]], .cells true false 3 [[.lsl 2 0 x.1.length, i64 x.2, bl true]], .cells false false 1 (x.1.map fun x => [i64 x])]
def S66s (nil : Bool) (l : List Gr) (d want : Int) (k : Nat) : List (Nat × AV) := [(0, gts nil l), (1, i64 d), (2, i64 want), (6, .loc 0 0 0), (7, .loc 1 0 0), (15, gts nil l), (16, i64 l.length), (17, i64 k)]
def S66 (nil : Bool) (l : List Gr) (d want : Int) (f : Int → Pol) (k : Nat) : St := ⟨S66s nil l d want k, S66h (bsf l f d k)⟩
end Go.Abs
