import Derived.Test.YtpfmamngjefohaaK62
set_option linter.all false
set_option linter.unusedVariables false
set_option linter.unusedSimpArgs false
set_option linter.unusedSectionVars false
namespace Go.Abs
open Go.Proofs
/-! the best sequence is accepted, with its minutes -/
def PthI (l : List Gr) (w : Int) : Int → List Int → Int → Prop
  | d, [], m => d ≤ w ∧ m = 0
  | d, i :: q, m => (0 ≤ i ∧ i ≤ (l.length : Int) - 1) ∧ (l.getD i.toNat gr0).dm < d ∧ ∃ m', PthI l w (l.getD i.toNat gr0).dm q m' ∧ m = m' + ceil d (l.getD i.toNat gr0).rt
theorem cnt_lt {e d : Int} (h : e < d) : ∀ (l : List Gr) (i : Nat), i < l.length → (l.getD i gr0).dm = e → l.countP (fun g => decide (g.dm < e)) + 1 ≤ l.countP (fun g => decide (g.dm < d))
  | [], i, hi, _ => by simp at hi
  | g :: l, 0, _, he => by
    have hg : g.dm = e := he
    have := List.countP_mono_left (l := l) (p := fun g => decide (g.dm < e)) (q := fun g => decide (g.dm < d)) fun x _ hx => by simp at hx ⊢; omega
    rw [List.countP_cons, List.countP_cons, if_neg (by simp; omega), if_pos (by simp; omega)]
    omega
  | g :: l, i + 1, hi, he => by
    have ih := cnt_lt h l i (by simpa using hi) (by rw [List.getD_cons_succ] at he; exact he)
    rw [List.countP_cons, List.countP_cons]
    by_cases h1 : g.dm < e
    · rw [if_pos (by simpa using h1), if_pos (by simp; omega)]; omega
    · rw [if_neg (by simpa using h1)]; split <;> omega
theorem PthI.len {l : List Gr} {w : Int} : ∀ {q : List Int} {d m : Int}, PthI l w d q m → q.length ≤ l.countP (fun g => decide (g.dm < d))
  | [], _, _, _ => Nat.zero_le _
  | i :: q, d, m, ⟨h1, h2, m', h3, _⟩ => by
    have h4 := PthI.len h3
    have h5 := cnt_lt h2 l i.toNat (by omega) rfl
    simp only [List.length_cons]
    omega
end Go.Abs
