import Derived.Test.YtpfmamngjefohaaK30x
set_option linter.all false
set_option linter.unusedVariables false
set_option linter.unusedSimpArgs false
set_option linter.unusedSectionVars false
namespace Go.Abs
open Go.Proofs
/-! the fewest minutes -/
theorem ceil_mono {n n' d : Int} (h : n ≤ n') (hd : 1 ≤ d) : ceil n d ≤ ceil n' d := by
  unfold ceil
  have : (-n') / d ≤ (-n) / d := Int.ediv_le_ediv (by omega) (by omega)
  omega
def Pth (l : List Gr) (want : Int) : Int → List Nat → Int → Prop
  | d, [], m => d ≤ want ∧ m = 0
  | d, i :: q, m => i < l.length ∧ (l.getD i gr0).dm < d ∧ ∃ m', Pth l want (l.getD i gr0).dm q m' ∧ m = m' + ceil d (l.getD i gr0).rt
theorem Pth.nn {l : List Gr} {want : Int} (hR : GOk l) : ∀ {q : List Nat} {d m : Int}, 0 ≤ d → Pth l want d q m → 0 ≤ m
  | [], d, m, _, h => by rw [h.2]; exact Int.le_refl _
  | i :: q, d, m, hd, ⟨h1, h2, m', h3, h4⟩ => by
    have h5 := Pth.nn hR (hR i h1).1.1 h3
    have h6 := ceil_b (n := d) hd (hR i h1).2.1
    omega
theorem Pth.mono {l : List Gr} {w w2 : Int} (hR : GOk l) (hw : w2 ≤ w) : ∀ {q : List Nat} {d d2 m : Int}, 0 ≤ d → d ≤ d2 → Pth l w2 d2 q m → ∃ q' m', Pth l w d q' m' ∧ m' ≤ m
  | [], d, d2, m, hd, hdd, h => ⟨[], 0, ⟨by have := h.1; omega, rfl⟩, by rw [h.2]; exact Int.le_refl _⟩
  | i :: q, d, d2, m, hd, hdd, h0 => by
    have hm := Pth.nn hR (by omega) h0
    obtain ⟨h1, h2, m', h3, h4⟩ := h0
    have h6 := ceil_b (n := d2) (by omega) (hR i h1).2.1
    by_cases hlt : (l.getD i gr0).dm < d
    · obtain ⟨q', m1, g1, g2⟩ := Pth.mono hR hw (hR i h1).1.1 (Int.le_refl _) h3
      refine ⟨i :: q', _, ⟨h1, hlt, m1, g1, rfl⟩, ?_⟩
      have := ceil_mono (d := (l.getD i gr0).rt) hdd (hR i h1).2.1
      omega
    · obtain ⟨q', m1, g1, g2⟩ := Pth.mono hR hw hd (by omega) h3
      exact ⟨q', m1, g1, by omega⟩
theorem Pth.tail {g : Gr} {l : List Gr} {w : Int} : ∀ {q : List Nat} {d m : Int}, Pth l w d q m → Pth (g :: l) w d (q.map (· + 1)) m
  | [], _, _, h => h
  | i :: q, d, m, ⟨h1, h2, m', h3, h4⟩ => by
    refine ⟨by simp; omega, ?_, m', ?_, ?_⟩
    · rw [List.getD_cons_succ]; exact h2
    · rw [List.getD_cons_succ]; exact Pth.tail h3
    · rw [List.getD_cons_succ]; exact h4
end Go.Abs
