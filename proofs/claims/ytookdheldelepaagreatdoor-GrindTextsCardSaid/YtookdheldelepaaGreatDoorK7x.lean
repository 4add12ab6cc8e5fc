import Derived.Test.YtookdheldelepaaGreatDoorPCmin
import Derived.Test.YtookdheldelepaaGreatDoorK9
import Derived.Test.YtookdheldelepaaGreatDoorK6x
set_option linter.all false
set_option linter.unusedVariables false
set_option linter.unusedSimpArgs false
set_option linter.unusedSectionVars false
namespace Go.Abs
open Go.Proofs
/-! the program's CheckGrits -/
structure J45 (l : List Gr) (k : Nat) (H : List Blk) : Prop where
  m : ∃ es, H[0]? = some (.obj (.smap .str es)) ∧ Seen (fun b => ∃ j, j < k ∧ eqT (l.getD j gr0).nm b = true) es
end Go.Abs
namespace Go.Abs
open Go.Proofs
end Go.Abs
namespace Go.Abs
open Go.Proofs
/-! StepMinutes; law 7 -/
theorem rfyL0 (h : Nat → Blk) (d : Nat) (x : Value) : rfy h d (.lit x) = .lit x := by cases d <;> rfl
end Go.Abs
namespace Go.Abs
open Go.Proofs
/-! sequences of grits -/
/-- the first error of so many -/
def fe (e : Nat → Int) : Nat → Int
  | 0 => 0
  | k + 1 => if fe e k ≠ 0 then fe e k else e k
theorem fe_stop {e : Nat → Int} {k : Nat} (h0 : fe e k = 0) (h : e k ≠ 0) : ∀ n, k < n → fe e n = e k := by
  intro n
  induction n with
  | zero => intro hn; omega
  | succ n ih =>
    intro hn
    rcases Nat.lt_succ_iff_lt_or_eq.1 hn with h1 | rfl
    · have := ih h1
      simp only [fe]
      rw [if_pos (by rw [this]; exact h), this]
    · simp only [fe]
      rw [if_neg (by rw [h0]; simp)]
theorem fe_next {e : Nat → Int} {k : Nat} (h0 : fe e k = 0) (h : e k = 0) : fe e (k + 1) = 0 := by
  simp only [fe]; rw [if_neg (by rw [h0]; simp), h]
theorem ceil_b {n d : Int} (hn : 0 ≤ n) (hd : 1 ≤ d) : 0 ≤ ceil n d ∧ ceil n d ≤ n := by
  unfold ceil
  have h1 := Int.mul_ediv_add_emod (-n) d
  have h2 := Int.emod_nonneg (-n) (show d ≠ 0 by omega)
  have h300 := Int.emod_lt_of_pos (-n) (show 0 < d by omega)
  have h301 : (-n) / d ≤ 0 := by
    rcases (by omega : (-n) / d ≤ 0 ∨ 1 ≤ (-n) / d) with h | h
    · exact h
    · have : d * 1 ≤ d * ((-n) / d) := Int.mul_le_mul_of_nonneg_left h (by omega)
      omega
  have h302 : -n ≤ (-n) / d := by
    have : d * ((-n) / d) ≤ 1 * ((-n) / d) := Int.mul_le_mul_of_nonpos_right hd h301
    rcases (by omega : -n ≤ (-n) / d ∨ (-n) / d ≤ -n - 1) with h | h
    · exact h
    · have h303 : d * ((-n) / d) ≤ d * (-n - 1) := Int.mul_le_mul_of_nonneg_left h (by omega)
      have h304 : d * (-n - 1) = d * (-n) - d := by rw [Int.mul_sub, Int.mul_one]
      have h305 : d * (-n) ≤ 1 * (-n) := Int.mul_le_mul_of_nonpos_right hd (by omega)
      omega
  omega
end Go.Abs
namespace Go.Abs
open Go.Proofs
/-! sequences compared -/
def cmpI (a b : Int) : Int := if a < b then -1 else if b < a then 1 else 0
def cme (p q : List Int) (k : Nat) : Int := cmpI (p.getD k 0) (q.getD k 0)
def cmpL (p q : List Int) : Int := fe (cme p q) p.length
end Go.Abs
namespace Go.Abs
open Go.Proofs
/-! CheckSequence of the reference -/
end Go.Abs
namespace Go.Abs
open Go.Proofs
/-! CheckSequence -/
end Go.Abs
namespace Go.Abs
open Go.Proofs
/-! GrindSequences -/
end Go.Abs
namespace Go.Abs
open Go.Proofs
/-! the best sequence -/
abbrev Pol := Option (List Int × Int)
def GOk (l : List Gr) : Prop := ∀ k, k < l.length → (0 ≤ (l.getD k gr0).dm ∧ (l.getD k gr0).dm ≤ 1000000) ∧ 1 ≤ (l.getD k gr0).rt ∧ (l.getD k gr0).rt ≤ 100000
end Go.Abs
namespace Go.Abs
open Go.Proofs
/-! best: one round -/
/- a grit that is too coarse -/
end Go.Abs
namespace Go.Abs
open Go.Proofs
end Go.Abs
namespace Go.Abs
open Go.Proofs
end Go.Abs
namespace Go.Abs
open Go.Proofs
end Go.Abs
namespace Go.Abs
open Go.Proofs
/-! best -/
end Go.Abs
namespace Go.Abs
open Go.Proofs
/-! Shortest -/
end Go.Abs
namespace Go.Abs
open Go.Proofs
/-! Shortest, without the sequence -/
end Go.Abs
namespace Go.Abs
open Go.Proofs
/-! the fewest minutes -/
theorem ceil_mono {n n' d : Int} (h : n ≤ n') (hd : 1 ≤ d) : ceil n d ≤ ceil n' d := by
  unfold ceil
  have : (-n') / d ≤ (-n) / d := Int.ediv_le_ediv (by omega) (by omega)
  omega
def Pth (l : List Gr) (want : Int) : Int → List Nat → Int → Prop
  | d, [], m => d ≤ want ∧ m = 0
  | d, i :: q, m => i < l.length ∧ (l.getD i gr0).dm < d ∧ ∃ m', Pth l want (l.getD i gr0).dm q m' ∧ m = m' + ceil d (l.getD i gr0).rt
theorem Pth.nn {l : List Gr} {want : Int} (hR : GOk l) : ∀ {q : List Nat} {d m : Int}, 0 ≤ d → Pth l want d q m → 0 ≤ m
  | [], d, m, _, h => by rw [h.2]; exact Int.le_refl _
  | i :: q, d, m, hd, ⟨h1, h2, m', h300, h301⟩ => by
    have h302 := Pth.nn hR (hR i h1).1.1 h300
    have h303 := ceil_b (n := d) hd (hR i h1).2.1
    omega
theorem Pth.mono {l : List Gr} {w w2 : Int} (hR : GOk l) (hw : w2 ≤ w) : ∀ {q : List Nat} {d d2 m : Int}, 0 ≤ d → d ≤ d2 → Pth l w2 d2 q m → ∃ q' m', Pth l w d q' m' ∧ m' ≤ m
  | [], d, d2, m, hd, hdd, h => ⟨[], 0, ⟨by have := h.1; omega, rfl⟩, by rw [h.2]; exact Int.le_refl _⟩
  | i :: q, d, d2, m, hd, hdd, h0 => by
    have hm := Pth.nn hR (by omega) h0
    obtain ⟨h1, h2, m', h300, h301⟩ := h0
    have h303 := ceil_b (n := d2) (by omega) (hR i h1).2.1
    by_cases hlt : (l.getD i gr0).dm < d
    · obtain ⟨q', m1, g1, g2⟩ := Pth.mono hR hw (hR i h1).1.1 (Int.le_refl _) h300
      refine ⟨i :: q', _, ⟨h1, hlt, m1, g1, rfl⟩, ?_⟩
      have := ceil_mono (d := (l.getD i gr0).rt) hdd (hR i h1).2.1
      omega
    · obtain ⟨q', m1, g1, g2⟩ := Pth.mono hR hw hd (by omega) h300
      exact ⟨q', m1, g1, by omega⟩
end Go.Abs
