import Derived.Test.YtpfmamngjefohaaK2x
import Derived.Test.YtpfmamngjefohaaK9
set_option linter.all false
set_option linter.unusedVariables false
set_option linter.unusedSimpArgs false
set_option linter.unusedSectionVars false
namespace Go.Abs
open Go.Proofs
/-! grits -/
structure Gr where
  nm : ByteArray
  dm : Int
  rt : Int
def gr0 : Gr := ⟨⟨#[]⟩, 0, 0⟩
def gR (l : List Gr) : List (List AV) := l.map fun g => [tx g.nm, i64 g.dm, i64 g.rt]
abbrev gts (nil : Bool) (l : List Gr) : AV := .sl nil 3 (gR l)
theorem gR_len (l : List Gr) : (gR l).length = l.length := by simp [gR]
theorem gR_get {l : List Gr} {k : Nat} (h : k < l.length) : (gR l).getD k [] = [tx (l.getD k gr0).nm, i64 (l.getD k gr0).dm, i64 (l.getD k gr0).rt] := by
  simp [gR, List.getD_eq_getElem?_getD, h]
def eqT (a b : ByteArray) : Bool := a.data.toList == b.data.toList
/-- the error at a grit -/
def gDup (l : List Gr) (k : Nat) : Bool := decide (∃ j, j < k ∧ eqT (l.getD j gr0).nm (l.getD k gr0).nm = true)
def gRng (g : Gr) : Bool := (decide (0 ≤ g.dm) && decide (g.dm ≤ 1000000)) && (decide (1 ≤ g.rt) && decide (g.rt ≤ 100000))
def gErr (l : List Gr) (k : Nat) : Int := if nmB (l.getD k gr0).nm = false then 4 else if gDup l k = true then 5 else if gRng (l.getD k gr0) = false then 2 else 0
def gErs (l : List Gr) : Nat → Int
  | 0 => 0
  | k + 1 => if gErs l k ≠ 0 then gErs l k else gErr l k
def gE (l : List Gr) : Int := if l.length > 12 then 8 else gErs l l.length
theorem gErs_stop {l : List Gr} {k : Nat} (h0 : gErs l k = 0) (h : gErr l k ≠ 0) : ∀ n, k < n → gErs l n = gErr l k := by
  intro n
  induction n with
  | zero => intro hn; omega
  | succ n ih =>
    intro hn
    rcases Nat.lt_succ_iff_lt_or_eq.1 hn with h1 | rfl
    · have := ih h1
      simp only [gErs]
      rw [if_pos (by rw [this]; exact h), this]
    · simp only [gErs]
      rw [if_neg (by rw [h0]; simp)]
theorem gErs_next {l : List Gr} {k : Nat} (h0 : gErs l k = 0) (h : gErr l k = 0) : gErs l (k + 1) = 0 := by
  simp only [gErs]; rw [if_neg (by rw [h0]; simp), h]
end Go.Abs
