import Derived.Test.YtpfmamngjefohaaK9
import Derived.Test.YtpfmamngjefohaaKO2
import Derived.Test.YtpfmamngjefohaaK30x
set_option linter.all false
set_option linter.unusedVariables false
set_option linter.unusedSimpArgs false
set_option linter.unusedSectionVars false
namespace Go.Abs
open Go.Proofs
/-! CheckSequence of the reference -/
end Go.Abs
namespace Go.Abs
open Go.Proofs
/-! CheckSequence -/
end Go.Abs
namespace Go.Abs
open Go.Proofs
/-! GrindSequences -/
end Go.Abs
namespace Go.Abs
open Go.Proofs
/-! the best sequence -/
abbrev Pol := Option (List Int × Int)
def GOk (l : List Gr) : Prop := ∀ k, k < l.length → (0 ≤ (l.getD k gr0).dm ∧ (l.getD k gr0).dm ≤ 1000000) ∧ 1 ≤ (l.getD k gr0).rt ∧ (l.getD k gr0).rt ≤ 100000
end Go.Abs
namespace Go.Abs
open Go.Proofs
/-! best: one round -/
/- a grit that is too coarse -/
end Go.Abs
namespace Go.Abs
open Go.Proofs
end Go.Abs
namespace Go.Abs
open Go.Proofs
end Go.Abs
namespace Go.Abs
open Go.Proofs
end Go.Abs
namespace Go.Abs
open Go.Proofs
/-! best -/
end Go.Abs
namespace Go.Abs
open Go.Proofs
/-! Shortest -/
end Go.Abs
namespace Go.Abs
open Go.Proofs
/-! Shortest, without the sequence -/
end Go.Abs
namespace Go.Abs
open Go.Proofs
/-! the fewest minutes -/
theorem ceil_mono {n n' d : Int} (h : n ≤ n') (hd : 1 ≤ d) : ceil n d ≤ ceil n' d := by
  unfold ceil
  have : (-n') / d ≤ (-n) / d := Int.ediv_le_ediv (by omega) (by omega)
  omega
def Pth (l : List Gr) (want : Int) : Int → List Nat → Int → Prop
  | d, [], m => d ≤ want ∧ m = 0
  | d, i :: q, m => i < l.length ∧ (l.getD i gr0).dm < d ∧ ∃ m', Pth l want (l.getD i gr0).dm q m' ∧ m = m' + ceil d (l.getD i gr0).rt
theorem Pth.nn {l : List Gr} {want : Int} (hR : GOk l) : ∀ {q : List Nat} {d m : Int}, 0 ≤ d → Pth l want d q m → 0 ≤ m
  | [], d, m, _, h => by rw [h.2]; exact Int.le_refl _
  | i :: q, d, m, hd, ⟨h1, h2, m', h3, h4⟩ => by
    have h5 := Pth.nn hR (hR i h1).1.1 h3
    have h6 := ceil_b (n := d) hd (hR i h1).2.1
    omega
theorem Pth.mono {l : List Gr} {w w2 : Int} (hR : GOk l) (hw : w2 ≤ w) : ∀ {q : List Nat} {d d2 m : Int}, 0 ≤ d → d ≤ d2 → Pth l w2 d2 q m → ∃ q' m', Pth l w d q' m' ∧ m' ≤ m
  | [], d, d2, m, hd, hdd, h => ⟨[], 0, ⟨by have := h.1; omega, rfl⟩, by rw [h.2]; exact Int.le_refl _⟩
  | i :: q, d, d2, m, hd, hdd, h0 => by
    have hm := Pth.nn hR (by omega) h0
    obtain ⟨h1, h2, m', h3, h4⟩ := h0
    have h6 := ceil_b (n := d2) (by omega) (hR i h1).2.1
    by_cases hlt : (l.getD i gr0).dm < d
    · obtain ⟨q', m1, g1, g2⟩ := Pth.mono hR hw (hR i h1).1.1 (Int.le_refl _) h3
      refine ⟨i :: q', _, ⟨h1, hlt, m1, g1, rfl⟩, ?_⟩
      have := ceil_mono (d := (l.getD i gr0).rt) hdd (hR i h1).2.1
      omega
    · obtain ⟨q', m1, g1, g2⟩ := Pth.mono hR hw hd (by omega) h3
      exact ⟨q', m1, g1, by omega⟩
theorem Pth.tail {g : Gr} {l : List Gr} {w : Int} : ∀ {q : List Nat} {d m : Int}, Pth l w d q m → Pth (g :: l) w d (q.map (· + 1)) m
  | [], _, _, h => h
  | i :: q, d, m, ⟨h1, h2, m', h3, h4⟩ => by
    refine ⟨by simp; omega, ?_, m', ?_, ?_⟩
    · rw [List.getD_cons_succ]; exact h2
    · rw [List.getD_cons_succ]; exact Pth.tail h3
    · rw [List.getD_cons_succ]; exact h4
end Go.Abs
namespace Go.Abs
open Go.Proofs
/-! before of the reference; equal lists -/
theorem cmpI_lt {a b : Int} : decide (cmpI a b < 0) = decide (a < b) := by
  unfold cmpI
  by_cases h : a < b
  · rw [if_pos h]; simp [h]
  · rw [if_neg h]
    by_cases h2 : b < a
    · rw [if_pos h2]; simp [h]
    · rw [if_neg h2]; simp [h]
theorem cmpI_zero {a b : Int} : cmpI a b = 0 ↔ a = b := by
  unfold cmpI
  by_cases h : a < b
  · rw [if_pos h]; simp; omega
  · rw [if_neg h]
    by_cases h2 : b < a
    · rw [if_pos h2]; simp; omega
    · rw [if_neg h2]; simp; omega
end Go.Abs
namespace Go.Abs
open Go.Proofs
/-! not by rfl: simp takes a rule that holds by rfl twice, and a run of skipped operations then doubles its time with each -/
/-! a block may be frozen at any time -/
theorem freeze1_of {H : List Blk} {id : Nat} {o n : Bool} {z : Nat} {els : List (List AV)} (h : H[id]? = some (.cells o n z els)) : (freeze1 H id)[id]? = some (.cells false n z els) := by
  unfold freeze1
  split
  · rename_i n2 s2 e2 h2
    rw [h] at h2
    simp at h2
    obtain ⟨_, rfl, rfl, rfl⟩ := h2
    exact List.getElem?_set_self (List.getElem?_eq_some_iff.1 h).1
  · rename_i h2
    cases o with
    | false => exact h
    | true => exact (h2 n z els h).elim
theorem freeze1_ne {H : List Blk} {id k : Nat} (h : k ≠ id) : (freeze1 H id)[k]? = H[k]? := by
  unfold freeze1
  split
  · exact List.getElem?_set_ne (Ne.symm h)
  · rfl
/-- blocks but for one are as they were, or frozen -/
structure Kp (id : Nat) (H H' : List Blk) : Prop where
  len : H.length ≤ H'.length
  cell : ∀ k n z els, k ≠ id → (∃ o, H[k]? = some (.cells o n z els)) → ∃ o, H'[k]? = some (.cells o n z els)
theorem Kp.refl (id : Nat) (H : List Blk) : Kp id H H := ⟨Nat.le_refl _, fun _ _ _ _ _ h => h⟩
theorem Kp.trans {id : Nat} {H H' H'' : List Blk} (h : Kp id H H') (h' : Kp id H' H'') : Kp id H H'' := ⟨Nat.le_trans h.len h'.len, fun k n z els hk hc => h'.cell k n z els hk (h.cell k n z els hk hc)⟩
theorem Kp.app (id : Nat) (H X : List Blk) : Kp id H (H ++ X) := ⟨by simp, fun k n z els _ ⟨o, h⟩ => ⟨o, by rw [List.getElem?_append_left (List.getElem?_eq_some_iff.1 h).1]; exact h⟩⟩
theorem Kp.set (id : Nat) (H : List Blk) (v : Blk) : Kp id H (H.set id v) := ⟨by simp, fun k n z els hk ⟨o, h⟩ => ⟨o, by rw [List.getElem?_set_ne (Ne.symm hk)]; exact h⟩⟩
theorem Kp.fr (id j : Nat) (H : List Blk) : Kp id H (freeze1 H j) := by
  refine ⟨by rw [freeze1_len]; exact Nat.le_refl _, fun k n z els hk ⟨o, h⟩ => ?_⟩
  by_cases hkj : k = j
  · subst hkj; exact ⟨false, freeze1_of h⟩
  · exact ⟨o, by rw [freeze1_ne hkj]; exact h⟩
/-- the best so far, in memory -/
def SB (id : Nat) (o : Pol) (H : List Blk) : Prop := match o with
  | none => H[id]? = some (.cells true false 3 [[.sl true 0 [], i64 0, bl false]])
  | some x => ∃ j b, H[id]? = some (.cells true false 3 [[.lsl j 0 x.1.length, i64 x.2, bl true]]) ∧ H[j]? = some (.cells b false 1 (x.1.map fun x => [i64 x]))
end Go.Abs
