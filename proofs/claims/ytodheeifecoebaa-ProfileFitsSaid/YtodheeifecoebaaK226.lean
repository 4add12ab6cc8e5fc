import Derived.Test.YtodheeifecoebaaK202x
import Derived.Test.YtodheeifecoebaaK11
import Derived.Deep.Matrix
import Derived.Test.YtodheeifecoebaaRows
set_option linter.all false
set_option linter.unusedVariables false
set_option linter.unusedSimpArgs false
set_option linter.unusedSectionVars false
namespace Go.Abs
open Go.ChangeShapes Go.WideShapes Go.RowKit Go.Proofs
/-! opening lists of lists: an empty list may point anywhere -/
section
variable {H : Type} {enc : TypeId × Value → H} {P : Program} {w : World} {base : Nat}
theorem cell_some {a : Addr} {v : Value} (h : w.cell? a = some v) : a.spot = none ∧ IsCells w a.block := by
  unfold World.cell? at h
  split at h
  · rename_i c e f hb
    refine ⟨?_, c, e, f, hb⟩
    cases hs : a.spot with
    | none => rfl
    | some s => rw [hs] at h; simp at h
  · simp at h
theorem add_zero (a : Addr) : a.add 0 = a := by unfold Addr.add; simp
theorem add_spot {a : Addr} (h : a.spot = none) (n : Nat) : a.add n = ⟨a.block, a.off + n, none⟩ := by
  obtain ⟨b, o, s⟩ := a
  dsimp only at h
  subst h
  unfold Addr.add; split <;> simp_all
/-- a list of numbers, as a cell holds it -/
theorem conc_ints {A : Option Addr} {L C : Nat} {Z : List Int} (h1 : L ≤ C) (h2 : Z.length = C) (h3 : A = none → C = 0) (h4 : ∀ a', A = some a' → ∀ c, c < C → w.cell? (a'.add c) = some (.int .i64 (Z.getD c 0))) :
    ∃ (nil : Bool) (xs : List Int), Conc (lone w) (ints nil xs) (.slice A L C) := by
  cases A with
  | none =>
    have := h3 rfl
    obtain rfl : L = 0 := by omega
    subst this
    exact ⟨true, [], by simp [Conc]⟩
  | some a =>
    by_cases hc : C = 0
    · subst hc
      obtain rfl : L = 0 := by omega
      exact ⟨false, [], by simp only [Conc]; exact .inr (.inr ⟨trivial, rfl, a, rfl⟩)⟩
    · have h5 := h4 a rfl 0 (by omega)
      obtain ⟨hs1, hs2⟩ := cell_some h5
      rw [add_zero] at hs1 hs2
      refine ⟨false, Z.take L, ?_⟩
      simp only [Conc]
      right; left
      refine ⟨trivial, a.block, a.off, C, ?_, ?_, fun _ => ⟨lone_bad, hs2⟩, rowsAt_ints _ _ fun i hi => ?_⟩
      · obtain ⟨b, o, s⟩ := a
        dsimp only at hs1
        subst hs1
        simp [h2, Nat.min_eq_left h1]
      · simp [h2]; omega
      · have hi' : i < L := by rw [List.length_take] at hi; omega
        have h6 := h4 a rfl i (by omega)
        rw [add_spot hs1] at h6
        show w.cell? _ = _
        rw [h6]
        simp [List.getD, List.getElem?_take, hi']
theorem rowsAt_rws {C : Ctx} {b : Nat} : ∀ (rows : List (Bool × List Int)) (off : Nat), (∀ i, i < rows.length → ∃ u, C.w.cell? ⟨b, off + i, none⟩ = some u ∧ Conc C (ints (rowN rows i).1 (rowN rows i).2) u) → RowsAt C b off 1 (rows.map fun r => [ints r.1 r.2])
  | [], _, _ => trivial
  | x :: r, off, h => by
    obtain ⟨u, h1, h2⟩ := h 0 (by simp)
    refine ⟨rfl, ⟨⟨u, h1, Conc.one h2 rfl, rfl, h2⟩, trivial⟩, rowsAt_rws r (off + 1) fun i hi => ?_⟩
    have := h (i + 1) (by simpa using hi)
    rw [show off + 1 + i = off + (i + 1) by omega]
    simpa [rowN] using this
theorem open_lists {t e q : TypeId} {c : Value} {fuel : Nat} {y : DataW H × List MemPlace} (ht : P.underlying t = some (.slice e)) (he : P.underlying e = some (.slice q)) (hq : P.underlying q = some (.int .i64)) (ce : P.cellsOf e = 1) (cq : P.cellsOf q = 1)
    (h : DataW.trod enc P w 0 (fun _ => true) true fuel t [c] = some y) : ∃ (nil : Bool) (rows : List (Bool × List Int)), Conc (lone w) (.sl nil 1 (rows.map fun r => [ints r.1 r.2])) c := by
  rcases Go.Deep.open_int_rows ht he hq ce cq h with ⟨h1, _⟩ | ⟨a, len, cap, A, L, C, Z, h1, _, hl, _, _, hx⟩
  · obtain rfl := List.head_eq_of_cons_eq h1
    exact ⟨true, [], by simp [Conc]⟩
  · obtain rfl := List.head_eq_of_cons_eq h1
    by_cases hc : cap = 0
    · subst hc
      obtain rfl : len = 0 := by omega
      exact ⟨false, [], by simp only [Conc]; exact .inr (.inr ⟨trivial, rfl, a, rfl⟩)⟩
    · have h5 := (hx 0 (by omega)).1
      obtain ⟨hs1, hs2⟩ := cell_some h5
      rw [add_zero] at hs1 hs2
      have hrow : ∀ r, r < cap → ∃ p : Bool × List Int, Conc (lone w) (ints p.1 p.2) (.slice (A r) (L r) (C r)) := fun r hr => by
        obtain ⟨_, h2, _, h4, _, h6, h7⟩ := hx r hr
        obtain ⟨nl, xs, h8⟩ := conc_ints (w := w) h2 h4 h6 (fun a' ha' c hc' => (h7 a' ha').2 c hc')
        exact ⟨(nl, xs), h8⟩
      have hlist : ∀ n, n ≤ len → ∃ rows : List (Bool × List Int), rows.length = n ∧ ∀ i, i < n → Conc (lone w) (ints (rowN rows i).1 (rowN rows i).2) (.slice (A i) (L i) (C i)) := by
        intro n
        induction n with
        | zero => intro _; exact ⟨[], rfl, fun i hi => by omega⟩
        | succ n ih =>
          intro hn
          obtain ⟨rows, h4, h5⟩ := ih (by omega)
          obtain ⟨p, h6⟩ := hrow n (by omega)
          refine ⟨rows ++ [p], by simp [h4], fun i hi => ?_⟩
          by_cases hin : i < n
          · have e : rowN (rows ++ [p]) i = rowN rows i := by
              unfold rowN
              rw [List.getD_eq_getElem?_getD, List.getElem?_append_left (by omega), ← List.getD_eq_getElem?_getD]
            rw [e]; exact h5 i hin
          · have : i = n := by omega
            subst this
            have e : rowN (rows ++ [p]) i = p := by
              unfold rowN
              rw [List.getD_eq_getElem?_getD, List.getElem?_append_right (by omega), h4]; simp
            rw [e]; exact h6
      obtain ⟨rows, hrl, hr⟩ := hlist len (Nat.le_refl _)
      refine ⟨false, rows, ?_⟩
      simp only [Conc]
      right; left
      refine ⟨trivial, a.block, a.off, cap, ?_, by simp [hrl]; omega, fun _ => ⟨lone_bad, hs2⟩, rowsAt_rws _ _ fun i hi => ?_⟩
      · obtain ⟨b, o, s⟩ := a
        dsimp only at hs1
        subst hs1
        simp [hrl]
      · have h6 := (hx i (by omega)).1
        rw [add_spot hs1] at h6
        exact ⟨_, h6, hr i (by omega)⟩
end
end Go.Abs
