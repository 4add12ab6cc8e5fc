import Derived.Test.YtookdheldelepaaGreatDoorPCmin
import Derived.Test.YtookdheldelepaaGreatDoorK7x
import Derived.Test.YtookdheldelepaaGreatDoorK50x
set_option linter.all false
set_option linter.unusedVariables false
set_option linter.unusedSimpArgs false
set_option linter.unusedSectionVars false
namespace Go.Abs
open Go.Proofs
/-! not by rfl: simp takes a rule that holds by rfl twice, and a run of skipped operations then doubles its time with each -/
/-! a block may be frozen at any time -/
/-- blocks but for one are as they were, or frozen -/
structure Kp (id : Nat) (H H' : List Blk) : Prop where
  len : H.length ≤ H'.length
  cell : ∀ k n z els, k ≠ id → (∃ o, H[k]? = some (.cells o n z els)) → ∃ o, H'[k]? = some (.cells o n z els)
theorem Kp.refl (id : Nat) (H : List Blk) : Kp id H H := ⟨Nat.le_refl _, fun _ _ _ _ _ h => h⟩
theorem Kp.trans {id : Nat} {H H' H'' : List Blk} (h : Kp id H H') (h' : Kp id H' H'') : Kp id H H'' := ⟨Nat.le_trans h.len h'.len, fun k n z els hk hc => h'.cell k n z els hk (h.cell k n z els hk hc)⟩
theorem Kp.app (id : Nat) (H X : List Blk) : Kp id H (H ++ X) := ⟨by simp, fun k n z els _ ⟨o, h⟩ => ⟨o, by rw [List.getElem?_append_left (List.getElem?_eq_some_iff.1 h).1]; exact h⟩⟩
theorem Kp.set (id : Nat) (H : List Blk) (v : Blk) : Kp id H (H.set id v) := ⟨by simp, fun k n z els hk ⟨o, h⟩ => ⟨o, by rw [List.getElem?_set_ne (Ne.symm hk)]; exact h⟩⟩
/-- the best so far, in memory -/
def SB (id : Nat) (o : Pol) (H : List Blk) : Prop := match o with
  | none => H[id]? = some (.cells true false 3 [[.sl true 0 [], i64 0, bl false]])
  | some x => ∃ j b, H[id]? = some (.cells true false 3 [[.lsl j 0 x.1.length, i64 x.2, bl true]]) ∧ H[j]? = some (.cells b false 1 (x.1.map fun x => [i64 x]))
end Go.Abs
namespace Go.Abs
open Go.Proofs
/-! try: the look at a sequence that is there -/
end Go.Abs
namespace Go.Abs
open Go.Proofs
/-! try: the look where there is one already -/
end Go.Abs
namespace Go.Abs
open Go.Proofs
/-! try: the look where there is one already -/
end Go.Abs
namespace Go.Abs
open Go.Proofs
/-! try: the look, all cases -/
end Go.Abs
namespace Go.Abs
open Go.Proofs
/-! try: one round -/
end Go.Abs
namespace Go.Abs
open Go.Proofs
/-! try -/
end Go.Abs
namespace Go.Abs
open Go.Proofs
/-! try, by induction on the depth -/
end Go.Abs
namespace Go.Abs
open Go.Proofs
/-! try: the first call, whose sequence is nil -/
end Go.Abs
namespace Go.Abs
open Go.Proofs
/-! try: a round of the first call -/
end Go.Abs
namespace Go.Abs
open Go.Proofs
/-! try: the first call -/
end Go.Abs
namespace Go.Abs
open Go.Proofs
/-! trying all finds what the best finds -/
theorem fe_shift (e : Nat → Int) : ∀ n, fe e (n + 1) = if e 0 ≠ 0 then e 0 else fe (fun k => e (k + 1)) n
  | 0 => by
    simp only [fe]
    by_cases h : e 0 ≠ 0
    · rw [if_pos h]; simp
    · rw [if_neg h]; simp at h; simp [h]
  | n + 1 => by
    have ih := fe_shift e n
    rw [show fe e (n + 1 + 1) = if fe e (n + 1) ≠ 0 then fe e (n + 1) else e (n + 1) from rfl, ih]
    by_cases h : e 0 ≠ 0
    · rw [if_pos h, if_pos h, if_pos h]
    · rw [if_neg h, if_neg h]; rfl
theorem cmpL_cons {a b : Int} {p q : List Int} : cmpL (a :: p) (b :: q) = if cmpI a b ≠ 0 then cmpI a b else cmpL p q := by
  unfold cmpL
  rw [List.length_cons, fe_shift]
  rfl
theorem cmpI_neg {a b : Int} : cmpI a b < 0 ↔ a < b := by
  have := cmpI_lt (a := a) (b := b)
  rw [decide_eq_decide] at this
  exact this
theorem cmpL_tr : ∀ (p q r : List Int), p.length = q.length → q.length = r.length → cmpL p q < 0 → cmpL q r < 0 → cmpL p r < 0
  | [], [], _, _, _, h, _ => by exact absurd h (by decide)
  | [], b :: q, _, h, _, _, _ => by simp at h
  | a :: p, [], _, h, _, _, _ => by simp at h
  | a :: p, b :: q, [], _, h, _, _ => by simp at h
  | a :: p, b :: q, c :: r, hp, hq, h1, h2 => by
    rw [cmpL_cons] at h1 h2 ⊢
    have z : ∀ {x y : Int}, cmpI x y ≠ 0 ↔ x ≠ y := fun {x y} => not_congr cmpI_zero
    by_cases e1 : cmpI a b ≠ 0
    · rw [if_pos e1] at h1
      have g1 := cmpI_neg.1 h1
      by_cases e2 : cmpI b c ≠ 0
      · rw [if_pos e2] at h2
        have g2 := cmpI_neg.1 h2
        rw [if_pos (z.2 (by omega))]
        exact cmpI_neg.2 (by omega)
      · have := cmpI_zero.1 (Decidable.not_not.1 e2)
        subst this
        rw [if_pos e1]; exact h1
    · have := cmpI_zero.1 (Decidable.not_not.1 e1)
      subst this
      rw [if_neg e1] at h1
      by_cases e2 : cmpI a c ≠ 0
      · rw [if_pos e2] at h2 ⊢; exact h2
      · rw [if_neg e2] at h2 ⊢
        exact cmpL_tr p q r (by simpa using hp) (by simpa using hq) h1 h2
/-- before, as a proposition -/
def Bf (x y : List Int × Int) : Prop := x.2 < y.2 ∨ (x.2 = y.2 ∧ (x.1.length < y.1.length ∨ (x.1.length = y.1.length ∧ cmpL x.1 y.1 < 0)))
theorem Bf.trans {x y z : List Int × Int} (h : Bf x y) (h2 : Bf y z) : Bf x z := by
  unfold Bf at *
  rcases h with h | ⟨h, h' | ⟨h', h''⟩⟩
  · rcases h2 with g | ⟨g, _⟩ <;> exact .inl (by omega)
  · rcases h2 with g | ⟨g, g' | ⟨g', _⟩⟩
    · exact .inl (by omega)
    · exact .inr ⟨by omega, .inl (by omega)⟩
    · exact .inr ⟨by omega, .inl (by omega)⟩
  · rcases h2 with g | ⟨g, g' | ⟨g', g''⟩⟩
    · exact .inl (by omega)
    · exact .inr ⟨by omega, .inl (by omega)⟩
    · exact .inr ⟨by omega, .inr ⟨by omega, cmpL_tr _ _ _ h' g' h'' g''⟩⟩
end Go.Abs
