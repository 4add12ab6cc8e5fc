import Derived.Test.YtdedhipkncagjaaKO1
set_option linter.all false
set_option linter.unusedVariables false
set_option linter.unusedSimpArgs false
set_option linter.unusedSectionVars false
namespace Go.Abs
open Go.Proofs
/-! WearOf of the reference -/
end Go.Abs
namespace Go.Abs
open Go.Proofs
/-! worn -/
end Go.Abs
namespace Go.Abs
open Go.Proofs
/-! WearOf -/
end Go.Abs
namespace Go.Abs
open Go.Proofs
/-! plans: the error, the closure, the copy -/
end Go.Abs
namespace Go.Abs
open Go.Proofs
/-! too much wear; equal demands; sessions copied -/
end Go.Abs
namespace Go.Abs
open Go.Proofs
/-! the wear of a plan -/
/-- right minutes -/
structure POk (l : List Sk) (mi : List Int) (den : Int) : Prop where
  len : mi.length = l.length
  den : 1 ≤ den ∧ den ≤ 10000000
  mn : ∀ k, k < mi.length → 0 ≤ mi.getD k 0 ∧ mi.getD k 0 ≤ 1000000000
end Go.Abs
namespace Go.Abs
open Go.Proofs
/-! wear -/
end Go.Abs
namespace Go.Abs
open Go.Proofs
/-! checks one after the other: memory only grows -/
def App (H H' : List Blk) : Prop := ∃ X, H' = H ++ X
theorem App.refl (H : List Blk) : App H H := ⟨[], by simp⟩
theorem App.trans {A B C : List Blk} (h1 : App A B) (h2 : App B C) : App A C := by
  obtain ⟨X, rfl⟩ := h1
  obtain ⟨Y, rfl⟩ := h2
  exact ⟨X ++ Y, by simp⟩
theorem App.app (H X : List Blk) : App H (H ++ X) := ⟨X, rfl⟩
theorem App.at_ {H H' : List Blk} (h : App H H') {i : Nat} {b : Blk} (hb : H[i]? = some b) : H'[i]? = some b := by
  obtain ⟨X, rfl⟩ := h
  exact at_in hb X
theorem App.cell {H H' : List Blk} (hx : App H H') {id : Nat} {o n : Bool} {sz : Nat} {els : List (List AV)} (h : H[id]? = some (.cells o n sz els)) : ∃ o', H'[id]? = some (.cells o' n sz els) := ⟨o, hx.at_ h⟩
theorem App.ext {H H' : List Blk} (h : App H H') : Ext H H' := by
  obtain ⟨X, rfl⟩ := h
  exact Ext.app H X
def ClB (g : FuncId) (cap : List AV) (H : List Blk) (e : Int) : Prop := ∀ H', App H H' → ACall Try.prog g cap H' fun r H'' => r = i64 e ∧ App H' H''
theorem ClB.ext {g : FuncId} {cap : List AV} {H H2 : List Blk} {e : Int} (h : ClB g cap H e) (hx : App H H2) : ClB g cap H2 e := fun H' h' => h H' (hx.trans h')
end Go.Abs
namespace Go.Abs
open Go.Proofs
/-! rest: what is left of a demand -/
def lwz (lo W : List Int) (z : Nat) : Int := if lo.getD z 0 - W.getD z 0 > 0 then lo.getD z 0 - W.getD z 0 else 0
def hwz (hi W : List Int) (z : Nat) : Int := hi.getD z 0 - W.getD z 0
abbrev dB (d1 : Bool) (lo : List Int) (d2 : Bool) (hi : List Int) : Blk := .cells true false 2 [[ints d1 lo, ints d2 hi]]
abbrev zB : Blk := .cells true false 2 [[.sl true 0 [], .sl true 0 []]]
abbrev oL (M k : Nat) : AV := if k = 0 then .sl true 0 [] else .lsl M 0 k
structure I96 (H0 : List Blk) (q : Nat) (lo hi W : List Int) (k : Nat) (H : List Blk) : Prop where
  n : H.length = H0.length + 4 * k
  s : ∀ i, i < H0.length → i ≠ q → H[i]? = H0[i]?
  b : H[q]? = some (.cells true false 2 [[oL (H0.length + 4 * k - 3) k, oL (H0.length + 4 * k - 1) k]])
  t1 : k ≠ 0 → H[H0.length + 4 * k - 3]? = some (.cells true false 1 (fR k (lwz lo W)))
  t2 : k ≠ 0 → H[H0.length + 4 * k - 1]? = some (.cells true false 1 (fR k (hwz hi W)))
theorem I96.fin {H0 F : List Blk} {q : Nat} {lo hi W : List Int} {k : Nat} (hq : q < H0.length) (hF : F.length = H0.length + 4 * k) (hs : ∀ i, i < H0.length → i ≠ q → F[i]? = H0[i]?) (a c : Blk) : I96 H0 q lo hi W (k + 1) (F.set q (.cells true false 2 [[.lsl (H0.length + 4 * k + 1) 0 (k + 1), .lsl (H0.length + 4 * k + 3) 0 (k + 1)]]) ++ [a, .cells true false 1 (fR (k + 1) (lwz lo W)), c, .cells true false 1 (fR (k + 1) (hwz hi W))]) := by
  have e1 : H0.length + 4 * (k + 1) - 3 = H0.length + 4 * k + 1 := by omega
  have e2 : H0.length + 4 * (k + 1) - 1 = H0.length + 4 * k + 3 := by omega
  refine ⟨by simp [hF]; omega, fun i hi hne => ?_, ?_, fun _ => ?_, fun _ => ?_⟩
  · rw [List.getElem?_append_left (by simp; omega), List.getElem?_set_ne (fun h => hne h.symm)]; exact hs i hi hne
  · rw [List.getElem?_append_left (by simp; omega), List.getElem?_set_self (by omega), e1, e2]
    simp [oL]
  · rw [e1, List.getElem?_append_right (by simp; omega), List.length_set, hF, show H0.length + 4 * k + 1 - (H0.length + 4 * k) = 1 by omega]; rfl
  · rw [e2, List.getElem?_append_right (by simp; omega), List.length_set, hF, show H0.length + 4 * k + 3 - (H0.length + 4 * k) = 3 by omega]; rfl
abbrev H96 (d1 d2 : Bool) (lo hi : List Int) : List Blk := [dB d1 lo d2 hi, zB, zB]
end Go.Abs
namespace Go.Abs
open Go.Proofs
/-! rest, whole -/
structure RB (lo hi W : List Int) (n : Nat) : Prop where
  nn : 1 ≤ n ∧ n ≤ 1000
  l1 : lo.length = n
  l2 : hi.length = n
  l3 : W.length = n
  b : ∀ k, k < n → (-1000000000 ≤ lo.getD k 0 ∧ lo.getD k 0 ≤ 1000000000) ∧ (-1000000000 ≤ hi.getD k 0 ∧ hi.getD k 0 ≤ 1000000000) ∧ (-1000000000 ≤ W.getD k 0 ∧ W.getD k 0 ≤ 1000000000)
theorem I96.zero (d1 d2 : Bool) (lo hi W : List Int) : I96 (H96 d1 d2 lo hi) 2 lo hi W 0 (H96 d1 d2 lo hi) := ⟨rfl, fun i _ _ => rfl, rfl, fun h => (h rfl).elim, fun h => (h rfl).elim⟩
end Go.Abs
namespace Go.Abs
open Go.Proofs
/-! CheckPlan -/
structure DOk (n : Nat) (lo hi : List Int) : Prop where
  l1 : lo.length = n
  l2 : hi.length = n
  r1 : ∀ z, z < n → 0 ≤ lo.getD z 0 ∧ lo.getD z 0 ≤ 10000
  r2 : ∀ z, z < n → 0 ≤ hi.getD z 0 ∧ hi.getD z 0 ≤ 10000
  le : ∀ z, z < n → lo.getD z 0 ≤ hi.getD z 0
end Go.Abs
namespace Go.Abs
open Go.Proofs
/-! LeftFor of the reference: a round -/
end Go.Abs
namespace Go.Abs
open Go.Proofs
/-! LeftFor of the reference, whole -/
end Go.Abs
namespace Go.Abs
open Go.Proofs
/-! LeftFor -/
end Go.Abs
namespace Go.Abs
open Go.Proofs
theorem take_rfy (h : Nat → Blk) (xs : List Int) : List.take xs.length (List.map ((fun r => List.map (rfy h 5) r) ∘ fun x => [i64 x]) xs) = List.map (fun x => [i64 x]) xs := by
  rw [List.take_of_length_le (by simp)]; exact List.map_congr_left fun x _ => rfl
/-! AddSession -/
theorem fz4 (A B C : Blk) (n : Bool) (z : Nat) (X : List (List AV)) (T : List Blk) : freeze1 (A :: B :: C :: .cells true n z X :: T) 3 = A :: B :: C :: .cells false n z X :: T := rfl
structure AdB (s : List Ss) (x : Ss) : Prop where
  l : s.length < 900000
  m : ∀ k, k < s.length → (s.getD k ss0).mi.size < 1000000
  x : x.mi.size < 1000000
theorem AdB.m2 {s : List Ss} {x : Ss} (h : AdB s x) : ∀ k, k < (s ++ [x]).length → ((s ++ [x]).getD k ss0).mi.size < 1000000 := fun k hk => by
  rw [List.getD_eq_getElem?_getD]
  by_cases h1 : k < s.length
  · rw [List.getElem?_append_left h1, ← List.getD_eq_getElem?_getD]; exact h.m k h1
  · have : k = s.length := by simp at hk; omega
    subst this
    simp [h.x]
end Go.Abs
