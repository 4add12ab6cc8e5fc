import Derived.Test.YtpfmamngjefohaaK9
import Derived.Test.YtpfmamngjefohaaK310x
set_option linter.all false
set_option linter.unusedVariables false
set_option linter.unusedSimpArgs false
set_option linter.unusedSectionVars false
namespace Go.Abs
open Go.Proofs
/-! wear -/
def fR (n : Nat) (f : Nat → Int) : List (List AV) := (List.range n).map fun z => [i64 (f z)]
def fL (n : Nat) (f : Nat → Int) : List Int := (List.range n).map f
theorem fR_len (n : Nat) (f : Nat → Int) : (fR n f).length = n := by simp [fR]
theorem fL_len (n : Nat) (f : Nat → Int) : (fL n f).length = n := by simp [fL]
theorem fR_get {n z : Nat} (f : Nat → Int) (h : z < n) : (fR n f).getD z [] = [i64 (f z)] := by simp [fR, List.getD_eq_getElem?_getD, h]
theorem fL_get {n z : Nat} (f : Nat → Int) (h : z < n) : (fL n f).getD z 0 = f z := by simp [fL, List.getD_eq_getElem?_getD, h]
theorem fR_eq (n : Nat) (f : Nat → Int) : fR n f = (fL n f).map fun x => [i64 x] := by simp [fR, fL, List.map_map, Function.comp_def]
theorem fR_congr {n : Nat} {f g : Nat → Int} (h : ∀ z, z < n → f z = g z) : fR n f = fR n g := List.map_congr_left fun z hz => by rw [h z (List.mem_range.1 hz)]
theorem fL_congr {n : Nat} {f g : Nat → Int} (h : ∀ z, z < n → f z = g z) : fL n f = fL n g := List.map_congr_left fun z hz => h z (List.mem_range.1 hz)
theorem fR_set {n z : Nat} (f : Nat → Int) (v : Int) : (fR n f).set z [i64 v] = fR n fun y => if y = z then v else f y := by
  unfold fR
  refine List.ext_getElem (by simp) fun i h1 h2 => ?_
  simp only [List.getElem_set, List.getElem_map, List.getElem_range]
  by_cases h : z = i
  · subst h; simp
  · rw [if_neg h, if_neg (fun e => h e.symm)]
theorem fR_zero (n : Nat) : List.replicate n [i64 0] = fR n fun _ => 0 := by
  refine List.ext_getElem (by simp [fR]) fun i h1 h2 => ?_
  simp [fR]
/-- right sessions -/
structure ZOk (l : List Sk) (s : List Ss) : Prop where
  few : s.length ≤ 200
  at_ : ∀ k, k < s.length → 0 ≤ sAt l (s.getD k ss0).st ∧ sAt l (s.getD k ss0).st < l.length
  mn : ∀ k, k < s.length → 1 ≤ (s.getD k ss0).mn ∧ (s.getD k ss0).mn ≤ 10000
theorem mul_bd {a b A B : Int} (ha : 0 ≤ a ∧ a ≤ A) (hb : 0 ≤ b ∧ b ≤ B) : 0 ≤ a * b ∧ a * b ≤ A * B :=
  ⟨Int.mul_nonneg ha.1 hb.1, Int.le_trans (Int.mul_le_mul_of_nonneg_left hb.2 ha.1) (Int.mul_le_mul_of_nonneg_right ha.2 (by omega))⟩
end Go.Abs
namespace Go.Abs
open Go.Proofs
/-! WearOf of the reference -/
def gz (A : Nat → Int) (c : Int) (w : Nat → Int) (z : Nat) : Nat → Int := fun y => if y < z then A y + c * w y else A y
theorem gz_set {n z : Nat} (A : Nat → Int) (c : Int) (w : Nat → Int) : (fR n (gz A c w z)).set z [i64 (A z + c * w z)] = fR n (gz A c w (z + 1)) := by
  rw [fR_set]
  refine fR_congr fun y hy => ?_
  unfold gz
  by_cases h1 : y = z
  · subst h1; rw [if_pos rfl, if_pos (by omega)]
  · rw [if_neg h1]
    by_cases h2 : y < z
    · rw [if_pos h2, if_pos (by omega)]
    · rw [if_neg h2, if_neg (by omega)]
theorem gz_at (A : Nat → Int) (c : Int) (w : Nat → Int) (z : Nat) : gz A c w z z = A z := by unfold gz; rw [if_neg (by omega)]
theorem gz_end {n : Nat} (A : Nat → Int) (c : Int) (w : Nat → Int) : fR n (gz A c w n) = fR n fun y => A y + c * w y := fR_congr fun y hy => by unfold gz; rw [if_pos hy]
theorem gz_zero (n : Nat) (A : Nat → Int) (c : Int) (w : Nat → Int) : fR n (gz A c w 0) = fR n A := fR_congr fun y hy => by unfold gz; rw [if_neg (by omega)]
end Go.Abs
namespace Go.Abs
open Go.Proofs
/-! worn -/
end Go.Abs
namespace Go.Abs
open Go.Proofs
/-! WearOf -/
end Go.Abs
namespace Go.Abs
open Go.Proofs
/-! GrindSessions -/
end Go.Abs
namespace Go.Abs
open Go.Proofs
/-! GrindSessions: all cases -/
theorem lgB_bd {l : List Sk} (h : lgB l = true) : l.length ≤ 15 ∧ ∀ k, k < l.length → (l.getD k sk0).nm.size ≤ 30 ∧ (l.getD k sk0).wr.length ≤ 43 := by
  unfold lgB at h
  simp only [Bool.and_eq_true, Bool.or_eq_true, decide_eq_true_eq] at h
  refine ⟨by omega, fun k hk => ?_⟩
  have := all_getSk.1 h.2 k hk
  unfold lgS at this
  simp only [Bool.and_eq_true, Bool.or_eq_true, decide_eq_true_eq] at this
  omega
end Go.Abs
