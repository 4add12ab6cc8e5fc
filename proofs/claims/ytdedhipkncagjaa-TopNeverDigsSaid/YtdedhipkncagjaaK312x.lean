import Derived.Test.YtdedhipkncagjaaK311x
set_option linter.all false
set_option linter.unusedVariables false
set_option linter.unusedSimpArgs false
set_option linter.unusedSectionVars false
namespace Go.Abs
open Go.Proofs
/-! first, of so many checks; CheckSessions -/
theorem first3 {H : List Blk} {id : Nat} {o nl : Bool} {g1 g2 g3 : FuncId} {c1 c2 c200 : List AV} {e1 e2 e200 : Int} (hH : H[id]? = some (.cells o nl 1 [[.clo (.func g1) [] c1], [.clo (.func g2) [] c2], [.clo (.func g3) [] c200]])) (h1 : ClA g1 c1 H e1) (h2 : e1 = 0 → ClA g2 c2 H e2) (h200 : e1 = 0 → e2 = 0 → ClA g3 c200 H e200) :
    ACall Try.prog 38 [.lsl id 0 3] H fun r H' => r = i64 (if e1 ≠ 0 then e1 else if e2 ≠ 0 then e2 else e200) ∧ Ext H H' := by
  have h := k38 (n := 3) hH rfl (by omega) (fun k => if k = 0 then e1 else if k = 1 then e2 else e200) fun k hk hz => by
    match k, hk with
    | 0, _ => exact ⟨g1, c1, rfl, h1⟩
    | 1, _ =>
      have : e1 = 0 := by simpa [fe] using hz
      exact ⟨g2, c2, rfl, h2 this⟩
    | 2, _ =>
      by_cases g : e1 = 0
      · have : e2 = 0 := by simpa [fe, g] using hz
        exact ⟨g3, c200, rfl, h200 g this⟩
      · simp [fe, g] at hz
  have e : fe (fun k => if k = 0 then e1 else if k = 1 then e2 else e200) 3 = if e1 ≠ 0 then e1 else if e2 ≠ 0 then e2 else e200 := by
    simp only [fe]
    by_cases g : e1 = 0
    · simp [g]
    · simp [g]
  rw [e] at h
  exact h
/-- strokes as they come -/
structure StV (l : List Sk) (b : Bool) (m : Nat) (E : List (List AV)) : Prop where
  p : plainR E = true
  f : Fn Try.prog 63 [.sl b m E] (.tup [i64 (sN l), i64 (sE l)]) []
  g : sE l = 0 → m = 2 ∧ E = skR l
end Go.Abs
namespace Go.Abs
open Go.Proofs
/-! wear -/
def fR (n : Nat) (f : Nat → Int) : List (List AV) := (List.range n).map fun z => [i64 (f z)]
def fL (n : Nat) (f : Nat → Int) : List Int := (List.range n).map f
theorem fR_len (n : Nat) (f : Nat → Int) : (fR n f).length = n := by simp [fR]
theorem fL_len (n : Nat) (f : Nat → Int) : (fL n f).length = n := by simp [fL]
theorem fR_get {n z : Nat} (f : Nat → Int) (h : z < n) : (fR n f).getD z [] = [i64 (f z)] := by simp [fR, List.getD_eq_getElem?_getD, h]
theorem fL_get {n z : Nat} (f : Nat → Int) (h : z < n) : (fL n f).getD z 0 = f z := by simp [fL, List.getD_eq_getElem?_getD, h]
theorem fR_eq (n : Nat) (f : Nat → Int) : fR n f = (fL n f).map fun x => [i64 x] := by simp [fR, fL, List.map_map, Function.comp_def]
theorem fR_congr {n : Nat} {f g : Nat → Int} (h : ∀ z, z < n → f z = g z) : fR n f = fR n g := List.map_congr_left fun z hz => by rw [h z (List.mem_range.1 hz)]
theorem fL_congr {n : Nat} {f g : Nat → Int} (h : ∀ z, z < n → f z = g z) : fL n f = fL n g := List.map_congr_left fun z hz => h z (List.mem_range.1 hz)
theorem fR_set {n z : Nat} (f : Nat → Int) (v : Int) : (fR n f).set z [i64 v] = fR n fun y => if y = z then v else f y := by
  unfold fR
  refine List.ext_getElem (by simp) fun i h1 h2 => ?_
  simp only [List.getElem_set, List.getElem_map, List.getElem_range]
  by_cases h : z = i
  · subst h; simp
  · rw [if_neg h, if_neg (fun e => h e.symm)]
theorem fR_zero (n : Nat) : List.replicate n [i64 0] = fR n fun _ => 0 := by
  refine List.ext_getElem (by simp [fR]) fun i h1 h2 => ?_
  simp [fR]
/-- right sessions -/
structure ZOk (l : List Sk) (s : List Ss) : Prop where
  few : s.length ≤ 200
  at_ : ∀ k, k < s.length → 0 ≤ sAt l (s.getD k ss0).st ∧ sAt l (s.getD k ss0).st < l.length
  mn : ∀ k, k < s.length → 1 ≤ (s.getD k ss0).mn ∧ (s.getD k ss0).mn ≤ 10000
theorem zE_ok {l : List Sk} {s : List Ss} (h : zE l s = 0) : ZOk l s := by
  unfold zE at h
  by_cases h1 : s.length > 200
  · rw [if_pos h1] at h; simp at h
  rw [if_neg h1] at h
  have each : ∀ k, k < s.length → 0 ≤ sAt l (s.getD k ss0).st ∧ (1 ≤ (s.getD k ss0).mn ∧ (s.getD k ss0).mn ≤ 10000) := fun k hk => by
    have := fe_all h k hk
    unfold zEr at this
    split at this
    · simp at this
    split at this
    · simp at this
    rename_i g2
    split at this
    · simp at this
    rename_i g3
    exact ⟨by simpa using g2, by simpa using g3⟩
  refine ⟨by omega, fun k hk => ⟨(each k hk).1, ?_⟩, fun k hk => (each k hk).2⟩
  have h0 := (each k hk).1
  unfold sAt at h0 ⊢
  rcases fstP_cases (fun j => eqT (l.getD j sk0).nm (s.getD k ss0).st) l.length with ⟨h2, _⟩ | ⟨j, h1, h2, _⟩
  · omega
  · omega
/-- the wear of a stroke in a zone; that of so many sessions -/
def wOf (l : List Sk) (b : ByteArray) (z : Nat) : Int := (l.getD (sAt l b).toNat sk0).wr.getD z 0
def wz (l : List Sk) (s : List Ss) (b : ByteArray) : Nat → Nat → Int
  | 0, _ => 0
  | k + 1, z => if eqT (s.getD k ss0).mi b = true then wz l s b k z + (s.getD k ss0).mn * wOf l (s.getD k ss0).st z else wz l s b k z
theorem wOf_bd {l : List Sk} {s : List Ss} (hS : SOk l) (hZ : ZOk l s) {k z : Nat} (hk : k < s.length) (hz : z < (l.getD 0 sk0).wr.length) : 0 ≤ wOf l (s.getD k ss0).st z ∧ wOf l (s.getD k ss0).st z ≤ 100 := by
  have h := hZ.at_ k hk
  exact hS.rng _ (by omega) z hz
theorem mul_bd {a b A B : Int} (ha : 0 ≤ a ∧ a ≤ A) (hb : 0 ≤ b ∧ b ≤ B) : 0 ≤ a * b ∧ a * b ≤ A * B :=
  ⟨Int.mul_nonneg ha.1 hb.1, Int.le_trans (Int.mul_le_mul_of_nonneg_left hb.2 ha.1) (Int.mul_le_mul_of_nonneg_right ha.2 (by omega))⟩
theorem wz_bd {l : List Sk} {s : List Ss} (hS : SOk l) (hZ : ZOk l s) (b : ByteArray) {z : Nat} (hz : z < (l.getD 0 sk0).wr.length) : ∀ k, k ≤ s.length → 0 ≤ wz l s b k z ∧ wz l s b k z ≤ 1000000 * (k : Int)
  | 0, _ => by simp [wz]
  | k + 1, hk => by
    have h1 := wz_bd hS hZ b hz k (by omega)
    have h2 := wOf_bd hS hZ (k := k) (by omega) hz
    have h200 := hZ.mn k (by omega)
    have h201 := mul_bd (a := (s.getD k ss0).mn) (A := 10000) (by omega) h2
    simp only [wz]
    split <;> (push_cast; omega)
end Go.Abs
namespace Go.Abs
open Go.Proofs
/-! WearOf of the reference -/
def gz (A : Nat → Int) (c : Int) (w : Nat → Int) (z : Nat) : Nat → Int := fun y => if y < z then A y + c * w y else A y
theorem gz_set {n z : Nat} (A : Nat → Int) (c : Int) (w : Nat → Int) : (fR n (gz A c w z)).set z [i64 (A z + c * w z)] = fR n (gz A c w (z + 1)) := by
  rw [fR_set]
  refine fR_congr fun y hy => ?_
  unfold gz
  by_cases h1 : y = z
  · subst h1; rw [if_pos rfl, if_pos (by omega)]
  · rw [if_neg h1]
    by_cases h2 : y < z
    · rw [if_pos h2, if_pos (by omega)]
    · rw [if_neg h2, if_neg (by omega)]
theorem gz_at (A : Nat → Int) (c : Int) (w : Nat → Int) (z : Nat) : gz A c w z z = A z := by unfold gz; rw [if_neg (by omega)]
theorem gz_end {n : Nat} (A : Nat → Int) (c : Int) (w : Nat → Int) : fR n (gz A c w n) = fR n fun y => A y + c * w y := fR_congr fun y hy => by unfold gz; rw [if_pos hy]
theorem gz_zero (n : Nat) (A : Nat → Int) (c : Int) (w : Nat → Int) : fR n (gz A c w 0) = fR n A := fR_congr fun y hy => by unfold gz; rw [if_neg (by omega)]
def wrL (l : List Sk) (s : List Ss) (b : ByteArray) : List Int := fL (l.getD 0 sk0).wr.length (wz l s b s.length)
end Go.Abs
