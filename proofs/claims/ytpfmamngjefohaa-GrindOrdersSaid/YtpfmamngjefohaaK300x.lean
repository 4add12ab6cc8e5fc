import Derived.Test.YtpfmamngjefohaaK210
set_option linter.all false
set_option linter.unusedVariables false
set_option linter.unusedSimpArgs false
set_option linter.unusedSectionVars false
namespace Go.Abs
open Go.Proofs
/-! strokes -/
structure Sk where
  nm : ByteArray
  nil : Bool
  wr : List Int
def sk0 : Sk := ⟨⟨#[]⟩, true, []⟩
def skR (l : List Sk) : List (List AV) := l.map fun s => [tx s.nm, ints s.nil s.wr]
abbrev sts (nil : Bool) (l : List Sk) : AV := .sl nil 2 (skR l)
theorem skR_len (l : List Sk) : (skR l).length = l.length := by simp [skR]
theorem skR_get {l : List Sk} {k : Nat} (h : k < l.length) : (skR l).getD k [] = [tx (l.getD k sk0).nm, ints (l.getD k sk0).nil (l.getD k sk0).wr] := by
  simp [skR, List.getD_eq_getElem?_getD, h]
theorem plainR_sk (l : List Sk) : plainR (skR l) = true := by
  unfold skR
  induction l with
  | nil => rfl
  | cons s l ih => simp only [List.map_cons, plainR, plainL, plain, ih, plainR_ints, Bool.and_true]
theorem renR_sk (ρ : Nat → Option Nat) (l : List Sk) : renR ρ (skR l) = skR l := renR_plain ρ _ (plainR_sk l)
def sAt (l : List Sk) (b : ByteArray) : Int := fstP (fun j => eqT (l.getD j sk0).nm b) l.length
/-- the error at a stroke -/
def sDup (l : List Sk) (k : Nat) : Bool := decide (∃ j, j < k ∧ eqT (l.getD j sk0).nm (l.getD k sk0).nm = true)
def sShp (l : List Sk) (k : Nat) : Bool := !(((l.getD k sk0).wr.length : Int) != ((l.getD 0 sk0).wr.length : Int)) && (decide (1 ≤ ((l.getD 0 sk0).wr.length : Int)) && decide (((l.getD 0 sk0).wr.length : Int) ≤ 40))
def outW (n : Int) : Bool := !(decide (0 ≤ n) && decide (n ≤ 100))
def sErr (l : List Sk) (k : Nat) : Int := if nmB (l.getD k sk0).nm = false then 4 else if sDup l k = true then 5 else if sShp l k = false then 10 else if (l.getD k sk0).wr.any outW = true then 2 else 0
def sE (l : List Sk) : Int := if l.length = 0 then 10 else if l.length > 12 then 8 else fe (sErr l) l.length
def sN (l : List Sk) : Int := if sE l = 0 then ((l.getD 0 sk0).wr.length : Int) else 0
/-- right strokes -/
structure SOk (l : List Sk) : Prop where
  pos : 0 < l.length
  few : l.length ≤ 12
  zon : 1 ≤ (l.getD 0 sk0).wr.length ∧ (l.getD 0 sk0).wr.length ≤ 40
  len : ∀ k, k < l.length → (l.getD k sk0).wr.length = (l.getD 0 sk0).wr.length
  rng : ∀ k, k < l.length → ∀ z, z < (l.getD 0 sk0).wr.length → 0 ≤ (l.getD k sk0).wr.getD z 0 ∧ (l.getD k sk0).wr.getD z 0 ≤ 100
theorem any_get {p : Int → Bool} {xs : List Int} (h : xs.any p = false) {z : Nat} (hz : z < xs.length) : p (xs.getD z 0) = false := by
  rw [List.any_eq_false] at h
  have := h (xs.getD z 0) (by rw [List.getD_eq_getElem?_getD, List.getElem?_eq_getElem hz]; exact List.getElem_mem hz)
  simpa using this
theorem sE_ok {l : List Sk} (h : sE l = 0) : SOk l := by
  unfold sE at h
  by_cases h0 : l.length = 0
  · rw [if_pos h0] at h; simp at h
  rw [if_neg h0] at h
  by_cases h1 : l.length > 12
  · rw [if_pos h1] at h; simp at h
  rw [if_neg h1] at h
  have each : ∀ k, k < l.length → sShp l k = true ∧ (l.getD k sk0).wr.any outW = false := fun k hk => by
    have := fe_all h k hk
    unfold sErr at this
    split at this
    · simp at this
    split at this
    · simp at this
    split at this
    · simp at this
    rename_i g3
    split at this
    · simp at this
    rename_i g4
    exact ⟨by simpa using g3, by simpa using g4⟩
  have shp : ∀ k, k < l.length → (l.getD k sk0).wr.length = (l.getD 0 sk0).wr.length ∧ 1 ≤ (l.getD 0 sk0).wr.length ∧ (l.getD 0 sk0).wr.length ≤ 40 := fun k hk => by
    have := (each k hk).1
    unfold sShp at this
    simp only [Bool.and_eq_true, Bool.not_eq_true', bne_eq_false_iff_eq, decide_eq_true_eq] at this
    omega
  refine ⟨by omega, by omega, (shp 0 (by omega)).2, fun k hk => (shp k hk).1, fun k hk z hz => ?_⟩
  have := any_get (each k hk).2 (z := z) (by rw [(shp k hk).1]; exact hz)
  unfold outW at this
  simpa using this
/-- the limits of the law -/
def lgS (s : Sk) : Bool := decide (s.nm.size ≤ 30) && (decide (s.wr.length ≤ 10) || (decide (40 < s.wr.length) && decide (s.wr.length ≤ 43)))
def lgB (l : List Sk) : Bool := (decide (l.length ≤ 4) || (decide (12 < l.length) && decide (l.length ≤ 15))) && l.all lgS
theorem all_getSk {p : Sk → Bool} {l : List Sk} : l.all p = true ↔ ∀ k, k < l.length → p (l.getD k sk0) = true := by
  constructor
  · intro h k hk
    rw [List.all_eq_true] at h
    exact h _ (by rw [List.getD_eq_getElem?_getD, List.getElem?_eq_getElem hk]; exact List.getElem_mem hk)
  · intro h
    rw [List.all_eq_true]
    intro x hx
    obtain ⟨k, hk, rfl⟩ := List.mem_iff_getElem.1 hx
    have := h k hk
    rwa [List.getD_eq_getElem?_getD, List.getElem?_eq_getElem hk] at this
end Go.Abs
