import Derived.Test.YtdedhipkncagjaaK9
import Derived.Test.YtdedhipkncagjaaK7x
import Derived.Test.YtdedhipkncagjaaK201
set_option linter.all false
set_option linter.unusedVariables false
set_option linter.unusedSimpArgs false
set_option linter.unusedSectionVars false
namespace Go.Abs
open Go.Proofs
/-! the best sequence is accepted, with its minutes -/
def PthI (l : List Gr) (w : Int) : Int → List Int → Int → Prop
  | d, [], m => d ≤ w ∧ m = 0
  | d, i :: q, m => (0 ≤ i ∧ i ≤ (l.length : Int) - 1) ∧ (l.getD i.toNat gr0).dm < d ∧ ∃ m', PthI l w (l.getD i.toNat gr0).dm q m' ∧ m = m' + ceil d (l.getD i.toNat gr0).rt
theorem cnt_lt {e d : Int} (h : e < d) : ∀ (l : List Gr) (i : Nat), i < l.length → (l.getD i gr0).dm = e → l.countP (fun g => decide (g.dm < e)) + 1 ≤ l.countP (fun g => decide (g.dm < d))
  | [], i, hi, _ => by simp at hi
  | g :: l, 0, _, he => by
    have hg : g.dm = e := he
    have := List.countP_mono_left (l := l) (p := fun g => decide (g.dm < e)) (q := fun g => decide (g.dm < d)) fun x _ hx => by simp at hx ⊢; omega
    rw [List.countP_cons, List.countP_cons, if_neg (by simp; omega), if_pos (by simp; omega)]
    omega
  | g :: l, i + 1, hi, he => by
    have ih := cnt_lt h l i (by simpa using hi) (by rw [List.getD_cons_succ] at he; exact he)
    rw [List.countP_cons, List.countP_cons]
    by_cases h1 : g.dm < e
    · rw [if_pos (by simpa using h1), if_pos (by simp; omega)]; omega
    · rw [if_neg (by simpa using h1)]; split <;> omega
theorem PthI.len {l : List Gr} {w : Int} : ∀ {q : List Int} {d m : Int}, PthI l w d q m → q.length ≤ l.countP (fun g => decide (g.dm < d))
  | [], _, _, _ => Nat.zero_le _
  | i :: q, d, m, ⟨h1, h2, m', h200, _⟩ => by
    have h201 := PthI.len h200
    have h202 := cnt_lt h2 l i.toNat (by omega) rfl
    simp only [List.length_cons]
    omega
end Go.Abs
namespace Go.Abs
section
variable {P : Program} {s : List (Nat × AV)} {h : List Blk} {K : St → Prop} {g : FuncId} {args args' : List AV} {e : Option Nat} {d : Nat}
theorem Ext.cell {H H' : List Blk} (hx : Ext H H') {id : Nat} {o n : Bool} {sz : Nat} {els : List (List AV)} (h : H[id]? = some (.cells o n sz els)) : ∃ o', H'[id]? = some (.cells o' n sz els) := hx _ _ _ _ _ h
theorem Rds.six {H : List Blk} {v w : AV} (h : Rds d H v w) (hd : d ≤ 6 := by omega) : rfy (hget H) 6 v = w := (h.to hd).1
end
end Go.Abs
namespace Go.Abs
/-! reading lists of numbers -/
theorem rfy_plain (h : Nat → Blk) {v : AV} (hp : plain v = true) : ∀ d, rfy h d v = v
  | 0 => rfl
  | d + 1 => by
    have ih := rfy_plain h hp d
    rw [rfy_up d v (by rw [ih]; exact hp), ih]
theorem rds_plain {d : Nat} {H : List Blk} {v : AV} (hp : plain v = true) : Rds d H v v := ⟨rfy_plain _ hp d, hp⟩
theorem rds_row {H : List Blk} {id len d z : Nat} {o n : Bool} {els : List (List AV)} (h : H[id]? = some (.cells o n z els)) (hp : plainR els = true) (hl : els.length = len) : Rds (d + 1) H (.lsl id 0 len) (.sl n z els) := by
  subst hl
  refine ⟨?_, hp⟩
  unfold rfy
  rw [hget_some' h]
  dsimp only
  rw [if_pos (by omega), List.drop_zero, List.take_length]
  refine congrArg (AV.sl n z) ?_
  rw [List.map_congr_left (g := _root_.id) fun r hr => (List.map_congr_left (g := _root_.id) fun a ha => rfy_plain _ (plainL_mem (plainR_mem hp _ hr) _ ha) d).trans (List.map_id r), List.map_id]
theorem rL2 {d e : Nat} {H : List Blk} {v w v' w' : AV} (h : Rds d H v w) (h' : Rds e H v' w') (hd6 : d ≤ 6) (he6 : e ≤ 6) : rfyL (hget H) [v, v'] = [w, w'] := by
  simp only [rfyL, List.map_cons, List.map_nil, h.six hd6, h'.six he6]
theorem rL3 {d1 d2 d3 : Nat} {H : List Blk} {v1 v2 v3 w1 w2 w3 : AV} (h1 : Rds d1 H v1 w1) (h2 : Rds d2 H v2 w2) (h200 : Rds d3 H v3 w3) (e1 : d1 ≤ 6) (e2 : d2 ≤ 6) (e200 : d3 ≤ 6) : rfyL (hget H) [v1, v2, v3] = [w1, w2, w3] := by
  simp only [rfyL, List.map_cons, List.map_nil, h1.six e1, h2.six e2, h200.six e200]
end Go.Abs
namespace Go.Abs
open Go.Proofs
/-! try: a round of the first call -/
end Go.Abs
namespace Go.Abs
open Go.Proofs
/-! try: the first call -/
end Go.Abs
namespace Go.Abs
open Go.Proofs
/-! Shortest of the reference -/
end Go.Abs
namespace Go.Abs
open Go.Proofs
/-! GrindShortest: calls with nil -/
end Go.Abs
namespace Go.Abs
open Go.Proofs
/-! GrindShortest -/
end Go.Abs
namespace Go.Abs
open Go.Proofs
/-! strokes -/
structure Sk where
  nm : ByteArray
  nil : Bool
  wr : List Int
def sk0 : Sk := ⟨⟨#[]⟩, true, []⟩
def skR (l : List Sk) : List (List AV) := l.map fun s => [tx s.nm, ints s.nil s.wr]
abbrev sts (nil : Bool) (l : List Sk) : AV := .sl nil 2 (skR l)
theorem skR_len (l : List Sk) : (skR l).length = l.length := by simp [skR]
theorem skR_get {l : List Sk} {k : Nat} (h : k < l.length) : (skR l).getD k [] = [tx (l.getD k sk0).nm, ints (l.getD k sk0).nil (l.getD k sk0).wr] := by
  simp [skR, List.getD_eq_getElem?_getD, h]
theorem plainR_sk (l : List Sk) : plainR (skR l) = true := by
  unfold skR
  induction l with
  | nil => rfl
  | cons s l ih => simp only [List.map_cons, plainR, plainL, plain, ih, plainR_ints, Bool.and_true]
theorem renR_sk (ρ : Nat → Option Nat) (l : List Sk) : renR ρ (skR l) = skR l := renR_plain ρ _ (plainR_sk l)
def sAt (l : List Sk) (b : ByteArray) : Int := fstP (fun j => eqT (l.getD j sk0).nm b) l.length
/-- the error at a stroke -/
def sDup (l : List Sk) (k : Nat) : Bool := decide (∃ j, j < k ∧ eqT (l.getD j sk0).nm (l.getD k sk0).nm = true)
def sShp (l : List Sk) (k : Nat) : Bool := !(((l.getD k sk0).wr.length : Int) != ((l.getD 0 sk0).wr.length : Int)) && (decide (1 ≤ ((l.getD 0 sk0).wr.length : Int)) && decide (((l.getD 0 sk0).wr.length : Int) ≤ 40))
def outW (n : Int) : Bool := !(decide (0 ≤ n) && decide (n ≤ 100))
def sErr (l : List Sk) (k : Nat) : Int := if nmB (l.getD k sk0).nm = false then 4 else if sDup l k = true then 5 else if sShp l k = false then 10 else if (l.getD k sk0).wr.any outW = true then 2 else 0
def sE (l : List Sk) : Int := if l.length = 0 then 10 else if l.length > 12 then 8 else fe (sErr l) l.length
def sN (l : List Sk) : Int := if sE l = 0 then ((l.getD 0 sk0).wr.length : Int) else 0
/-- right strokes -/
structure SOk (l : List Sk) : Prop where
  pos : 0 < l.length
  few : l.length ≤ 12
  zon : 1 ≤ (l.getD 0 sk0).wr.length ∧ (l.getD 0 sk0).wr.length ≤ 40
  len : ∀ k, k < l.length → (l.getD k sk0).wr.length = (l.getD 0 sk0).wr.length
  rng : ∀ k, k < l.length → ∀ z, z < (l.getD 0 sk0).wr.length → 0 ≤ (l.getD k sk0).wr.getD z 0 ∧ (l.getD k sk0).wr.getD z 0 ≤ 100
theorem any_get {p : Int → Bool} {xs : List Int} (h : xs.any p = false) {z : Nat} (hz : z < xs.length) : p (xs.getD z 0) = false := by
  rw [List.any_eq_false] at h
  have := h (xs.getD z 0) (by rw [List.getD_eq_getElem?_getD, List.getElem?_eq_getElem hz]; exact List.getElem_mem hz)
  simpa using this
theorem sE_ok {l : List Sk} (h : sE l = 0) : SOk l := by
  unfold sE at h
  by_cases h0 : l.length = 0
  · rw [if_pos h0] at h; simp at h
  rw [if_neg h0] at h
  by_cases h1 : l.length > 12
  · rw [if_pos h1] at h; simp at h
  rw [if_neg h1] at h
  have each : ∀ k, k < l.length → sShp l k = true ∧ (l.getD k sk0).wr.any outW = false := fun k hk => by
    have := fe_all h k hk
    unfold sErr at this
    split at this
    · simp at this
    split at this
    · simp at this
    split at this
    · simp at this
    rename_i g3
    split at this
    · simp at this
    rename_i g4
    exact ⟨by simpa using g3, by simpa using g4⟩
  have shp : ∀ k, k < l.length → (l.getD k sk0).wr.length = (l.getD 0 sk0).wr.length ∧ 1 ≤ (l.getD 0 sk0).wr.length ∧ (l.getD 0 sk0).wr.length ≤ 40 := fun k hk => by
    have := (each k hk).1
    unfold sShp at this
    simp only [Bool.and_eq_true, Bool.not_eq_true', bne_eq_false_iff_eq, decide_eq_true_eq] at this
    omega
  refine ⟨by omega, by omega, (shp 0 (by omega)).2, fun k hk => (shp k hk).1, fun k hk z hz => ?_⟩
  have := any_get (each k hk).2 (z := z) (by rw [(shp k hk).1]; exact hz)
  unfold outW at this
  simpa using this
end Go.Abs
namespace Go.Abs
open Go.Proofs
/-! Light; numbers of which something is true -/
end Go.Abs
namespace Go.Abs
open Go.Proofs
/-! Copy: what it yields reads as the strokes -/
def otS (l : List Sk) (k : Nat) : List (List AV) := (List.range k).map fun i => [tx (l.getD i sk0).nm, AV.lsl (3 * i + 2) 0 (l.getD i sk0).wr.length]
structure I22 (l : List Sk) (k : Nat) (H : List Blk) : Prop where
  n : H.length = 3 * k
  r : ∀ i, i < k → ∃ o, H[3 * i + 2]? = some (.cells o false 1 ((l.getD i sk0).wr.map fun x => [i64 x]))
  t : k ≠ 0 → H[3 * k - 2]? = some (.cells true false 2 (otS l k))
end Go.Abs
namespace Go.Abs
open Go.Proofs
/-! CheckStrokes of the reference -/
end Go.Abs
