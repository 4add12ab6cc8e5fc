import Derived.Test.YtdedhipkncagjaaK1x
import Derived.Test.YtdedhipkncagjaaK201
set_option linter.all false
set_option linter.unusedVariables false
set_option linter.unusedSimpArgs false
set_option linter.unusedSectionVars false
namespace Go.Abs
open Go.Proofs
/-! the fewest minutes -/
theorem ceil_mono {n n' d : Int} (h : n ≤ n') (hd : 1 ≤ d) : ceil n d ≤ ceil n' d := by
  unfold ceil
  have : (-n') / d ≤ (-n) / d := Int.ediv_le_ediv (by omega) (by omega)
  omega
def Pth (l : List Gr) (want : Int) : Int → List Nat → Int → Prop
  | d, [], m => d ≤ want ∧ m = 0
  | d, i :: q, m => i < l.length ∧ (l.getD i gr0).dm < d ∧ ∃ m', Pth l want (l.getD i gr0).dm q m' ∧ m = m' + ceil d (l.getD i gr0).rt
theorem Pth.nn {l : List Gr} {want : Int} (hR : GOk l) : ∀ {q : List Nat} {d m : Int}, 0 ≤ d → Pth l want d q m → 0 ≤ m
  | [], d, m, _, h => by rw [h.2]; exact Int.le_refl _
  | i :: q, d, m, hd, ⟨h1, h2, m', h200, h201⟩ => by
    have h202 := Pth.nn hR (hR i h1).1.1 h200
    have h203 := ceil_b (n := d) hd (hR i h1).2.1
    omega
theorem Pth.mono {l : List Gr} {w w2 : Int} (hR : GOk l) (hw : w2 ≤ w) : ∀ {q : List Nat} {d d2 m : Int}, 0 ≤ d → d ≤ d2 → Pth l w2 d2 q m → ∃ q' m', Pth l w d q' m' ∧ m' ≤ m
  | [], d, d2, m, hd, hdd, h => ⟨[], 0, ⟨by have := h.1; omega, rfl⟩, by rw [h.2]; exact Int.le_refl _⟩
  | i :: q, d, d2, m, hd, hdd, h0 => by
    have hm := Pth.nn hR (by omega) h0
    obtain ⟨h1, h2, m', h200, h201⟩ := h0
    have h203 := ceil_b (n := d2) (by omega) (hR i h1).2.1
    by_cases hlt : (l.getD i gr0).dm < d
    · obtain ⟨q', m1, g1, g2⟩ := Pth.mono hR hw (hR i h1).1.1 (Int.le_refl _) h200
      refine ⟨i :: q', _, ⟨h1, hlt, m1, g1, rfl⟩, ?_⟩
      have := ceil_mono (d := (l.getD i gr0).rt) hdd (hR i h1).2.1
      omega
    · obtain ⟨q', m1, g1, g2⟩ := Pth.mono hR hw hd (by omega) h200
      exact ⟨q', m1, g1, by omega⟩
end Go.Abs
namespace Go.Abs
open Go.Proofs
/-! trying all finds what the best finds -/
theorem fe_shift (e : Nat → Int) : ∀ n, fe e (n + 1) = if e 0 ≠ 0 then e 0 else fe (fun k => e (k + 1)) n
  | 0 => by
    simp only [fe]
    by_cases h : e 0 ≠ 0
    · rw [if_pos h]; simp
    · rw [if_neg h]; simp at h; simp [h]
  | n + 1 => by
    have ih := fe_shift e n
    rw [show fe e (n + 1 + 1) = if fe e (n + 1) ≠ 0 then fe e (n + 1) else e (n + 1) from rfl, ih]
    by_cases h : e 0 ≠ 0
    · rw [if_pos h, if_pos h, if_pos h]
    · rw [if_neg h, if_neg h]; rfl
theorem cmpL_cons {a b : Int} {p q : List Int} : cmpL (a :: p) (b :: q) = if cmpI a b ≠ 0 then cmpI a b else cmpL p q := by
  unfold cmpL
  rw [List.length_cons, fe_shift]
  rfl
theorem cmpI_neg {a b : Int} : cmpI a b < 0 ↔ a < b := by
  have := cmpI_lt (a := a) (b := b)
  rw [decide_eq_decide] at this
  exact this
theorem cmpL_tr : ∀ (p q r : List Int), p.length = q.length → q.length = r.length → cmpL p q < 0 → cmpL q r < 0 → cmpL p r < 0
  | [], [], _, _, _, h, _ => by exact absurd h (by decide)
  | [], b :: q, _, h, _, _, _ => by simp at h
  | a :: p, [], _, h, _, _, _ => by simp at h
  | a :: p, b :: q, [], _, h, _, _ => by simp at h
  | a :: p, b :: q, c :: r, hp, hq, h1, h2 => by
    rw [cmpL_cons] at h1 h2 ⊢
    have z : ∀ {x y : Int}, cmpI x y ≠ 0 ↔ x ≠ y := fun {x y} => not_congr cmpI_zero
    by_cases e1 : cmpI a b ≠ 0
    · rw [if_pos e1] at h1
      have g1 := cmpI_neg.1 h1
      by_cases e2 : cmpI b c ≠ 0
      · rw [if_pos e2] at h2
        have g2 := cmpI_neg.1 h2
        rw [if_pos (z.2 (by omega))]
        exact cmpI_neg.2 (by omega)
      · have := cmpI_zero.1 (Decidable.not_not.1 e2)
        subst this
        rw [if_pos e1]; exact h1
    · have := cmpI_zero.1 (Decidable.not_not.1 e1)
      subst this
      rw [if_neg e1] at h1
      by_cases e2 : cmpI a c ≠ 0
      · rw [if_pos e2] at h2 ⊢; exact h2
      · rw [if_neg e2] at h2 ⊢
        exact cmpL_tr p q r (by simpa using hp) (by simpa using hq) h1 h2
/-- before, as a proposition -/
def Bf (x y : List Int × Int) : Prop := x.2 < y.2 ∨ (x.2 = y.2 ∧ (x.1.length < y.1.length ∨ (x.1.length = y.1.length ∧ cmpL x.1 y.1 < 0)))
theorem Bf.trans {x y z : List Int × Int} (h : Bf x y) (h2 : Bf y z) : Bf x z := by
  unfold Bf at *
  rcases h with h | ⟨h, h' | ⟨h', h''⟩⟩
  · rcases h2 with g | ⟨g, _⟩ <;> exact .inl (by omega)
  · rcases h2 with g | ⟨g, g' | ⟨g', _⟩⟩
    · exact .inl (by omega)
    · exact .inr ⟨by omega, .inl (by omega)⟩
    · exact .inr ⟨by omega, .inl (by omega)⟩
  · rcases h2 with g | ⟨g, g' | ⟨g', g''⟩⟩
    · exact .inl (by omega)
    · exact .inr ⟨by omega, .inl (by omega)⟩
    · exact .inr ⟨by omega, .inr ⟨by omega, cmpL_tr _ _ _ h' g' h'' g''⟩⟩
end Go.Abs
namespace Go.Abs
open Go.Proofs
/-! the best sequence is accepted, with its minutes -/
def PthI (l : List Gr) (w : Int) : Int → List Int → Int → Prop
  | d, [], m => d ≤ w ∧ m = 0
  | d, i :: q, m => (0 ≤ i ∧ i ≤ (l.length : Int) - 1) ∧ (l.getD i.toNat gr0).dm < d ∧ ∃ m', PthI l w (l.getD i.toNat gr0).dm q m' ∧ m = m' + ceil d (l.getD i.toNat gr0).rt
theorem cnt_lt {e d : Int} (h : e < d) : ∀ (l : List Gr) (i : Nat), i < l.length → (l.getD i gr0).dm = e → l.countP (fun g => decide (g.dm < e)) + 1 ≤ l.countP (fun g => decide (g.dm < d))
  | [], i, hi, _ => by simp at hi
  | g :: l, 0, _, he => by
    have hg : g.dm = e := he
    have := List.countP_mono_left (l := l) (p := fun g => decide (g.dm < e)) (q := fun g => decide (g.dm < d)) fun x _ hx => by simp at hx ⊢; omega
    rw [List.countP_cons, List.countP_cons, if_neg (by simp; omega), if_pos (by simp; omega)]
    omega
  | g :: l, i + 1, hi, he => by
    have ih := cnt_lt h l i (by simpa using hi) (by rw [List.getD_cons_succ] at he; exact he)
    rw [List.countP_cons, List.countP_cons]
    by_cases h1 : g.dm < e
    · rw [if_pos (by simpa using h1), if_pos (by simp; omega)]; omega
    · rw [if_neg (by simpa using h1)]; split <;> omega
theorem PthI.len {l : List Gr} {w : Int} : ∀ {q : List Int} {d m : Int}, PthI l w d q m → q.length ≤ l.countP (fun g => decide (g.dm < d))
  | [], _, _, _ => Nat.zero_le _
  | i :: q, d, m, ⟨h1, h2, m', h200, _⟩ => by
    have h201 := PthI.len h200
    have h202 := cnt_lt h2 l i.toNat (by omega) rfl
    simp only [List.length_cons]
    omega
end Go.Abs
namespace Go.Abs
section
variable {P : Program} {s : List (Nat × AV)} {h : List Blk} {K : St → Prop} {g : FuncId} {args args' : List AV} {e : Option Nat} {d : Nat}
theorem Ext.cell {H H' : List Blk} (hx : Ext H H') {id : Nat} {o n : Bool} {sz : Nat} {els : List (List AV)} (h : H[id]? = some (.cells o n sz els)) : ∃ o', H'[id]? = some (.cells o' n sz els) := hx _ _ _ _ _ h
end
end Go.Abs
namespace Go.Abs
open Go.Proofs
/-! try, by induction on the depth -/
end Go.Abs
namespace Go.Abs
open Go.Proofs
/-! try: the first call, whose sequence is nil -/
end Go.Abs
namespace Go.Abs
open Go.Proofs
/-! try: a round of the first call -/
end Go.Abs
namespace Go.Abs
open Go.Proofs
/-! try: the first call -/
end Go.Abs
namespace Go.Abs
open Go.Proofs
/-! Shortest of the reference -/
end Go.Abs
namespace Go.Abs
open Go.Proofs
/-! GrindShortest: calls with nil -/
end Go.Abs
namespace Go.Abs
/-! reading lists of numbers -/
end Go.Abs
namespace Go.Abs
open Go.Proofs
/-! GrindShortest -/
end Go.Abs
namespace Go.Abs
open Go.Proofs
/-! strokes -/
structure Sk where
  nm : ByteArray
  nil : Bool
  wr : List Int
def sk0 : Sk := ⟨⟨#[]⟩, true, []⟩
def skR (l : List Sk) : List (List AV) := l.map fun s => [tx s.nm, ints s.nil s.wr]
def sAt (l : List Sk) (b : ByteArray) : Int := fstP (fun j => eqT (l.getD j sk0).nm b) l.length
/-- the error at a stroke -/
def sDup (l : List Sk) (k : Nat) : Bool := decide (∃ j, j < k ∧ eqT (l.getD j sk0).nm (l.getD k sk0).nm = true)
def sShp (l : List Sk) (k : Nat) : Bool := !(((l.getD k sk0).wr.length : Int) != ((l.getD 0 sk0).wr.length : Int)) && (decide (1 ≤ ((l.getD 0 sk0).wr.length : Int)) && decide (((l.getD 0 sk0).wr.length : Int) ≤ 40))
def outW (n : Int) : Bool := !(decide (0 ≤ n) && decide (n ≤ 100))
def sErr (l : List Sk) (k : Nat) : Int := if nmB (l.getD k sk0).nm = false then 4 else if sDup l k = true then 5 else if sShp l k = false then 10 else if (l.getD k sk0).wr.any outW = true then 2 else 0
def sE (l : List Sk) : Int := if l.length = 0 then 10 else if l.length > 12 then 8 else fe (sErr l) l.length
def sN (l : List Sk) : Int := if sE l = 0 then ((l.getD 0 sk0).wr.length : Int) else 0
/-- right strokes -/
structure SOk (l : List Sk) : Prop where
  pos : 0 < l.length
  few : l.length ≤ 12
  zon : 1 ≤ (l.getD 0 sk0).wr.length ∧ (l.getD 0 sk0).wr.length ≤ 40
  len : ∀ k, k < l.length → (l.getD k sk0).wr.length = (l.getD 0 sk0).wr.length
  rng : ∀ k, k < l.length → ∀ z, z < (l.getD 0 sk0).wr.length → 0 ≤ (l.getD k sk0).wr.getD z 0 ∧ (l.getD k sk0).wr.getD z 0 ≤ 100
end Go.Abs
