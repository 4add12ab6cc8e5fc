import Derived.Test.YtdedhipkncagjaaK9
set_option linter.all false
set_option linter.unusedVariables false
set_option linter.unusedSimpArgs false
set_option linter.unusedSectionVars false
namespace Go.Abs
open Go.Proofs
/-! the program's CheckGrits -/
structure J45 (l : List Gr) (k : Nat) (H : List Blk) : Prop where
  m : ∃ es, H[0]? = some (.obj (.smap .str es)) ∧ Seen (fun b => ∃ j, j < k ∧ eqT (l.getD j gr0).nm b = true) es
end Go.Abs
namespace Go.Abs
open Go.Proofs
end Go.Abs
namespace Go.Abs
open Go.Proofs
/-! StepMinutes; law 7 -/
end Go.Abs
namespace Go.Abs
open Go.Proofs
/-! sequences of grits -/
/-- the first error of so many -/
def fe (e : Nat → Int) : Nat → Int
  | 0 => 0
  | k + 1 => if fe e k ≠ 0 then fe e k else e k
theorem fe_stop {e : Nat → Int} {k : Nat} (h0 : fe e k = 0) (h : e k ≠ 0) : ∀ n, k < n → fe e n = e k := by
  intro n
  induction n with
  | zero => intro hn; omega
  | succ n ih =>
    intro hn
    rcases Nat.lt_succ_iff_lt_or_eq.1 hn with h1 | rfl
    · have := ih h1
      simp only [fe]
      rw [if_pos (by rw [this]; exact h), this]
    · simp only [fe]
      rw [if_neg (by rw [h0]; simp)]
theorem fe_next {e : Nat → Int} {k : Nat} (h0 : fe e k = 0) (h : e k = 0) : fe e (k + 1) = 0 := by
  simp only [fe]; rw [if_neg (by rw [h0]; simp), h]
theorem fe_all {e : Nat → Int} : ∀ {n : Nat}, fe e n = 0 → ∀ k, k < n → e k = 0
  | 0, _, k, hk => by omega
  | n + 1, h, k, hk => by
    simp only [fe] at h
    by_cases h0 : fe e n ≠ 0
    · rw [if_pos h0] at h; exact (h0 h).elim
    · rw [if_neg h0] at h
      rcases Nat.lt_succ_iff_lt_or_eq.1 hk with h1 | rfl
      · exact fe_all (by simpa using h0) k h1
      · exact h
theorem ceil_b {n d : Int} (hn : 0 ≤ n) (hd : 1 ≤ d) : 0 ≤ ceil n d ∧ ceil n d ≤ n := by
  unfold ceil
  have h1 := Int.mul_ediv_add_emod (-n) d
  have h2 := Int.emod_nonneg (-n) (show d ≠ 0 by omega)
  have h200 := Int.emod_lt_of_pos (-n) (show 0 < d by omega)
  have h201 : (-n) / d ≤ 0 := by
    rcases (by omega : (-n) / d ≤ 0 ∨ 1 ≤ (-n) / d) with h | h
    · exact h
    · have : d * 1 ≤ d * ((-n) / d) := Int.mul_le_mul_of_nonneg_left h (by omega)
      omega
  have h202 : -n ≤ (-n) / d := by
    have : d * ((-n) / d) ≤ 1 * ((-n) / d) := Int.mul_le_mul_of_nonpos_right hd h201
    rcases (by omega : -n ≤ (-n) / d ∨ (-n) / d ≤ -n - 1) with h | h
    · exact h
    · have h203 : d * ((-n) / d) ≤ d * (-n - 1) := Int.mul_le_mul_of_nonneg_left h (by omega)
      have h204 : d * (-n - 1) = d * (-n) - d := by rw [Int.mul_sub, Int.mul_one]
      have h205 : d * (-n) ≤ 1 * (-n) := Int.mul_le_mul_of_nonpos_right hd (by omega)
      omega
  omega
end Go.Abs
namespace Go.Abs
open Go.Proofs
/-! sequences compared -/
def cmpI (a b : Int) : Int := if a < b then -1 else if b < a then 1 else 0
def cme (p q : List Int) (k : Nat) : Int := cmpI (p.getD k 0) (q.getD k 0)
def cmpL (p q : List Int) : Int := fe (cme p q) p.length
end Go.Abs
namespace Go.Abs
open Go.Proofs
/-! CheckSequence of the reference -/
end Go.Abs
namespace Go.Abs
open Go.Proofs
/-! CheckSequence -/
end Go.Abs
namespace Go.Abs
open Go.Proofs
/-! GrindSequences -/
end Go.Abs
namespace Go.Abs
open Go.Proofs
/-! the best sequence -/
def GOk (l : List Gr) : Prop := ∀ k, k < l.length → (0 ≤ (l.getD k gr0).dm ∧ (l.getD k gr0).dm ≤ 1000000) ∧ 1 ≤ (l.getD k gr0).rt ∧ (l.getD k gr0).rt ≤ 100000
end Go.Abs
namespace Go.Abs
open Go.Proofs
/-! best: one round -/
/- a grit that is too coarse -/
end Go.Abs
namespace Go.Abs
open Go.Proofs
end Go.Abs
namespace Go.Abs
open Go.Proofs
end Go.Abs
namespace Go.Abs
open Go.Proofs
end Go.Abs
namespace Go.Abs
open Go.Proofs
/-! best -/
end Go.Abs
namespace Go.Abs
open Go.Proofs
/-! Shortest -/
end Go.Abs
namespace Go.Abs
open Go.Proofs
/-! Shortest, without the sequence -/
end Go.Abs
namespace Go.Abs
open Go.Proofs
/-! before of the reference; equal lists -/
theorem cmpI_lt {a b : Int} : decide (cmpI a b < 0) = decide (a < b) := by
  unfold cmpI
  by_cases h : a < b
  · rw [if_pos h]; simp [h]
  · rw [if_neg h]
    by_cases h2 : b < a
    · rw [if_pos h2]; simp [h]
    · rw [if_neg h2]; simp [h]
theorem cmpI_zero {a b : Int} : cmpI a b = 0 ↔ a = b := by
  unfold cmpI
  by_cases h : a < b
  · rw [if_pos h]; simp; omega
  · rw [if_neg h]
    by_cases h2 : b < a
    · rw [if_pos h2]; simp; omega
    · rw [if_neg h2]; simp; omega
end Go.Abs
namespace Go.Abs
open Go.Proofs
/-! the fewest minutes -/
theorem ceil_mono {n n' d : Int} (h : n ≤ n') (hd : 1 ≤ d) : ceil n d ≤ ceil n' d := by
  unfold ceil
  have : (-n') / d ≤ (-n) / d := Int.ediv_le_ediv (by omega) (by omega)
  omega
def Pth (l : List Gr) (want : Int) : Int → List Nat → Int → Prop
  | d, [], m => d ≤ want ∧ m = 0
  | d, i :: q, m => i < l.length ∧ (l.getD i gr0).dm < d ∧ ∃ m', Pth l want (l.getD i gr0).dm q m' ∧ m = m' + ceil d (l.getD i gr0).rt
theorem Pth.nn {l : List Gr} {want : Int} (hR : GOk l) : ∀ {q : List Nat} {d m : Int}, 0 ≤ d → Pth l want d q m → 0 ≤ m
  | [], d, m, _, h => by rw [h.2]; exact Int.le_refl _
  | i :: q, d, m, hd, ⟨h1, h2, m', h200, h201⟩ => by
    have h202 := Pth.nn hR (hR i h1).1.1 h200
    have h203 := ceil_b (n := d) hd (hR i h1).2.1
    omega
theorem Pth.mono {l : List Gr} {w w2 : Int} (hR : GOk l) (hw : w2 ≤ w) : ∀ {q : List Nat} {d d2 m : Int}, 0 ≤ d → d ≤ d2 → Pth l w2 d2 q m → ∃ q' m', Pth l w d q' m' ∧ m' ≤ m
  | [], d, d2, m, hd, hdd, h => ⟨[], 0, ⟨by have := h.1; omega, rfl⟩, by rw [h.2]; exact Int.le_refl _⟩
  | i :: q, d, d2, m, hd, hdd, h0 => by
    have hm := Pth.nn hR (by omega) h0
    obtain ⟨h1, h2, m', h200, h201⟩ := h0
    have h203 := ceil_b (n := d2) (by omega) (hR i h1).2.1
    by_cases hlt : (l.getD i gr0).dm < d
    · obtain ⟨q', m1, g1, g2⟩ := Pth.mono hR hw (hR i h1).1.1 (Int.le_refl _) h200
      refine ⟨i :: q', _, ⟨h1, hlt, m1, g1, rfl⟩, ?_⟩
      have := ceil_mono (d := (l.getD i gr0).rt) hdd (hR i h1).2.1
      omega
    · obtain ⟨q', m1, g1, g2⟩ := Pth.mono hR hw hd (by omega) h200
      exact ⟨q', m1, g1, by omega⟩
end Go.Abs
namespace Go.Abs
open Go.Proofs
/-! not by rfl: simp takes a rule that holds by rfl twice, and a run of skipped operations then doubles its time with each -/
/-! a block may be frozen at any time -/
theorem freeze1_no {H : List Blk} {id : Nat} {n : Bool} {z : Nat} {els : List (List AV)} (h : H[id]? = some (.cells false n z els)) : freeze1 H id = H := by
  unfold freeze1
  split
  · rename_i n2 s2 e2 h2
    rw [h] at h2
    simp at h2
  · rfl
/-- blocks but for one are as they were, or frozen -/
structure Kp (id : Nat) (H H' : List Blk) : Prop where
  len : H.length ≤ H'.length
  cell : ∀ k n z els, k ≠ id → (∃ o, H[k]? = some (.cells o n z els)) → ∃ o, H'[k]? = some (.cells o n z els)
theorem Kp.refl (id : Nat) (H : List Blk) : Kp id H H := ⟨Nat.le_refl _, fun _ _ _ _ _ h => h⟩
theorem Kp.trans {id : Nat} {H H' H'' : List Blk} (h : Kp id H H') (h' : Kp id H' H'') : Kp id H H'' := ⟨Nat.le_trans h.len h'.len, fun k n z els hk hc => h'.cell k n z els hk (h.cell k n z els hk hc)⟩
theorem Kp.app (id : Nat) (H X : List Blk) : Kp id H (H ++ X) := ⟨by simp, fun k n z els _ ⟨o, h⟩ => ⟨o, by rw [List.getElem?_append_left (List.getElem?_eq_some_iff.1 h).1]; exact h⟩⟩
theorem Kp.set (id : Nat) (H : List Blk) (v : Blk) : Kp id H (H.set id v) := ⟨by simp, fun k n z els hk ⟨o, h⟩ => ⟨o, by rw [List.getElem?_set_ne (Ne.symm hk)]; exact h⟩⟩
end Go.Abs
namespace Go.Abs
open Go.Proofs
/-! try: the look at a sequence that is there -/
end Go.Abs
namespace Go.Abs
open Go.Proofs
/-! try: the look where there is one already -/
end Go.Abs
namespace Go.Abs
open Go.Proofs
/-! try: the look where there is one already -/
end Go.Abs
namespace Go.Abs
open Go.Proofs
/-! try: the look, all cases -/
end Go.Abs
namespace Go.Abs
open Go.Proofs
/-! try: one round -/
end Go.Abs
namespace Go.Abs
open Go.Proofs
/-! try -/
end Go.Abs
namespace Go.Abs
open Go.Proofs
/-! try, by induction on the depth -/
end Go.Abs
namespace Go.Abs
open Go.Proofs
/-! try: the first call, whose sequence is nil -/
end Go.Abs
namespace Go.Abs
open Go.Proofs
/-! trying all finds what the best finds -/
theorem fe_shift (e : Nat → Int) : ∀ n, fe e (n + 1) = if e 0 ≠ 0 then e 0 else fe (fun k => e (k + 1)) n
  | 0 => by
    simp only [fe]
    by_cases h : e 0 ≠ 0
    · rw [if_pos h]; simp
    · rw [if_neg h]; simp at h; simp [h]
  | n + 1 => by
    have ih := fe_shift e n
    rw [show fe e (n + 1 + 1) = if fe e (n + 1) ≠ 0 then fe e (n + 1) else e (n + 1) from rfl, ih]
    by_cases h : e 0 ≠ 0
    · rw [if_pos h, if_pos h, if_pos h]
    · rw [if_neg h, if_neg h]; rfl
theorem cmpL_cons {a b : Int} {p q : List Int} : cmpL (a :: p) (b :: q) = if cmpI a b ≠ 0 then cmpI a b else cmpL p q := by
  unfold cmpL
  rw [List.length_cons, fe_shift]
  rfl
theorem cmpI_neg {a b : Int} : cmpI a b < 0 ↔ a < b := by
  have := cmpI_lt (a := a) (b := b)
  rw [decide_eq_decide] at this
  exact this
theorem cmpL_tr : ∀ (p q r : List Int), p.length = q.length → q.length = r.length → cmpL p q < 0 → cmpL q r < 0 → cmpL p r < 0
  | [], [], _, _, _, h, _ => by exact absurd h (by decide)
  | [], b :: q, _, h, _, _, _ => by simp at h
  | a :: p, [], _, h, _, _, _ => by simp at h
  | a :: p, b :: q, [], _, h, _, _ => by simp at h
  | a :: p, b :: q, c :: r, hp, hq, h1, h2 => by
    rw [cmpL_cons] at h1 h2 ⊢
    have z : ∀ {x y : Int}, cmpI x y ≠ 0 ↔ x ≠ y := fun {x y} => not_congr cmpI_zero
    by_cases e1 : cmpI a b ≠ 0
    · rw [if_pos e1] at h1
      have g1 := cmpI_neg.1 h1
      by_cases e2 : cmpI b c ≠ 0
      · rw [if_pos e2] at h2
        have g2 := cmpI_neg.1 h2
        rw [if_pos (z.2 (by omega))]
        exact cmpI_neg.2 (by omega)
      · have := cmpI_zero.1 (Decidable.not_not.1 e2)
        subst this
        rw [if_pos e1]; exact h1
    · have := cmpI_zero.1 (Decidable.not_not.1 e1)
      subst this
      rw [if_neg e1] at h1
      by_cases e2 : cmpI a c ≠ 0
      · rw [if_pos e2] at h2 ⊢; exact h2
      · rw [if_neg e2] at h2 ⊢
        exact cmpL_tr p q r (by simpa using hp) (by simpa using hq) h1 h2
/-- before, as a proposition -/
def Bf (x y : List Int × Int) : Prop := x.2 < y.2 ∨ (x.2 = y.2 ∧ (x.1.length < y.1.length ∨ (x.1.length = y.1.length ∧ cmpL x.1 y.1 < 0)))
theorem Bf.trans {x y z : List Int × Int} (h : Bf x y) (h2 : Bf y z) : Bf x z := by
  unfold Bf at *
  rcases h with h | ⟨h, h' | ⟨h', h''⟩⟩
  · rcases h2 with g | ⟨g, _⟩ <;> exact .inl (by omega)
  · rcases h2 with g | ⟨g, g' | ⟨g', _⟩⟩
    · exact .inl (by omega)
    · exact .inr ⟨by omega, .inl (by omega)⟩
    · exact .inr ⟨by omega, .inl (by omega)⟩
  · rcases h2 with g | ⟨g, g' | ⟨g', g''⟩⟩
    · exact .inl (by omega)
    · exact .inr ⟨by omega, .inl (by omega)⟩
    · exact .inr ⟨by omega, .inr ⟨by omega, cmpL_tr _ _ _ h' g' h'' g''⟩⟩
end Go.Abs
