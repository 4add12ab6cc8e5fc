import Derived.Test.YtpfmamngjefohaaK62
set_option linter.all false
set_option linter.unusedVariables false
set_option linter.unusedSimpArgs false
set_option linter.unusedSectionVars false
namespace Go.Abs
open Go.Proofs
/-! the best sequence is accepted, with its minutes -/
def PthI (l : List Gr) (w : Int) : Int → List Int → Int → Prop
  | d, [], m => d ≤ w ∧ m = 0
  | d, i :: q, m => (0 ≤ i ∧ i ≤ (l.length : Int) - 1) ∧ (l.getD i.toNat gr0).dm < d ∧ ∃ m', PthI l w (l.getD i.toNat gr0).dm q m' ∧ m = m' + ceil d (l.getD i.toNat gr0).rt
theorem bst_pthI {l : List Gr} {w : Int} : ∀ (n : Nat) (d : Int) (x : List Int × Int), bst l w n d = some x → PthI l w d x.1 x.2
  | 0, d, x, h => by
    unfold bst at h
    split at h
    · rename_i hle; simp at h; subst h; exact ⟨hle, rfl⟩
    · simp at h
  | n + 1, d, x, h => by
    unfold bst at h
    split at h
    · rename_i hle; simp at h; subst h; exact ⟨hle, rfl⟩
    · obtain ⟨i, h1, h2⟩ := bsf_from _ h
      unfold bcand at h2
      split at h2
      · simp at h2
      · rename_i hlt
        cases ho : bst l w n (l.getD i gr0).dm with
        | none => rw [ho] at h2; simp at h2
        | some y =>
          rw [ho] at h2
          simp only [Option.map_some, Option.some.injEq] at h2
          subst h2
          have h3 := bst_pthI n _ y ho
          exact ⟨by constructor <;> omega, by rw [Int.toNat_natCast]; omega, y.2, by rw [Int.toNat_natCast]; exact h3, by rw [Int.toNat_natCast]⟩
theorem cnt_lt {e d : Int} (h : e < d) : ∀ (l : List Gr) (i : Nat), i < l.length → (l.getD i gr0).dm = e → l.countP (fun g => decide (g.dm < e)) + 1 ≤ l.countP (fun g => decide (g.dm < d))
  | [], i, hi, _ => by simp at hi
  | g :: l, 0, _, he => by
    have hg : g.dm = e := he
    have := List.countP_mono_left (l := l) (p := fun g => decide (g.dm < e)) (q := fun g => decide (g.dm < d)) fun x _ hx => by simp at hx ⊢; omega
    rw [List.countP_cons, List.countP_cons, if_neg (by simp; omega), if_pos (by simp; omega)]
    omega
  | g :: l, i + 1, hi, he => by
    have ih := cnt_lt h l i (by simpa using hi) (by rw [List.getD_cons_succ] at he; exact he)
    rw [List.countP_cons, List.countP_cons]
    by_cases h1 : g.dm < e
    · rw [if_pos (by simpa using h1), if_pos (by simp; omega)]; omega
    · rw [if_neg (by simpa using h1)]; split <;> omega
theorem PthI.len {l : List Gr} {w : Int} : ∀ {q : List Int} {d m : Int}, PthI l w d q m → q.length ≤ l.countP (fun g => decide (g.dm < d))
  | [], _, _, _ => Nat.zero_le _
  | i :: q, d, m, ⟨h1, h2, m', h3, _⟩ => by
    have h4 := PthI.len h3
    have h5 := cnt_lt h2 l i.toNat (by omega) rfl
    simp only [List.length_cons]
    omega
theorem sqD_cons (l : List Gr) (i : Int) (q : List Int) (a : Int) (k : Nat) : sqD l (i :: q) a (k + 1) = sqD l q (l.getD i.toNat gr0).dm k := by
  unfold sqD
  rw [if_neg (by omega), Nat.add_sub_cancel]
  cases k with
  | zero => rfl
  | succ k => rw [if_neg (by omega), Nat.add_sub_cancel, List.getD_cons_succ]
theorem sqe_cons (l : List Gr) (i : Int) (q : List Int) (a : Int) (k : Nat) : sqe l (i :: q) a (k + 1) = sqe l q (l.getD i.toNat gr0).dm k := by
  unfold sqe
  rw [sqD_cons, List.getD_cons_succ]
theorem sqS_cons (l : List Gr) (i : Int) (q : List Int) (a : Int) : ∀ k, sqS l (i :: q) a (k + 1) = ceil a (l.getD i.toNat gr0).rt + sqS l q (l.getD i.toNat gr0).dm k
  | 0 => by simp only [sqS]; unfold sqD; simp
  | k + 1 => by
    have ih := sqS_cons l i q a k
    rw [show sqS l (i :: q) a (k + 1 + 1) = sqS l (i :: q) a (k + 1) + ceil (sqD l (i :: q) a (k + 1)) (l.getD ((i :: q).getD (k + 1) 0).toNat gr0).rt from rfl, ih, sqD_cons, List.getD_cons_succ]
    simp only [sqS]
    omega
theorem PthI.sq {l : List Gr} {w : Int} : ∀ {q : List Int} {d m : Int}, PthI l w d q m → fe (sqe l q d) q.length = 0 ∧ sqD l q d q.length ≤ w ∧ sqS l q d q.length = m
  | [], d, m, ⟨h1, h2⟩ => ⟨rfl, h1, h2.symm⟩
  | i :: q, d, m, ⟨h1, h2, m', h3, h4⟩ => by
    obtain ⟨g1, g2, g3⟩ := PthI.sq h3
    have e0 : sqe l (i :: q) d 0 = 0 := by
      unfold sqe
      rw [List.getD_cons_zero, if_neg (by rw [sqR_iff.2 h1]; simp), if_neg]
      unfold sqD; rw [if_pos rfl]; omega
    refine ⟨?_, ?_, ?_⟩
    · rw [List.length_cons, fe_shift, if_neg (by rw [e0]; simp), show (fun k => sqe l (i :: q) d (k + 1)) = sqe l q (l.getD i.toNat gr0).dm from funext fun k => sqe_cons l i q d k]
      exact g1
    · rw [List.length_cons, sqD_cons]; exact g2
    · rw [List.length_cons, sqS_cons]; omega
theorem bst_acc {l : List Gr} {w d : Int} {n : Nat} {q : List Int} {m : Int} (hl : l.length ≤ 12) (hdw : dpB d w = true) (h : bst l w n d = some (q, m)) : sqE l q d w = 0 ∧ sqM l q d w = m ∧ q.length ≤ l.length := by
  have h1 := bst_pthI n d _ h
  have h2 : q.length ≤ l.length := Nat.le_trans h1.len List.countP_le_length
  obtain ⟨g1, g2, g3⟩ := h1.sq
  dsimp only at g1 g2 g3
  have hE : sqE l q d w = 0 := by
    unfold sqE
    rw [if_neg (by rw [hdw]; simp), if_neg (by omega), if_neg (by rw [g1]; simp), if_neg (by omega)]
  exact ⟨hE, by unfold sqM; rw [if_pos hE]; exact g3, h2⟩
end Go.Abs
