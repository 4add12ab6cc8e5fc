import Derived.Test.YtpfmamngjefohaaK37x
set_option linter.all false
set_option linter.unusedVariables false
set_option linter.unusedSimpArgs false
set_option linter.unusedSectionVars false
namespace Go.Abs
open Go.Proofs
/-! the fewest minutes -/
theorem ceil_mono {n n' d : Int} (h : n ≤ n') (hd : 1 ≤ d) : ceil n d ≤ ceil n' d := by
  unfold ceil
  have : (-n') / d ≤ (-n) / d := Int.ediv_le_ediv (by omega) (by omega)
  omega
def Pth (l : List Gr) (want : Int) : Int → List Nat → Int → Prop
  | d, [], m => d ≤ want ∧ m = 0
  | d, i :: q, m => i < l.length ∧ (l.getD i gr0).dm < d ∧ ∃ m', Pth l want (l.getD i gr0).dm q m' ∧ m = m' + ceil d (l.getD i gr0).rt
theorem Pth.nn {l : List Gr} {want : Int} (hR : GOk l) : ∀ {q : List Nat} {d m : Int}, 0 ≤ d → Pth l want d q m → 0 ≤ m
  | [], d, m, _, h => by rw [h.2]; exact Int.le_refl _
  | i :: q, d, m, hd, ⟨h1, h2, m', h3, h4⟩ => by
    have h5 := Pth.nn hR (hR i h1).1.1 h3
    have h6 := ceil_b (n := d) hd (hR i h1).2.1
    omega
theorem Pth.mono {l : List Gr} {w w2 : Int} (hR : GOk l) (hw : w2 ≤ w) : ∀ {q : List Nat} {d d2 m : Int}, 0 ≤ d → d ≤ d2 → Pth l w2 d2 q m → ∃ q' m', Pth l w d q' m' ∧ m' ≤ m
  | [], d, d2, m, hd, hdd, h => ⟨[], 0, ⟨by have := h.1; omega, rfl⟩, by rw [h.2]; exact Int.le_refl _⟩
  | i :: q, d, d2, m, hd, hdd, h0 => by
    have hm := Pth.nn hR (by omega) h0
    obtain ⟨h1, h2, m', h3, h4⟩ := h0
    have h6 := ceil_b (n := d2) (by omega) (hR i h1).2.1
    by_cases hlt : (l.getD i gr0).dm < d
    · obtain ⟨q', m1, g1, g2⟩ := Pth.mono hR hw (hR i h1).1.1 (Int.le_refl _) h3
      refine ⟨i :: q', _, ⟨h1, hlt, m1, g1, rfl⟩, ?_⟩
      have := ceil_mono (d := (l.getD i gr0).rt) hdd (hR i h1).2.1
      omega
    · obtain ⟨q', m1, g1, g2⟩ := Pth.mono hR hw hd (by omega) h3
      exact ⟨q', m1, g1, by omega⟩
theorem Pth.tail {g : Gr} {l : List Gr} {w : Int} : ∀ {q : List Nat} {d m : Int}, Pth l w d q m → Pth (g :: l) w d (q.map (· + 1)) m
  | [], _, _, h => h
  | i :: q, d, m, ⟨h1, h2, m', h3, h4⟩ => by
    refine ⟨by simp; omega, ?_, m', ?_, ?_⟩
    · rw [List.getD_cons_succ]; exact h2
    · rw [List.getD_cons_succ]; exact Pth.tail h3
    · rw [List.getD_cons_succ]; exact h4
theorem befB_le {p q : List Int} {m m' : Int} : (befB p m q m' = true → m ≤ m') ∧ (befB p m q m' = false → m' ≤ m) := by
  unfold befB
  by_cases h : m ≠ m'
  · rw [if_pos h]; simp; omega
  · have : m = m' := by omega
    subst this
    exact ⟨fun _ => Int.le_refl _, fun _ => Int.le_refl _⟩
theorem bpick_min {a b : Pol} {c : List Int × Int} (h : a = some c ∨ b = some c) : ∃ x, bpick a b = some x ∧ x.2 ≤ c.2 := by
  cases a with
  | none =>
    rcases h with h | h
    · simp at h
    · exact ⟨c, h, Int.le_refl _⟩
  | some a =>
    cases b with
    | none =>
      rcases h with h | h
      · exact ⟨a, rfl, by cases h; exact Int.le_refl _⟩
      · simp at h
    | some b =>
      show ∃ x, (if befB a.1 a.2 b.1 b.2 = true then some a else some b) = some x ∧ x.2 ≤ c.2
      have hl := befB_le (p := a.1) (q := b.1) (m := a.2) (m' := b.2)
      cases hb : befB a.1 a.2 b.1 b.2 with
      | true =>
        have := hl.1 hb
        refine ⟨a, by simp, ?_⟩
        rcases h with h | h <;> (cases h; omega)
      | false =>
        have := hl.2 hb
        refine ⟨b, by simp, ?_⟩
        rcases h with h | h <;> (cases h; omega)
theorem bsf_min {l : List Gr} {f : Int → Pol} {d : Int} {i : Nat} {c : List Int × Int} (hc : bcand l f d i = some c) : ∀ k, i < k → ∃ x, bsf l f d k = some x ∧ x.2 ≤ c.2
  | 0, h => by omega
  | k + 1, h => by
    simp only [bsf]
    rcases Nat.lt_succ_iff_lt_or_eq.1 h with h1 | rfl
    · obtain ⟨x, h2, h3⟩ := bsf_min hc k h1
      obtain ⟨y, h4, h5⟩ := bpick_min (a := bcand l f d k) (.inr h2)
      exact ⟨y, h4, by omega⟩
    · exact bpick_min (.inl hc)
theorem bst_min {l : List Gr} {w : Int} (hR : GOk l) : ∀ {q : List Nat} {n : Nat} {d m : Int}, 0 ≤ d → d.toNat ≤ n → Pth l w d q m → ∃ x, bst l w n d = some x ∧ x.2 ≤ m
  | q, n, d, m, hd, hn, h => by
    have hm := Pth.nn hR hd h
    by_cases hle : d ≤ w
    · exact ⟨([], 0), by cases n <;> (unfold bst; rw [if_pos hle]), hm⟩
    · cases q with
      | nil => exact (hle h.1).elim
      | cons i q =>
        obtain ⟨h1, h2, m', h3, h4⟩ := h
        have h0 := (hR i h1).1.1
        cases n with
        | zero => omega
        | succ n =>
          obtain ⟨y, g1, g2⟩ := bst_min hR (n := n) h0 (by omega) h3
          have hc : bcand l (bst l w n) d i = some ((i : Int) :: y.1, y.2 + ceil d (l.getD i gr0).rt) := by
            unfold bcand; rw [if_neg (by omega), g1]; rfl
          obtain ⟨x, g3, g4⟩ := bsf_min hc l.length h1
          refine ⟨x, ?_, ?_⟩
          · show (if d ≤ w then _ else _) = _
            rw [if_neg hle]; exact g3
          · dsimp only at g4; omega
theorem bsf_from {l : List Gr} {f : Int → Pol} {d : Int} {x : List Int × Int} : ∀ k, bsf l f d k = some x → ∃ i, i < k ∧ bcand l f d i = some x
  | 0, h => by simp [bsf] at h
  | k + 1, h => by
    simp only [bsf] at h
    rcases bpick_cases (bcand l f d k) (bsf l f d k) with h1 | h1
    · exact ⟨k, by omega, by rw [← h1]; exact h⟩
    · obtain ⟨i, h2, h3⟩ := bsf_from k (by rw [← h1]; exact h)
      exact ⟨i, by omega, h3⟩
theorem bst_pth {l : List Gr} {w : Int} : ∀ (n : Nat) (d : Int) (x : List Int × Int), bst l w n d = some x → ∃ q, Pth l w d q x.2
  | 0, d, x, h => by
    unfold bst at h
    split at h
    · rename_i hle; simp at h; subst h; exact ⟨[], hle, rfl⟩
    · simp at h
  | n + 1, d, x, h => by
    unfold bst at h
    split at h
    · rename_i hle; simp at h; subst h; exact ⟨[], hle, rfl⟩
    · obtain ⟨i, h1, h2⟩ := bsf_from _ h
      unfold bcand at h2
      split at h2
      · simp at h2
      · rename_i hlt
        cases ho : bst l w n (l.getD i gr0).dm with
        | none => rw [ho] at h2; simp at h2
        | some y =>
          rw [ho] at h2
          simp only [Option.map_some, Option.some.injEq] at h2
          subst h2
          obtain ⟨q, h3⟩ := bst_pth n _ y ho
          exact ⟨i :: q, h1, by omega, y.2, h3, rfl⟩
/-- as much time at most -/
def PLe (o o2 : Pol) : Prop := ∀ y, o2 = some y → ∃ x, o = some x ∧ x.2 ≤ y.2
theorem deeper {l : List Gr} {w w2 d d2 : Int} {n : Nat} (hR : GOk l) (hw : w2 ≤ w) (hd : 0 ≤ d) (hdd : d ≤ d2) (hn : d.toNat ≤ n) : PLe (bst l w n d) (bst l w2 n d2) := fun y hy => by
  obtain ⟨q, h1⟩ := bst_pth n d2 y hy
  obtain ⟨q', m', h2, h3⟩ := Pth.mono hR hw hd hdd h1
  obtain ⟨x, h4, h5⟩ := bst_min hR hd hn h2
  exact ⟨x, h4, by omega⟩
theorem fewer {g : Gr} {l : List Gr} {w d : Int} {n : Nat} (hR : GOk (g :: l)) (hd : 0 ≤ d) (hn : d.toNat ≤ n) : PLe (bst (g :: l) w n d) (bst l w n d) := fun y hy => by
  obtain ⟨q, h1⟩ := bst_pth n d y hy
  obtain ⟨x, h4, h5⟩ := bst_min hR hd hn (Pth.tail (g := g) h1)
  exact ⟨x, h4, h5⟩
end Go.Abs
