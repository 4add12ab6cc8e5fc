import Derived.Test.YtpfmamngjefohaaK56x
import Derived.Test.YtpfmamngjefohaaK38
set_option linter.all false
set_option linter.unusedVariables false
set_option linter.unusedSimpArgs false
set_option linter.unusedSectionVars false
namespace Go.Abs
open Go.Proofs
/-! trying all finds what the best finds -/
theorem fe_shift (e : Nat → Int) : ∀ n, fe e (n + 1) = if e 0 ≠ 0 then e 0 else fe (fun k => e (k + 1)) n
  | 0 => by
    simp only [fe]
    by_cases h : e 0 ≠ 0
    · rw [if_pos h]; simp
    · rw [if_neg h]; simp at h; simp [h]
  | n + 1 => by
    have ih := fe_shift e n
    rw [show fe e (n + 1 + 1) = if fe e (n + 1) ≠ 0 then fe e (n + 1) else e (n + 1) from rfl, ih]
    by_cases h : e 0 ≠ 0
    · rw [if_pos h, if_pos h, if_pos h]
    · rw [if_neg h, if_neg h]; rfl
theorem cmpL_cons {a b : Int} {p q : List Int} : cmpL (a :: p) (b :: q) = if cmpI a b ≠ 0 then cmpI a b else cmpL p q := by
  unfold cmpL
  rw [List.length_cons, fe_shift]
  rfl
theorem cmpL_pre (r : List Int) {p q : List Int} : cmpL (r ++ p) (r ++ q) = cmpL p q := by
  induction r with
  | nil => rfl
  | cons a r ih =>
    rw [List.cons_append, List.cons_append, cmpL_cons, if_neg (by rw [cmpI_zero.2 rfl]; simp), ih]
theorem cmpI_neg {a b : Int} : cmpI a b < 0 ↔ a < b := by
  have := cmpI_lt (a := a) (b := b)
  rw [decide_eq_decide] at this
  exact this
theorem cmpL_irr (p : List Int) : cmpL p p = 0 := by
  induction p with
  | nil => rfl
  | cons a p ih => rw [cmpL_cons, if_neg (by rw [cmpI_zero.2 rfl]; simp), ih]
theorem cmpL_tri : ∀ (p q : List Int), p.length = q.length → cmpL p q < 0 ∨ cmpL q p < 0 ∨ p = q
  | [], [], _ => .inr (.inr rfl)
  | [], b :: q, h => by simp at h
  | a :: p, [], h => by simp at h
  | a :: p, b :: q, h => by
    rw [cmpL_cons, cmpL_cons]
    by_cases h1 : a < b
    · exact .inl (by rw [if_pos (by have := cmpI_neg.2 h1; omega)]; exact cmpI_neg.2 h1)
    · by_cases h2 : b < a
      · exact .inr (.inl (by rw [if_pos (by have := cmpI_neg.2 h2; omega)]; exact cmpI_neg.2 h2))
      · have : a = b := by omega
        subst this
        have h0 : ¬cmpI a a ≠ 0 := by rw [cmpI_zero.2 rfl]; simp
        rw [if_neg h0, if_neg h0]
        rcases cmpL_tri p q (by simpa using h) with h3 | h3 | h3
        · exact .inl h3
        · exact .inr (.inl h3)
        · exact .inr (.inr (by rw [h3]))
theorem cmpL_tr : ∀ (p q r : List Int), p.length = q.length → q.length = r.length → cmpL p q < 0 → cmpL q r < 0 → cmpL p r < 0
  | [], [], _, _, _, h, _ => by exact absurd h (by decide)
  | [], b :: q, _, h, _, _, _ => by simp at h
  | a :: p, [], _, h, _, _, _ => by simp at h
  | a :: p, b :: q, [], _, h, _, _ => by simp at h
  | a :: p, b :: q, c :: r, hp, hq, h1, h2 => by
    rw [cmpL_cons] at h1 h2 ⊢
    have z : ∀ {x y : Int}, cmpI x y ≠ 0 ↔ x ≠ y := fun {x y} => not_congr cmpI_zero
    by_cases e1 : cmpI a b ≠ 0
    · rw [if_pos e1] at h1
      have g1 := cmpI_neg.1 h1
      by_cases e2 : cmpI b c ≠ 0
      · rw [if_pos e2] at h2
        have g2 := cmpI_neg.1 h2
        rw [if_pos (z.2 (by omega))]
        exact cmpI_neg.2 (by omega)
      · have := cmpI_zero.1 (Decidable.not_not.1 e2)
        subst this
        rw [if_pos e1]; exact h1
    · have := cmpI_zero.1 (Decidable.not_not.1 e1)
      subst this
      rw [if_neg e1] at h1
      by_cases e2 : cmpI a c ≠ 0
      · rw [if_pos e2] at h2 ⊢; exact h2
      · rw [if_neg e2] at h2 ⊢
        exact cmpL_tr p q r (by simpa using hp) (by simpa using hq) h1 h2
/-- before, as a proposition -/
def Bf (x y : List Int × Int) : Prop := x.2 < y.2 ∨ (x.2 = y.2 ∧ (x.1.length < y.1.length ∨ (x.1.length = y.1.length ∧ cmpL x.1 y.1 < 0)))
theorem befB_iff {x y : List Int × Int} : befB x.1 x.2 y.1 y.2 = true ↔ Bf x y := by
  unfold befB Bf
  by_cases h : x.2 ≠ y.2
  · rw [if_pos h]; simp only [decide_eq_true_eq]; omega
  · rw [if_neg h]
    by_cases h2 : x.1.length ≠ y.1.length
    · rw [if_pos h2]; simp only [decide_eq_true_eq]; omega
    · rw [if_neg h2]; simp only [decide_eq_true_eq]; omega
theorem Bf.irr {x : List Int × Int} (h : Bf x x) : False := by
  unfold Bf at h
  rw [cmpL_irr] at h
  omega
theorem Bf.trans {x y z : List Int × Int} (h : Bf x y) (h2 : Bf y z) : Bf x z := by
  unfold Bf at *
  rcases h with h | ⟨h, h' | ⟨h', h''⟩⟩
  · rcases h2 with g | ⟨g, _⟩ <;> exact .inl (by omega)
  · rcases h2 with g | ⟨g, g' | ⟨g', _⟩⟩
    · exact .inl (by omega)
    · exact .inr ⟨by omega, .inl (by omega)⟩
    · exact .inr ⟨by omega, .inl (by omega)⟩
  · rcases h2 with g | ⟨g, g' | ⟨g', g''⟩⟩
    · exact .inl (by omega)
    · exact .inr ⟨by omega, .inl (by omega)⟩
    · exact .inr ⟨by omega, .inr ⟨by omega, cmpL_tr _ _ _ h' g' h'' g''⟩⟩
theorem Bf.tri (x y : List Int × Int) : Bf x y ∨ Bf y x ∨ x = y := by
  unfold Bf
  by_cases h : x.2 < y.2
  · exact .inl (.inl h)
  · by_cases h2 : y.2 < x.2
    · exact .inr (.inl (.inl h2))
    · by_cases h3 : x.1.length < y.1.length
      · exact .inl (.inr ⟨by omega, .inl h3⟩)
      · by_cases h4 : y.1.length < x.1.length
        · exact .inr (.inl (.inr ⟨by omega, .inl h4⟩))
        · rcases cmpL_tri x.1 y.1 (by omega) with h5 | h5 | h5
          · exact .inl (.inr ⟨by omega, .inr ⟨by omega, h5⟩⟩)
          · exact .inr (.inl (.inr ⟨by omega, .inr ⟨by omega, h5⟩⟩))
          · exact .inr (.inr (Prod.ext h5 (by omega)))
theorem bpick_pos {a b : List Int × Int} (h : Bf a b) : bpick (some a) (some b) = some a := by
  show (if befB a.1 a.2 b.1 b.2 = true then some a else some b) = some a
  rw [if_pos (befB_iff.2 h)]
theorem bpick_neg {a b : List Int × Int} (h : ¬Bf a b) : bpick (some a) (some b) = some b := by
  show (if befB a.1 a.2 b.1 b.2 = true then some a else some b) = some b
  rw [if_neg (fun g => h (befB_iff.1 g))]
theorem bpick_none (a : Pol) : bpick a none = a := by cases a <;> rfl
theorem bpick_assoc (a b c : Pol) : bpick a (bpick b c) = bpick (bpick a b) c := by
  cases a with
  | none => rfl
  | some a =>
    cases b with
    | none => rw [bpick_none]; rfl
    | some b =>
      cases c with
      | none => rw [bpick_none, bpick_none]
      | some c =>
        by_cases h1 : Bf b c
        · rw [bpick_pos h1]
          by_cases h2 : Bf a b
          · rw [bpick_pos h2, bpick_pos (h2.trans h1)]
          · rw [bpick_neg h2, bpick_pos h1]
        · rw [bpick_neg h1]
          by_cases h2 : Bf a b
          · rw [bpick_pos h2]
          · rw [bpick_neg h2, bpick_neg h1, bpick_neg]
            intro h3
            rcases Bf.tri b c with g | g | g
            · exact h1 g
            · exact h2 (h3.trans g)
            · subst g; exact h2 h3
/-- a sequence behind another one -/
def sft (q : List Int) (m : Int) (x : List Int × Int) : List Int × Int := (q ++ x.1, m + x.2)
theorem Bf.sft {q : List Int} {m : Int} {x y : List Int × Int} : Bf (sft q m x) (sft q m y) ↔ Bf x y := by
  unfold Bf Go.Abs.sft
  simp only [List.length_append, cmpL_pre]
  omega
theorem bpick_sft (q : List Int) (m : Int) (a b : Pol) : (bpick a b).map (sft q m) = bpick (a.map (sft q m)) (b.map (sft q m)) := by
  cases a with
  | none => rfl
  | some a =>
    cases b with
    | none => rfl
    | some b =>
      simp only [Option.map_some]
      by_cases h : Bf a b
      · rw [bpick_pos h, bpick_pos (Bf.sft.2 h)]; rfl
      · rw [bpick_neg h, bpick_neg (fun g => h (Bf.sft.1 g))]; rfl
theorem trL_bpick (q : List Int) (m d w : Int) (o : Pol) (h : d ≤ w) : trL q m d w o = bpick (some (q, m)) o := by
  unfold trL
  rw [if_pos h]
  cases o <;> rfl
theorem tr_best {l : List Gr} {w : Int} (hR : GOk l) : ∀ (n : Nat) (d : Int) (q : List Int) (m : Int) (o : Pol), (0 ≤ d ∧ d ≤ 1000000) → d.toNat ≤ n → tr l w n d q m o = bpick ((bst l w n d).map (sft q m)) o
  | 0, d, q, m, o, hd, hn => by
    show trL q m d w o = _
    unfold bst
    by_cases h : d ≤ w
    · rw [if_pos h, trL_bpick _ _ _ _ _ h]
      simp [sft]
    · rw [if_neg h]
      unfold trL
      rw [if_neg h]; rfl
  | n + 1, d, q, m, o, hd, hn => by
    show trK l (fun k o' => tr l w n (l.getD k gr0).dm (q ++ [(k : Int)]) (m + ceil d (l.getD k gr0).rt) o') d l.length (trL q m d w o) = _
    have ih : ∀ k, k < l.length → (l.getD k gr0).dm < d → ∀ o', tr l w n (l.getD k gr0).dm (q ++ [(k : Int)]) (m + ceil d (l.getD k gr0).rt) o' = bpick ((bcand l (bst l w n) d k).map (sft q m)) o' := fun k hk hlt o' => by
      rw [tr_best hR n _ _ _ o' (hR k hk).1 (by have := (hR k hk).1; omega)]
      unfold bcand
      rw [if_neg (by omega), Option.map_map]
      congr 2
      funext x
      simp only [Function.comp, sft]
      refine Prod.ext (by simp) ?_
      show _ = m + (x.2 + ceil d (l.getD k gr0).rt)
      dsimp only
      omega
    by_cases h : d ≤ w
    · rw [trL_bpick _ _ _ _ _ h, show bst l w (n + 1) d = some ([], 0) by unfold bst; rw [if_pos h]]
      rw [show Option.map (sft q m) (some ([], 0)) = some (q, m) by simp [sft]]
      obtain ⟨y, hy, hyq⟩ : ∃ y, bpick (some (q, m)) o = some y ∧ ¬Bf (q, m) y := by
        cases o with
        | none => exact ⟨_, rfl, fun h => h.irr⟩
        | some z =>
          by_cases hb : Bf (q, m) z
          · exact ⟨_, bpick_pos hb, fun h => h.irr⟩
          · exact ⟨z, bpick_neg hb, hb⟩
      rw [hy]
      have : ∀ k, k ≤ l.length → trK l (fun k o' => tr l w n (l.getD k gr0).dm (q ++ [(k : Int)]) (m + ceil d (l.getD k gr0).rt) o') d k (some y) = some y := by
        intro k
        induction k with
        | zero => intro _; rfl
        | succ k ihk =>
          intro hk
          simp only [trK]
          rw [ihk (by omega)]
          by_cases hlt : (l.getD k gr0).dm < d
          · rw [if_pos hlt, ih k (by omega) hlt]
            cases hc : bcand l (bst l w n) d k with
            | none => rfl
            | some x =>
              have hb := bcand_bd (N := n) (k := k) hR hd (fun e he => bst_bd hR n e he) (by omega) x hc
              have hx : x.1 ≠ [] := by
                unfold bcand at hc
                rw [if_neg (by omega)] at hc
                cases ho : bst l w n (l.getD k gr0).dm with
                | none => rw [ho] at hc; simp at hc
                | some z => rw [ho] at hc; simp at hc; subst hc; simp
              have hx2 : 0 < x.1.length := List.length_pos_iff.2 hx
              rw [Option.map_some, bpick_neg]
              intro hB
              have hqm : Bf (q, m) (sft q m x) := by
                unfold Bf sft
                simp only [List.length_append]
                have := hb.1.1
                omega
              exact hyq (hqm.trans hB)
          · rw [if_neg hlt]
      exact this _ (Nat.le_refl _)
    · rw [show trL q m d w o = o by unfold trL; rw [if_neg h], show bst l w (n + 1) d = bsf l (bst l w n) d l.length by unfold bst; rw [if_neg h]]
      have : ∀ k, k ≤ l.length → trK l (fun k o' => tr l w n (l.getD k gr0).dm (q ++ [(k : Int)]) (m + ceil d (l.getD k gr0).rt) o') d k o = bpick ((bsf l (bst l w n) d k).map (sft q m)) o := by
        intro k
        induction k with
        | zero => intro _; rfl
        | succ k ihk =>
          intro hk
          simp only [trK, bsf]
          rw [ihk (by omega), bpick_sft, ← bpick_assoc]
          by_cases hlt : (l.getD k gr0).dm < d
          · rw [if_pos hlt, ih k (by omega) hlt]
          · rw [if_neg hlt, show bcand l (bst l w n) d k = none by unfold bcand; rw [if_pos (by omega)]]
            rfl
      exact this _ (Nat.le_refl _)
theorem tr_bst {l : List Gr} {w : Int} (hR : GOk l) (n : Nat) (d : Int) (hd : 0 ≤ d ∧ d ≤ 1000000) (hn : d.toNat ≤ n) : tr l w n d [] 0 none = bst l w n d := by
  rw [tr_best hR n d _ _ _ hd hn, bpick_none]
  cases bst l w n d with
  | none => rfl
  | some x => simp [sft]
end Go.Abs
