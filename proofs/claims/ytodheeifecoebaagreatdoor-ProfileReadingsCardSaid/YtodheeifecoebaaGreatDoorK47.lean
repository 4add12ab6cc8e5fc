import Derived.Test.YtodheeifecoebaaGreatDoorPCmin
import Derived.Test.YtodheeifecoebaaGreatDoorK46x
set_option linter.all false
set_option linter.unusedVariables false
set_option linter.unusedSimpArgs false
set_option linter.unusedSectionVars false
namespace Go.Abs
open Go.Proofs
/-! what the search finds -/
theorem pigeon : ∀ (z : Nat) (f : Nat → Nat), (∀ k, k ≤ z → f k < z) → ∃ i j, i < j ∧ j ≤ z ∧ f i = f j
  | 0, f, h => by have := h 0 (Nat.le_refl _); omega
  | z + 1, f, h => by
    rcases Classical.em (∃ k, k ≤ z ∧ f k = f (z + 1)) with ⟨k, h1, h2⟩ | hn
    · exact ⟨k, z + 1, by omega, Nat.le_refl _, h2⟩
    · obtain ⟨i, j, h1, h2, h200⟩ := pigeon z (fun k => if f k = z then f (z + 1) else f k) (fun k hk => by
        have h201 := h k (by omega)
        have h202 := h (z + 1) (Nat.le_refl _)
        split
        · rename_i h203
          have : f k ≠ f (z + 1) := fun h204 => hn ⟨k, hk, h204⟩
          omega
        · omega)
      refine ⟨i, j, h1, by omega, ?_⟩
      split at h200
      · split at h200
        · omega
        · exact (hn ⟨j, h2, h200.symm⟩).elim
      · split at h200
        · exact (hn ⟨i, by omega, h200⟩).elim
        · exact h200
/-- arcs between two zones each -/
def neAr (A : List Ar) : Prop := ∀ k, k < A.length → (A.getD k ar0).f ≠ (A.getD k ar0).t
structure Inv (A : List Ar) (z R i : Nat) (s : CS) (τ ρ : Nat → Nat) (T : Nat) : Prop where
  t : ∀ v, τ v ≤ T
  r : ∀ v, ρ v ≤ R
  v : ∀ v, v < z → 1 ≤ ρ v → (∃ k, k < A.length ∧ A.getD k ar0 = s.by_.getD v ar0) ∧ (s.by_.getD v ar0).t = v ∧ s.h.getD (s.by_.getD v ar0).f.toNat 0 + (s.by_.getD v ar0).len ≤ s.h.getD v 0 ∧
    (τ v ≤ τ (s.by_.getD v ar0).f.toNat → s.h.getD (s.by_.getD v ar0).f.toNat 0 + (s.by_.getD v ar0).len + 1 ≤ s.h.getD v 0) ∧ ρ v ≤ ρ (s.by_.getD v ar0).f.toNat + 1
  a : ∀ j, j < A.length → s.h.getD (A.getD j ar0).f.toNat 0 + (A.getD j ar0).len < s.h.getD (A.getD j ar0).t.toNat 0 → (if j < i then R else R - 1) ≤ ρ (A.getD j ar0).f.toNat
  at_ : 0 ≤ s.at_ → ρ s.at_.toNat = R
theorem Inv.step {A : List Ar} {z R i : Nat} {s : CS} {τ ρ : Nat → Nat} {T : Nat} {B : Int} (hA : okAr A z) (hN : neAr A) (hs : CSok z B s) (hR : 1 ≤ R) (hi : i < A.length) (h : Inv A z R i s τ ρ T) :
    ∃ τ' ρ' T', Inv A z R (i + 1) (relaxS s (A.getD i ar0)) τ' ρ' T' := by
  obtain ⟨hf, ht, _, _⟩ := hA i hi
  have hne := hN i hi
  have ha0 := h.a
  by_cases hc : s.h.getD (A.getD i ar0).f.toNat 0 + (A.getD i ar0).len < s.h.getD (A.getD i ar0).t.toNat 0
  · have e : relaxS s (A.getD i ar0) = ⟨s.h.set (A.getD i ar0).t.toNat (s.h.getD (A.getD i ar0).f.toNat 0 + (A.getD i ar0).len), s.by_.set (A.getD i ar0).t.toNat (A.getD i ar0), (A.getD i ar0).t⟩ := if_pos hc
    have hri := h.a i hi hc
    rw [if_neg (Nat.lt_irrefl i)] at hri
    have hgh : ∀ k, (s.h.set (A.getD i ar0).t.toNat (s.h.getD (A.getD i ar0).f.toNat 0 + (A.getD i ar0).len)).getD k 0 = if (A.getD i ar0).t.toNat = k then s.h.getD (A.getD i ar0).f.toNat 0 + (A.getD i ar0).len else s.h.getD k 0 := fun k => by
      rw [getD_set_int, hs.hl]
      by_cases hk : (A.getD i ar0).t.toNat = k
      · rw [if_pos ⟨hk, by omega⟩, if_pos hk]
      · rw [if_neg (fun x => hk x.1), if_neg hk]
    have hgb : ∀ k, (s.by_.set (A.getD i ar0).t.toNat (A.getD i ar0)).getD k ar0 = if (A.getD i ar0).t.toNat = k then A.getD i ar0 else s.by_.getD k ar0 := fun k => by
      rw [getD_set_ar, hs.bl]
      by_cases hk : (A.getD i ar0).t.toNat = k
      · rw [if_pos ⟨hk, by omega⟩, if_pos hk]
      · rw [if_neg (fun x => hk x.1), if_neg hk]
    rw [e]
    refine ⟨fun v => if (A.getD i ar0).t.toNat = v then T + 1 else τ v, fun v => if (A.getD i ar0).t.toNat = v then R else ρ v, T + 1, ?_, ?_, ?_, ?_, ?_⟩
    · intro v; have := h.t v; split <;> omega
    · intro v; have := h.r v; split <;> omega
    · intro v hv hr
      dsimp only at hr ⊢
      rw [hgb]
      by_cases hvt : (A.getD i ar0).t.toNat = v
      · have hft : ¬ (A.getD i ar0).t.toNat = (A.getD i ar0).f.toNat := by omega
        rw [if_pos hvt]
        simp only [hgh, if_pos hvt, if_neg hft]
        refine ⟨⟨i, hi, rfl⟩, by omega, Int.le_refl _, fun h202 => ?_, by omega⟩
        have := h.t (A.getD i ar0).f.toNat
        omega
      · rw [if_neg hvt] at hr
        rw [if_neg hvt]
        obtain ⟨h1, h2, h200, h201, h202⟩ := h.v v hv hr
        simp only [hgh, if_neg hvt]
        refine ⟨h1, h2, ?_, ?_, ?_⟩
        · split
          · rename_i h203; rw [← h203] at h200; omega
          · exact h200
        · split
          · rename_i h203; rw [← h203] at h200; omega
          · exact h201
        · have := h.r v
          split
          · omega
          · exact h202
    · intro j hj hcj
      dsimp only at hcj ⊢
      rw [hgh, hgh] at hcj
      by_cases h203 : (A.getD i ar0).t.toNat = (A.getD j ar0).f.toNat
      · rw [if_pos h203]; split <;> omega
      · rw [if_neg h203] at hcj ⊢
        by_cases hji : j = i
        · subst hji; rw [if_pos rfl] at hcj; omega
        · have h204 := ha0 j hj (by
            split at hcj
            · rename_i h205; rw [← h205]; omega
            · exact hcj)
          split
          · rw [if_pos (by omega)] at h204; exact h204
          · rw [if_neg (by omega)] at h204; exact h204
    · intro _; dsimp only; rw [if_pos rfl]
  · have e : relaxS s (A.getD i ar0) = s := if_neg hc
    rw [e]
    refine ⟨τ, ρ, T, h.t, h.r, h.v, fun j hj hcj => ?_, h.at_⟩
    have h204 := ha0 j hj hcj
    by_cases hji : j = i
    · subst hji; exact (hc hcj).elim
    · split
      · rw [if_pos (by omega)] at h204; exact h204
      · rw [if_neg (by omega)] at h204; exact h204
theorem inv_rlx {A : List Ar} {z R : Nat} {s : CS} {B : Int} (hA : okAr A z) (hN : neAr A) (hs : CSok z B s) (hB : 0 ≤ B) (hR : 1 ≤ R) (h : ∃ τ ρ T, Inv A z R 0 s τ ρ T) : ∀ k, k ≤ A.length → ∃ τ ρ T, Inv A z R k (rlx A s k) τ ρ T
  | 0, _ => h
  | k + 1, hk => by
    obtain ⟨τ, ρ, T, h1⟩ := inv_rlx hA hN hs hB hR h k (by omega)
    exact h1.step hA hN (rlx_ok hs hB hA k (by omega)) hR (by omega)
theorem inv_rnds {A : List Ar} {z : Nat} (hA : okAr A z) (hN : neAr A) (hn : A.length ≤ 200) : ∀ r : Nat, ∃ τ ρ T, Inv A z (r + 1) 0 ⟨(rnds A z r).h, (rnds A z r).by_, -1⟩ τ ρ T
  | 0 => ⟨fun _ => 0, fun _ => 0, 0, fun _ => Nat.le_refl _, fun _ => Nat.zero_le _, fun v _ h => by simp at h, fun j _ _ => by simp, fun h => by simp at h⟩
  | r + 1 => by
    have hok := rnds_ok hA hn r
    obtain ⟨τ, ρ, T, h⟩ := inv_rlx (s := ⟨(rnds A z r).h, (rnds A z r).by_, -1⟩) (B := 200000000 * (r : Int)) hA hN ⟨hok.hl, hok.bl, hok.hr⟩ (by omega) (by omega) (inv_rnds hA hN hn r) A.length (Nat.le_refl _)
    refine ⟨τ, ρ, T, h.t, fun v => by have := h.r v; omega, h.v, fun j hj hcj => ?_, fun h => by simp at h⟩
    have := h.a j hj hcj
    rw [if_pos hj] at this
    simpa using this
theorem inv_end {A : List Ar} {z : Nat} (hA : okAr A z) (hN : neAr A) (hn : A.length ≤ 200) (r : Nat) : ∃ τ ρ T, Inv A z (r + 1) A.length (rnds A z (r + 1)) τ ρ T := by
  have hok := rnds_ok hA hn r
  exact inv_rlx (s := ⟨(rnds A z r).h, (rnds A z r).by_, -1⟩) (B := 200000000 * (r : Int)) hA hN ⟨hok.hl, hok.bl, hok.hr⟩ (by omega) (by omega) (inv_rnds hA hN hn r) A.length (Nat.le_refl _)
/-- the lengths on the way back -/
def csum (by_ : List Ar) (u : Int) : Nat → Int
  | 0 => 0
  | k + 1 => csum by_ u k + (by_.getD (bk by_ u k).toNat ar0).len
theorem bk_add (by_ : List Ar) (u : Int) (i : Nat) : ∀ k, bk by_ (bk by_ u i) k = bk by_ u (i + k)
  | 0 => rfl
  | k + 1 => by
    show (by_.getD (bk by_ (bk by_ u i) k).toNat ar0).f = (by_.getD (bk by_ u (i + k)).toNat ar0).f
    rw [bk_add by_ u i k]
theorem chain_sum {A : List Ar} {z R : Nat} {s : CS} {τ ρ : Nat → Nat} {T i : Nat} (h : Inv A z R i s τ ρ T) {u : Int} (hu : ∀ k, 0 ≤ bk s.by_ u k ∧ bk s.by_ u k < z) : ∀ k, (∀ j, j < k → 1 ≤ ρ (bk s.by_ u j).toNat) →
    s.h.getD (bk s.by_ u k).toNat 0 + csum s.by_ u k ≤ s.h.getD u.toNat 0 ∧ (s.h.getD (bk s.by_ u k).toNat 0 + csum s.by_ u k = s.h.getD u.toNat 0 → τ (bk s.by_ u k).toNat + k ≤ τ u.toNat)
  | 0, _ => by simp [bk, csum]
  | k + 1, hk => by
    obtain ⟨h1, h2⟩ := chain_sum h hu k (fun j hj => hk j (by omega))
    have hb := hu k
    obtain ⟨h200, h201, h202, h203, h204⟩ := h.v (bk s.by_ u k).toNat (by omega) (hk k (by omega))
    have e1 : bk s.by_ u (k + 1) = (s.by_.getD (bk s.by_ u k).toNat ar0).f := rfl
    have e2 : csum s.by_ u (k + 1) = csum s.by_ u k + (s.by_.getD (bk s.by_ u k).toNat ar0).len := rfl
    rw [e1, e2]
    refine ⟨by omega, fun h205 => ?_⟩
    have h206 := h2 (by omega)
    rcases Nat.lt_or_ge (τ (s.by_.getD (bk s.by_ u k).toNat ar0).f.toNat) (τ (bk s.by_ u k).toNat) with h207 | h207
    · omega
    · have := h203 h207; omega
/-- the search that does not come to rest has found a circle below 0 -/
theorem circle {A : List Ar} {z : Nat} (hA : okAr A z) (hN : neAr A) (hn : A.length ≤ 200) (hz : 1 ≤ z) (hat : 0 ≤ (rnds A z (z + 1)).at_) :
    ∃ p, 1 ≤ p ∧ p ≤ z ∧ (∀ k, 0 < k → k < p → bk (rnds A z (z + 1)).by_ (bk (rnds A z (z + 1)).by_ (rnds A z (z + 1)).at_ z) k ≠ bk (rnds A z (z + 1)).by_ (rnds A z (z + 1)).at_ z) ∧
      bk (rnds A z (z + 1)).by_ (bk (rnds A z (z + 1)).by_ (rnds A z (z + 1)).at_ z) p = bk (rnds A z (z + 1)).by_ (rnds A z (z + 1)).at_ z ∧
      csum (rnds A z (z + 1)).by_ (bk (rnds A z (z + 1)).by_ (rnds A z (z + 1)).at_ z) p < 0 ∧
      (∀ k, ((rnds A z (z + 1)).by_.getD (bk (rnds A z (z + 1)).by_ (bk (rnds A z (z + 1)).by_ (rnds A z (z + 1)).at_ z) k).toNat ar0).t = bk (rnds A z (z + 1)).by_ (bk (rnds A z (z + 1)).by_ (rnds A z (z + 1)).at_ z) k ∧
        ∃ j, j < A.length ∧ A.getD j ar0 = (rnds A z (z + 1)).by_.getD (bk (rnds A z (z + 1)).by_ (bk (rnds A z (z + 1)).by_ (rnds A z (z + 1)).at_ z) k).toNat ar0) := by
  obtain ⟨τ, ρ, T, h⟩ := inv_end hA hN hn z
  have hby := okBy_rnds hz hA (z + 1)
  have hlt := at_rnds hA (z + 1)
  generalize rnds A z (z + 1) = s at *
  have hu := bk_r hby ⟨hat, hlt⟩
  have hρ : ∀ k, k ≤ z → z + 1 ≤ ρ (bk s.by_ s.at_ k).toNat + k := by
    intro k
    induction k with
    | zero => intro _; have := h.at_ hat; show z + 1 ≤ ρ s.at_.toNat + 0; omega
    | succ k ih =>
      intro hk
      have h1 := ih (by omega)
      have hb := hu k
      obtain ⟨_, _, _, _, h204⟩ := h.v (bk s.by_ s.at_ k).toNat (by omega) (by omega)
      show z + 1 ≤ ρ (s.by_.getD (bk s.by_ s.at_ k).toNat ar0).f.toNat + (k + 1)
      omega
  obtain ⟨i, j, hij, hjz, hfe⟩ := pigeon z (fun k => (bk s.by_ s.at_ k).toNat) (fun k hk => by have := hu k; omega)
  have hfe2 : bk s.by_ s.at_ i = bk s.by_ s.at_ j := by have h1 := hu i; have h2 := hu j; omega
  have hper : ∀ k, bk s.by_ s.at_ (i + k) = bk s.by_ s.at_ (j + k) := fun k => by rw [← bk_add, ← bk_add, hfe2]
  have hall : ∀ m k, k ≤ m → 1 ≤ ρ (bk s.by_ s.at_ k).toNat := by
    intro m
    induction m with
    | zero => intro k hk; have := hρ k (by omega); omega
    | succ m ih =>
      intro k hk
      by_cases hkz : k ≤ z
      · have := hρ k hkz; omega
      · have := hper (k - j)
        rw [show j + (k - j) = k by omega] at this
        rw [← this]
        exact ih _ (by omega)
  have hall2 : ∀ k, 1 ≤ ρ (bk s.by_ (bk s.by_ s.at_ z) k).toNat := fun k => by rw [bk_add]; exact hall _ _ (Nat.le_refl _)
  have hd : bk s.by_ (bk s.by_ s.at_ z) (j - i) = bk s.by_ s.at_ z := by
    rw [bk_add]
    have := hper (z - i)
    rw [show i + (z - i) = z by omega, show j + (z - i) = z + (j - i) by omega] at this
    exact this.symm
  have hu2 : ∀ k, 0 ≤ bk s.by_ (bk s.by_ s.at_ z) k ∧ bk s.by_ (bk s.by_ s.at_ z) k < z := bk_r hby (hu z)
  have hmin : ∀ m, 1 ≤ m → bk s.by_ (bk s.by_ s.at_ z) m = bk s.by_ s.at_ z → ∃ p, 1 ≤ p ∧ p ≤ m ∧ (∀ k, 0 < k → k < p → bk s.by_ (bk s.by_ s.at_ z) k ≠ bk s.by_ s.at_ z) ∧ bk s.by_ (bk s.by_ s.at_ z) p = bk s.by_ s.at_ z := by
    intro m
    induction m using Nat.strongRecOn with
    | ind m ih =>
      intro h1 h2
      rcases Classical.em (∃ k, 0 < k ∧ k < m ∧ bk s.by_ (bk s.by_ s.at_ z) k = bk s.by_ s.at_ z) with ⟨k, h200, h201, h202⟩ | hn
      · obtain ⟨p, h203, h204, h205, h206⟩ := ih k h201 h200 h202
        exact ⟨p, h203, by omega, h205, h206⟩
      · exact ⟨m, h1, Nat.le_refl _, fun k h200 h201 h202 => hn ⟨k, h200, h201, h202⟩, h2⟩
  obtain ⟨p, hp1, hp2, hp3, hp4⟩ := hmin (j - i) (by omega) hd
  refine ⟨p, hp1, by omega, hp3, hp4, ?_, fun k => ?_⟩
  · obtain ⟨h1, h2⟩ := chain_sum h hu2 p (fun j _ => hall2 j)
    rw [hp4] at h1 h2
    rcases Int.lt_or_le (csum s.by_ (bk s.by_ s.at_ z) p) 0 with h200 | h200
    · exact h200
    · have := h2 (by omega); omega
  · have hb := hu2 k
    obtain ⟨h1, h2, _⟩ := h.v (bk s.by_ (bk s.by_ s.at_ z) k).toNat (by omega) (hall2 k)
    exact ⟨by rw [h2]; omega, h1⟩
/-- numbers that keep all arcs -/
def Pot (A : List Ar) (P : Int → Int) : Prop := ∀ k, k < A.length → P (A.getD k ar0).t ≤ P (A.getD k ar0).f + (A.getD k ar0).len
theorem pot_no_circle {A : List Ar} {z : Nat} (hA : okAr A z) (hN : neAr A) (hn : A.length ≤ 200) (hz : 1 ≤ z) {P : Int → Int} (hP : Pot A P) : (rnds A z (z + 1)).at_ < 0 := by
  rcases Int.lt_or_le (rnds A z (z + 1)).at_ 0 with h | h
  · exact h
  · obtain ⟨p, _, _, _, h201, h202, h203⟩ := circle hA hN hn hz h
    generalize (rnds A z (z + 1)).by_ = b at *
    generalize bk b (rnds A z (z + 1)).at_ z = u at *
    have : ∀ k, P u ≤ P (bk b u k) + csum b u k := by
      intro k
      induction k with
      | zero => simp [bk, csum]
      | succ k ih =>
        obtain ⟨h204, j, h205, h206⟩ := h203 k
        have h207 := hP j h205
        rw [h206, h204] at h207
        show P u ≤ P (b.getD (bk b u k).toNat ar0).f + (csum b u k + (b.getD (bk b u k).toNat ar0).len)
        omega
    have := this p
    rw [h201] at this
    omega
theorem still {A : List Ar} {z : Nat} (hA : okAr A z) (s : CS) : ∀ k, k ≤ A.length → (rlx A s k).at_ < 0 → rlx A s k = s ∧ ∀ j, j < k → s.h.getD (A.getD j ar0).t.toNat 0 ≤ s.h.getD (A.getD j ar0).f.toNat 0 + (A.getD j ar0).len
  | 0, _, _ => ⟨rfl, fun j hj => by omega⟩
  | k + 1, hk, h => by
    have e : rlx A s (k + 1) = relaxS (rlx A s k) (A.getD k ar0) := rfl
    rw [e] at h ⊢
    unfold relaxS at h ⊢
    split at h
    · have := (hA k (by omega)).2.1; dsimp only at h; omega
    · rename_i hc
      obtain ⟨h1, h2⟩ := still hA s k (by omega) h
      rw [if_neg hc]
      refine ⟨h1, fun j hj => ?_⟩
      by_cases hjk : j = k
      · subst hjk; rw [h1] at hc; omega
      · exact h2 j (by omega)
/-- where it comes to rest the heights keep all arcs -/
theorem rest_pot {A : List Ar} {z r : Nat} (hA : okAr A z) (h : (rnds A z (r + 1)).at_ < 0) : Pot A fun v => (rnds A z r).h.getD v.toNat 0 := by
  have := (still hA ⟨(rnds A z r).h, (rnds A z r).by_, -1⟩ A.length (Nat.le_refl _) h).2
  exact fun k hk => this k hk
end Go.Abs
