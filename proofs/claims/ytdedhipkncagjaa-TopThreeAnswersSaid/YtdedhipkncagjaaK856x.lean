import Derived.Test.YtdedhipkncagjaaPCmin
import Derived.Test.YtdedhipkncagjaaK530x
import Derived.Test.YtdedhipkncagjaaK545x
import Derived.Test.YtdedhipkncagjaaK841x
import Derived.Test.YtdedhipkncagjaaK842x
import Derived.Test.YtdedhipkncagjaaK855x
import Derived.Test.YtdedhipkncagjaaK544x
set_option linter.all false
set_option linter.unusedVariables false
set_option linter.unusedSimpArgs false
set_option linter.unusedSectionVars false
namespace Go.Abs
open Go.Proofs
end Go.Abs
namespace Go.Abs
open Go.Proofs
/-- heights that keep all readings keep all arcs -/
theorem brk_all {ys : List Int} : ∀ {l : List Rd} {k : Int}, brk ys l k = (0, 0) → ∀ i, i < l.length → keepsB (l.getD i rd0) ys = true
  | [], _, _, i, hi => by simp at hi
  | r :: rs, k, h, i, hi => by
    unfold brk at h
    split at h
    · rename_i hk
      cases i with
      | zero => exact hk
      | succ i => exact brk_all h i (by simpa using hi)
    · simp at h
theorem ht_ok {z : Int} {l : List Rd} {ys : List Int} (h : (checkHt z l ys).2 = 0) : (ys.length : Int) = z ∧ ys.any hBad = false ∧ ∀ i, i < l.length → keepsB (l.getD i rd0) ys = true := by
  unfold checkHt at h
  split at h
  · simp at h
  · split at h
    · simp at h
    · rename_i h201 h202
      have hb : brk ys l 0 = (0, 0) := by
        have : ∀ (l : List Rd) (k : Int), (brk ys l k).2 = 0 → brk ys l k = (0, 0) := by
          intro l
          induction l with
          | nil => intro k _; rfl
          | cons r rs ih =>
            intro k h
            unfold brk at h ⊢
            split at h
            · rename_i hk; rw [if_pos hk]; exact ih _ h
            · simp at h
        exact this l 0 h
      exact ⟨by omega, by simpa using h202, brk_all hb⟩
theorem keeps_pot {l : List Rd} {ys : List Int} (h : ∀ i, i < l.length → keepsB (l.getD i rd0) ys = true) : ∀ k, k < (arcsL l l.length).length → ys.getD ((arcsL l l.length).getD k ar0).t.toNat 0 ≤ ys.getD ((arcsL l l.length).getD k ar0).f.toNat 0 + ((arcsL l l.length).getD k ar0).len := by
  intro k hk
  obtain ⟨i, hi, h202⟩ := getD_arcs l l.length (Nat.le_refl _) k hk
  have h203 := h i hi
  unfold keepsB at h203
  simp only [Bool.and_eq_true, decide_eq_true_eq] at h203
  rcases h202 with h202 | h202
  · rw [h202]; dsimp only; omega
  · rw [h202]; dsimp only; omega
/-- heights that keep the readings: the search comes to rest, and the enclosure holds them -/
theorem ht_enc {z : Nat} {l : List Rd} {ys : List Int} (h : checkR z l = 0) (h202 : (checkHt z l ys).2 = 0) : (∃ r, r ≤ z ∧ (rnds (arcsL l l.length) z (r + 1)).at_ < 0) ∧
    ∀ k, k < z → -(mget (tabM (arcsL l l.length) z) k 0) ≤ ys.getD k 0 - ys.getD 0 0 ∧ ys.getD k 0 - ys.getD 0 0 ≤ mget (tabM (arcsL l l.length) z) 0 k := by
  obtain ⟨hz, hl, hrd⟩ := checkR_ok h
  obtain ⟨hA, hN, hok⟩ := arcs_ok hrd
  obtain ⟨hyl, hyb, hyk⟩ := ht_ok h202
  have hp := keeps_pot hyk
  have hn : (arcsL l l.length).length ≤ 200 := by have := arcsL_len l l.length; omega
  refine ⟨⟨z, Nat.le_refl _, pot_no_circle hA hN hn (by omega) (P := fun v => ys.getD v.toNat 0) fun k hk => hp k hk⟩, fun k hk => ?_⟩
  have hb : ∀ v, v < z → -10000000000 ≤ ys.getD v 0 ∧ ys.getD v 0 ≤ 10000000000 := fun v _ => by have := hBad_get hyb v; omega
  have hlb : Lb z (fun v => ys.getD v 0) (tabM (arcsL l l.length) z) := ((iniM_lb hb).arM hA hp _ (Nat.le_refl _)).fwK z (Nat.le_refl _)
  have h203 := hlb.lo 0 k (by omega) hk
  have h204 := hlb.lo k 0 hk (by omega)
  omega
end Go.Abs
namespace Go.Abs
open Go.Proofs
/-! plain: accepted, refused, or not decided yet -/
theorem prs_mem {n i k : Nat} (hi : i < n) (hk : k < n) (h : i ≠ k) : (i, k) ∈ prs n := by
  unfold prs restO restI
  simp
  exact ⟨hi, hk, fun e => h e.symm⟩
theorem prs_ne {n : Nat} {p : Nat × Nat} (h : p ∈ prs n) : p.1 ≠ p.2 := by
  unfold prs restO restI at h
  simp at h
  obtain ⟨a, ha, b, hb, rfl⟩ := h
  exact fun e => hb.2 e.symm
theorem bdI_comm (pk sl i k : Int) : bdI pk sl i k = bdI pk sl k i := by
  have : szI (i - k) = szI (k - i) := by unfold szI; split <;> split <;> omega
  unfold bdI
  rw [this]
theorem jdg_cases {L : List (Int × Int)} {pk sl A I J : Int} : ∀ (l : List (Nat × Nat)) (a : Int), (a = 0 ∨ a = 1) → jdg L pk sl l a = (A, I, J) →
    (A = -1 ∧ ∃ p ∈ l, (L.getD p.1 (0, 0)).1 - (L.getD p.2 (0, 0)).2 > bdI pk sl p.1 p.2) ∨ A = 0 ∨ (A = 1 ∧ a = 1 ∧ ∀ p ∈ l, ¬((L.getD p.1 (0, 0)).2 - (L.getD p.2 (0, 0)).1 > bdI pk sl p.1 p.2))
  | [], a, ha, h => by
    unfold jdg at h
    simp only [Prod.mk.injEq] at h
    obtain ⟨rfl, _, _⟩ := h
    rcases ha with rfl | rfl
    · exact .inr (.inl rfl)
    · exact .inr (.inr ⟨rfl, rfl, fun p hp => by simp at hp⟩)
  | (i, k) :: r, a, ha, h => by
    unfold jdg at h
    split at h
    · rename_i h1
      simp only [Prod.mk.injEq] at h
      exact .inl ⟨h.1.symm, (i, k), by simp, h1⟩
    · rename_i h1
      by_cases h2 : (L.getD i (0, 0)).2 - (L.getD k (0, 0)).1 > bdI pk sl i k
      · rw [if_pos h2] at h
        rcases jdg_cases r 0 (.inl rfl) h with ⟨h3, p, hp, h4⟩ | h3 | ⟨_, h3, _⟩
        · exact .inl ⟨h3, p, by simp [hp], h4⟩
        · exact .inr (.inl h3)
        · omega
      · rw [if_neg h2] at h
        rcases jdg_cases r a ha h with ⟨h3, p, hp, h4⟩ | h3 | ⟨h3, h4, h5⟩
        · exact .inl ⟨h3, p, by simp [hp], h4⟩
        · exact .inr (.inl h3)
        · refine .inr (.inr ⟨h3, h4, fun p hp => ?_⟩)
          rcases List.mem_cons.1 hp with rfl | hp
          · exact h2
          · exact h5 p hp
theorem mts_cases {xs : List Int} {pk sl E I J : Int} : ∀ l : List (Nat × Nat), mts xs pk sl l = (E, I, J) →
    (E = 26 ∧ ∃ p ∈ l, p.1 < p.2 ∧ szI (xs.getD p.1 0 - xs.getD p.2 0) > bdI pk sl p.1 p.2) ∨ (E = 0 ∧ ∀ p ∈ l, ¬(p.1 < p.2 ∧ szI (xs.getD p.1 0 - xs.getD p.2 0) > bdI pk sl p.1 p.2))
  | [], h => by
    unfold mts at h
    simp only [Prod.mk.injEq] at h
    exact .inr ⟨h.1.symm, fun p hp => by simp at hp⟩
  | (i, k) :: r, h => by
    unfold mts at h
    split at h
    · rename_i h1
      simp only [Prod.mk.injEq] at h
      exact .inl ⟨h.1.symm, (i, k), by simp, h1⟩
    · rename_i h1
      rcases mts_cases r h with ⟨h3, p, hp, h4⟩ | ⟨h3, h4⟩
      · exact .inl ⟨h3, p, by simp [hp], h4⟩
      · refine .inr ⟨h3, fun p hp => ?_⟩
        rcases List.mem_cons.1 hp with rfl | hp
        · exact h1
        · exact h4 p hp
def Has (L : List (Int × Int)) (ys : List Int) : Prop := ∀ k, k < L.length → (L.getD k (0, 0)).1 ≤ ys.getD k 0 ∧ ys.getD k 0 ≤ (L.getD k (0, 0)).2
/-- heights within an enclosure: what is said of the enclosure holds of them -/
theorem three {L : List (Int × Int)} {ys : List Int} {pk sl A I J E I' J' : Int} (hH : Has L ys) (hj : jdg L pk sl (prs L.length) 1 = (A, I, J)) (hm : mts ys pk sl (prs L.length) = (E, I', J')) :
    (E = 0 ∨ E = 26) ∧ (A = 1 ∨ A = 0 ∨ A = -1) ∧ (A = 1 → E = 0) ∧ (A = -1 → E = 26) := by
  have h1 := jdg_cases _ _ (.inr rfl) hj
  have h2 := mts_cases _ hm
  have hE : E = 0 ∨ E = 26 := by rcases h2 with h | h <;> omega
  refine ⟨hE, by rcases h1 with h | h | h <;> omega, fun ha => ?_, fun ha => ?_⟩
  · rcases h1 with ⟨h, _⟩ | h | ⟨_, _, h5⟩
    · omega
    · omega
    · rcases h2 with ⟨_, p, hp, hlt, h4⟩ | ⟨h, _⟩
      · exfalso
        obtain ⟨p1, p2⟩ := prs_lt hp
        have h6 := h5 p hp
        have h7 := h5 (p.2, p.1) (prs_mem p2 p1 (prs_ne hp).symm)
        dsimp only at h7
        rw [bdI_comm pk sl p.2 p.1] at h7
        have h8 := hH p.1 p1
        have h9 := hH p.2 p2
        unfold szI at h4
        split at h4 <;> omega
      · exact h
  · rcases h1 with ⟨_, p, hp, h4⟩ | h | ⟨h, _⟩
    · rcases h2 with ⟨h, _⟩ | ⟨_, h5⟩
      · exact h
      · exfalso
        obtain ⟨p1, p2⟩ := prs_lt hp
        have hne := prs_ne hp
        have h8 := hH p.1 p1
        have h9 := hH p.2 p2
        by_cases hlt : p.1 < p.2
        · have h6 := h5 p hp
          refine h6 ⟨hlt, ?_⟩
          unfold szI
          split <;> omega
        · have h6 := h5 (p.2, p.1) (prs_mem p2 p1 hne.symm)
          refine h6 ⟨by dsimp only; omega, ?_⟩
          dsimp only
          rw [bdI_comm pk sl p.2 p.1]
          unfold szI
          split <;> omega
    · omega
    · omega
theorem Has.set {L : List (Int × Int)} {ys : List Int} (h : Has L ys) (z : Nat) : Has (L.set z (ys.getD z 0, ys.getD z 0)) ys := fun k hk => by
  rw [List.length_set] at hk
  by_cases hz : z = k
  · subst hz
    simp [List.getD_eq_getElem?_getD, hk]
  · have := h k hk
    rw [show (L.set z (ys.getD z 0, ys.getD z 0)).getD k (0, 0) = L.getD k (0, 0) by simp [List.getD_eq_getElem?_getD, List.getElem?_set_ne hz]]
    exact this
theorem rdM_get (xs : List Int) (ps es : List (Int × Int)) : ∀ n k, k < n → (rdM xs ps es n).getD k rd0 = rdOf xs (ps.getD k (0, 0)) (es.getD k (0, 0))
  | 0, k, hk => by omega
  | n + 1, k, hk => by
    have hl := rdM_len xs ps es n
    unfold rdM
    rw [List.getD_eq_getElem?_getD]
    by_cases h : k < n
    · rw [List.getElem?_append_left (by omega), ← List.getD_eq_getElem?_getD]; exact rdM_get xs ps es n k h
    · have : k = n := by omega
      subst this
      rw [List.getElem?_append_right (by omega), hl]; simp
theorem rdErr_of {z : Int} : ∀ {l : List Rd}, (∀ k, k < l.length → ((0 ≤ (l.getD k rd0).a ∧ (l.getD k rd0).a ≤ z - 1) ∧ (0 ≤ (l.getD k rd0).b ∧ (l.getD k rd0).b ≤ z - 1)) ∧ (l.getD k rd0).a ≠ (l.getD k rd0).b ∧ ((-1000000 ≤ (l.getD k rd0).lo ∧ (l.getD k rd0).lo ≤ 1000000) ∧ (-1000000 ≤ (l.getD k rd0).hi ∧ (l.getD k rd0).hi ≤ 1000000)) ∧ (l.getD k rd0).lo ≤ (l.getD k rd0).hi) → rdErr z l = 0
  | [], _ => rfl
  | r :: rs, h => by
    have h0 := h 0 (by simp)
    simp only [List.getD_cons_zero] at h0
    unfold rdErr
    rw [if_neg (fun hh => hh h0.1), if_neg h0.2.1, if_neg (fun hh => hh h0.2.2.1), if_neg (by omega)]
    exact rdErr_of fun k hk => by simpa using h (k + 1) (by simpa using hk)
theorem brk_of {ys : List Int} : ∀ {l : List Rd} {i : Int}, (∀ k, k < l.length → keepsB (l.getD k rd0) ys = true) → brk ys l i = (0, 0)
  | [], _, _ => rfl
  | r :: rs, i, h => by
    have h0 := h 0 (by simp)
    simp only [List.getD_cons_zero] at h0
    unfold brk
    rw [if_pos h0]
    exact brk_of fun k hk => by simpa using h (k + 1) (by simpa using hk)
theorem gH_all {xs : List Int} (h : ∀ k, k < xs.length → gH (xs.getD k 0)) (k : Nat) : gH (xs.getD k 0) := by
  by_cases hk : k < xs.length
  · exact h k hk
  · rw [List.getD_eq_getElem?_getD, List.getElem?_eq_none (by omega)]; unfold gH; simp
theorem rdM_ok {xs : List Int} {ps es : List (Int × Int)} (h : MOk xs ps es) : checkR xs.length (rdM xs ps es ps.length) = 0 ∧ (checkHt xs.length (rdM xs ps es ps.length) xs).2 = 0 := by
  have hl := rdM_len xs ps es ps.length
  have key : ∀ k, k < (rdM xs ps es ps.length).length → (rdM xs ps es ps.length).getD k rd0 = rdOf xs (ps.getD k (0, 0)) (es.getD k (0, 0)) ∧ gP xs.length (ps.getD k (0, 0)) (es.getD k (0, 0)) := fun k hk => ⟨rdM_get xs ps es _ k (by omega), h.g k (by omega)⟩
  constructor
  · unfold checkR
    rw [if_neg (by have := h.n; omega), if_neg (by have := h.p; omega)]
    refine rdErr_of fun k hk => ?_
    obtain ⟨e, hg⟩ := key k hk
    rw [e]
    unfold gP at hg
    have ha := gH_all h.h (ps.getD k (0, 0)).1.toNat
    have hb := gH_all h.h (ps.getD k (0, 0)).2.toNat
    unfold gH at ha hb
    unfold rdOf
    dsimp only
    obtain ⟨g1, g2, g3, g4⟩ := hg
    exact ⟨g1, g2, by omega, by omega⟩
  · unfold checkHt
    rw [if_neg (by simp), if_neg, brk_of]
    · intro k hk
      obtain ⟨e, hg⟩ := key k hk
      rw [e]
      unfold gP at hg
      unfold keepsB rdOf
      dsimp only
      simp only [Bool.and_eq_true, decide_eq_true_eq]
      omega
    · simp only [Bool.not_eq_true, List.any_eq_false]
      intro x hx
      obtain ⟨i, hi, rfl⟩ := List.getElem_of_mem hx
      have := h.h i hi
      unfold gH at this
      rw [List.getD_eq_getElem?_getD, List.getElem?_eq_getElem hi] at this
      simp only [Option.getD_some] at this
      unfold hBad
      simp
      omega
def lM (xs : List Int) (ps es : List (Int × Int)) : List Rd := rdM xs ps es ps.length
def tM (xs : List Int) (ps es : List (Int × Int)) : List (List Int) := tabM (arcsL (lM xs ps es) (lM xs ps es).length) xs.length
def bM (xs : List Int) (ps es : List (Int × Int)) : List (Int × Int) := enc (tM xs ps es) xs.length
def dH (xs : List Int) : List Int := xs.map fun x => x - xs.getD 0 0
theorem dH_get {xs : List Int} {k : Nat} (hk : k < xs.length) : (dH xs).getD k 0 = xs.getD k 0 - xs.getD 0 0 := by simp [dH, List.getD_eq_getElem?_getD, hk]
theorem bM_len (xs : List Int) (ps es : List (Int × Int)) : (bM xs ps es).length = xs.length := enc_len _ _
theorem enc_get (M : List (List Int)) : ∀ n k, k < n → (enc M n).getD k (0, 0) = (-(mget M k 0), mget M 0 k)
  | 0, k, hk => by omega
  | n + 1, k, hk => by
    have hl := enc_len M n
    unfold enc
    rw [List.getD_eq_getElem?_getD]
    by_cases h : k < n
    · rw [List.getElem?_append_left (by omega), ← List.getD_eq_getElem?_getD]; exact enc_get M n k h
    · have : k = n := by omega
      subst this
      rw [List.getElem?_append_right (by omega), hl]; simp
theorem bM_has {xs : List Int} {ps es : List (Int × Int)} (h : MOk xs ps es) : Has (bM xs ps es) (dH xs) := fun k hk => by
  rw [bM_len] at hk
  obtain ⟨h1, h2⟩ := rdM_ok h
  have h3 := (ht_enc h1 h2).2 k hk
  rw [dH_get hk]
  unfold bM
  rw [enc_get _ _ _ hk]
  exact h3
end Go.Abs
