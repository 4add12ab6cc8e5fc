import Derived.Test.YtodheeifecoebaaGreatDoorPCmin
import Derived.Test.YtodheeifecoebaaGreatDoorK51x
import Derived.Test.YtodheeifecoebaaGreatDoorK43x
set_option linter.all false
set_option linter.unusedVariables false
set_option linter.unusedSimpArgs false
set_option linter.unusedSectionVars false
namespace Go.Abs
open Go.Proofs
/-! what a table holds at the end -/
/-- one stage, from the table pa it was -/
def stg (M : List (List Int)) (k a b : Nat) : Int := if mget M a k < far ∧ mget M k b < far then min (mget M a b) (mget M a k + mget M k b) else mget M a b
theorem stg_col {M : List (List Int)} {k : Nat} (h : mget M k k = 0) (a : Nat) : stg M k a k = mget M a k := by
  unfold stg; rw [h]; split <;> omega
theorem stg_row {M : List (List Int)} {k : Nat} (h : mget M k k = 0) (b : Nat) : stg M k k b = mget M k b := by
  unfold stg; rw [h]; split <;> omega
theorem fwJ_get {z k i : Nat} {M M0 : List (List Int)} (hk : k < z) (hi : i < z) (h0 : mget M0 k k = 0) (hs : Sq z M) (hM : ∀ a b, a < z → b < z → mget M a b = if a < i then stg M0 k a b else mget M0 a b) :
    ∀ j, j ≤ z → Sq z (fwJ k i M j) ∧ ∀ a b, a < z → b < z → mget (fwJ k i M j) a b = if a < i ∨ (a = i ∧ b < j) then stg M0 k a b else mget M0 a b
  | 0, _ => ⟨hs, fun a b ha hb => by
      show mget M a b = _
      rw [hM a b ha hb]
      by_cases h : a < i
      · rw [if_pos h, if_pos (.inl h)]
      · rw [if_neg h, if_neg (by omega)]⟩
  | j + 1, hj => by
    obtain ⟨h1, h2⟩ := fwJ_get hk hi h0 hs hM j (by omega)
    have e : fwJ k i M (j + 1) = fwC (fwJ k i M j) k i j := rfl
    rw [e]
    generalize fwJ k i M j = M' at *
    have hik : mget M' i k = mget M0 i k := by
      rw [h2 i k hi hk]
      split
      · exact stg_col h0 i
      · rfl
    have hkj : mget M' k j = mget M0 k j := by
      rw [h2 k j hk (by omega)]
      split
      · rename_i h
        rcases h with h | h
        · exact stg_row h0 j
        · omega
      · rfl
    have hij : mget M' i j = mget M0 i j := by rw [h2 i j hi (by omega), if_neg (by omega)]
    have hst : mget (fwC M' k i j) i j = stg M0 k i j := by
      unfold fwC
      rw [hik, hkj, hij]
      unfold stg
      split
      · rw [mget_mset h1 hi (by omega), if_pos ⟨rfl, rfl⟩]
      · exact hij
    have hne : ∀ a b, ¬ (i = a ∧ j = b) → mget (fwC M' k i j) a b = mget M' a b := fun a b h => by
      unfold fwC
      split
      · rw [mget_mset h1 hi (by omega), if_neg h]
      · rfl
    have hsq : Sq z (fwC M' k i j) := by
      unfold fwC
      split
      · exact h1.mset _ _ _
      · exact h1
    refine ⟨hsq, fun a b ha hb => ?_⟩
    by_cases hab : i = a ∧ j = b
    · obtain ⟨rfl, rfl⟩ := hab
      rw [hst, if_pos (.inr ⟨rfl, by omega⟩)]
    · rw [hne a b hab, h2 a b ha hb]
      by_cases h : a < i ∨ a = i ∧ b < j
      · rw [if_pos h, if_pos (by omega)]
      · rw [if_neg h, if_neg (by omega)]
theorem fwI_get {z k : Nat} {M : List (List Int)} (hk : k < z) (h0 : mget M k k = 0) (hs : Sq z M) : ∀ i, i ≤ z → Sq z (fwI z k M i) ∧ ∀ a b, a < z → b < z → mget (fwI z k M i) a b = if a < i then stg M k a b else mget M a b
  | 0, _ => ⟨hs, fun a b _ _ => by rw [if_neg (by omega)]; rfl⟩
  | i + 1, hi => by
    obtain ⟨h1, h2⟩ := fwI_get hk h0 hs i (by omega)
    obtain ⟨h200, h201⟩ := fwJ_get (i := i) hk (by omega) h0 h1 h2 z (Nat.le_refl _)
    refine ⟨h200, fun a b ha hb => ?_⟩
    show mget (fwJ k i (fwI z k M i) z) a b = _
    rw [h201 a b ha hb]
    by_cases h : a < i + 1
    · rw [if_pos (by omega), if_pos h]
    · rw [if_neg (by omega), if_neg h]
/-- walks: the zones between -/
inductive Wk (A : List Ar) : List Nat → Nat → Nat → Int → Prop
  | arc {k : Nat} (h : k < A.length) : Wk A [] (A.getD k ar0).f.toNat (A.getD k ar0).t.toNat (A.getD k ar0).len
  | cons {k : Nat} {vs : List Nat} {j : Nat} {c : Int} (h : k < A.length) (hw : Wk A vs (A.getD k ar0).t.toNat j c) : Wk A ((A.getD k ar0).t.toNat :: vs) (A.getD k ar0).f.toNat j ((A.getD k ar0).len + c)
theorem Wk.app {A : List Ar} {us vs : List Nat} {i m j : Nat} {c d : Int} (h1 : Wk A us i m c) (h2 : Wk A vs m j d) : Wk A (us ++ m :: vs) i j (c + d) := by
  induction h1 with
  | arc h => exact Wk.cons h h2
  | cons h hw ih => rw [Int.add_assoc]; exact Wk.cons h (ih h2)
theorem Wk.split {A : List Ar} : ∀ {us : List Nat} {vs : List Nat} {i m j : Nat} {c : Int}, Wk A (us ++ m :: vs) i j c → ∃ c1 c2, Wk A us i m c1 ∧ Wk A vs m j c2 ∧ c = c1 + c2
  | [], vs, i, m, j, c, h => by
    cases h with
    | cons h hw => exact ⟨_, _, Wk.arc h, hw, rfl⟩
  | u :: us, vs, i, m, j, c, h => by
    cases h with
    | cons h hw =>
      obtain ⟨c1, c2, h1, h2, h200⟩ := Wk.split hw
      exact ⟨_, c2, Wk.cons h h1, h2, by rw [h200, Int.add_assoc]⟩
theorem Wk.le {A : List Ar} {z : Nat} (hA : okAr A z) {vs : List Nat} {i j : Nat} {c : Int} (h : Wk A vs i j c) : c ≤ 1000000 * ((vs.length : Int) + 1) := by
  induction h with
  | arc h => have := (hA _ h).2.2.2; simp only [List.length_nil]; omega
  | cons h hw ih => have := (hA _ h).2.2.2; simp only [List.length_cons]; omega
theorem Wk.short {A : List Ar} {K : Nat} : ∀ (n : Nat) {vs : List Nat} {i j : Nat} {c : Int}, vs.length ≤ n → (∀ v ∈ vs, v < K) → Wk A vs i j c → ∃ us d, us.Nodup ∧ (∀ v ∈ us, v < K) ∧ Wk A us i j d
  | 0, vs, i, j, c, hn, hK, h => by
    cases vs with
    | nil => exact ⟨[], c, List.nodup_nil, hK, h⟩
    | cons a r => simp at hn
  | n + 1, vs, i, j, c, hn, hK, h => by
    cases vs with
    | nil => exact ⟨[], c, List.nodup_nil, hK, h⟩
    | cons v vs =>
      obtain ⟨c1, c2, h1, h2, _⟩ := Wk.split (us := []) h
      obtain ⟨us, d, h200, h201, h202⟩ := Wk.short n (by simpa using hn) (fun x hx => hK x (by simp [hx])) h2
      by_cases hv : v ∈ us
      · obtain ⟨pa, bs, rfl⟩ := List.append_of_mem hv
        obtain ⟨d1, d2, _, h204, _⟩ := Wk.split h202
        have hnd := (List.nodup_append.1 h200).2.1
        refine ⟨v :: bs, c1 + d2, hnd, fun x hx => h201 x (by simp at hx ⊢; rcases hx with h | h <;> simp [h]), ?_⟩
        exact Wk.app (us := []) h1 h204
      · exact ⟨v :: us, c1 + d, List.nodup_cons.2 ⟨hv, h200⟩, fun x hx => by rcases List.mem_cons.1 hx with rfl | hx; exact hK _ (by simp); exact h201 x hx, Wk.app (us := []) h1 h202⟩
theorem nodup_le : ∀ (K : Nat) (l : List Nat), l.Nodup → (∀ v ∈ l, v < K) → l.length ≤ K
  | 0, l, _, h => by
    cases l with
    | nil => simp
    | cons a r => have := h a (by simp); omega
  | K + 1, l, hn, h => by
    have h1 := nodup_le K (l.erase K) (hn.erase K) (fun v hv => by
      have h2 := h v (List.mem_of_mem_erase hv)
      have h200 : v ≠ K := fun e => by subst e; exact (List.Nodup.not_mem_erase hn) hv
      omega)
    have h2 : l.length ≤ (l.erase K).length + 1 := by
      by_cases hK : K ∈ l
      · rw [List.length_erase_of_mem hK]; omega
      · rw [List.erase_of_not_mem hK]; omega
    omega
/-- a table after K stages -/
structure Stt (A : List Ar) (z K : Nat) (M : List (List Int)) : Prop where
  sq : Sq z M
  dg : ∀ i, i < z → mget M i i = 0
  opt : ∀ vs i j c, i < z → j < z → vs.Nodup → (∀ v ∈ vs, v < K) → Wk A vs i j c → mget M i j ≤ c
  ex : ∀ i j, i < z → j < z → i ≠ j → mget M i j < far → ∃ vs, (∀ v ∈ vs, v < K) ∧ Wk A vs i j (mget M i j)
  cl : ∀ m i j, m < K → i < z → j < z → mget M i m < far → mget M m j < far → mget M i j ≤ mget M i m + mget M m j
  hi : ∀ i j, i < z → j < z → mget M i j ≤ far
theorem Stt.snd {A : List Ar} {z K : Nat} {M : List (List Int)} (h : Stt A z K M) : ∀ i j, i < z → j < z → i ≠ j → mget M i j < far → ∃ vs c, (∀ v ∈ vs, v < K) ∧ Wk A vs i j c := fun i j hi hj hij hf => by
  obtain ⟨vs, h1, h2⟩ := h.ex i j hi hj hij hf
  exact ⟨vs, _, h1, h2⟩
theorem Stt.bound {A : List Ar} {z K : Nat} {M : List (List Int)} (h : Stt A z K M) (hA : okAr A z) (hK : K ≤ 40) {i j : Nat} (hi : i < z) (hj : j < z) (hf : mget M i j < far) : mget M i j ≤ 41000000 := by
  by_cases hij : i = j
  · subst hij; rw [h.dg i hi]; omega
  · obtain ⟨vs, c, h1, h2⟩ := h.snd i j hi hj hij hf
    obtain ⟨us, d, h200, h201, h202⟩ := Wk.short vs.length (Nat.le_refl _) h1 h2
    have h203 := h.opt us i j d hi hj h200 h201 h202
    have h204 := h202.le hA
    have h205 := nodup_le K us h200 h201
    omega
theorem Stt.step {A : List Ar} {z K : Nat} {M : List (List Int)} (hA : okAr A z) (hK : K < z) (hz : z ≤ 40) (h : Stt A z K M) (hd : ∀ i, i < z → 0 ≤ mget (fwI z K M z) i i) : Stt A z (K + 1) (fwI z K M z) := by
  obtain ⟨h1, h2⟩ := fwI_get hK (h.dg K hK) h.sq z (Nat.le_refl _)
  have h200 : ∀ a b, a < z → b < z → mget (fwI z K M z) a b = stg M K a b := fun a b ha hb => by rw [h2 a b ha hb, if_pos ha]
  have hfar : far = 1099511627776 := rfl
  have hb := fun i j (hi : i < z) (hj : j < z) => h.bound hA (by omega) (i := i) (j := j) hi hj
  have hle : ∀ a b, a < z → b < z → stg M K a b ≤ mget M a b := fun a b _ _ => by unfold stg; split <;> omega
  have hst : ∀ a b, a < z → b < z → mget M a K < far → mget M K b < far → stg M K a b ≤ mget M a K + mget M K b := fun a b _ _ h201 h202 => by unfold stg; rw [if_pos ⟨h201, h202⟩]; omega
  have hfin : ∀ a b, a < z → b < z → stg M K a b < far → mget M a b < far ∨ (mget M a K < far ∧ mget M K b < far) := fun a b ha hb h201 => by
    unfold stg at h201; split at h201
    · rename_i h202; exact .inr h202
    · exact .inl h201
  have hval : ∀ a b, a < z → b < z → stg M K a b = mget M a b ∨ (stg M K a b = mget M a K + mget M K b ∧ mget M a K < far ∧ mget M K b < far) := fun a b ha hb => by
    unfold stg; split
    · rename_i h202; rcases Int.le_total (mget M a b) (mget M a K + mget M K b) with h203 | h203
      · left; omega
      · right; exact ⟨by omega, h202⟩
    · exact .inl rfl
  refine ⟨h1, fun i hi => ?_, fun vs i j c hi hj hn hv hw => ?_, fun i j hi hj hij hf => ?_, fun m i j hm hi hj hf1 hf2 => ?_, fun i j hi hj => ?_⟩
  · have h201 := hd i hi
    rw [h200 i i hi hi] at h201 ⊢
    have h202 := hle i i hi hi
    rw [h.dg i hi] at h202
    omega
  · rw [h200 i j hi hj]
    by_cases hKv : K ∈ vs
    · obtain ⟨pa, bs, rfl⟩ := List.append_of_mem hKv
      obtain ⟨c1, c2, h201, h202, h203⟩ := Wk.split hw
      obtain ⟨n1, n2, n3⟩ := List.nodup_append.1 hn
      have n4 := List.nodup_cons.1 n2
      have v1 : ∀ v ∈ pa, v < K := fun v hva => by
        have := hv v (by simp [hva])
        have : v ≠ K := fun e => n3 v hva K (by simp) e
        omega
      have v2 : ∀ v ∈ bs, v < K := fun v hvb => by
        have := hv v (by simp [hvb])
        have : v ≠ K := fun e => n4.1 (e ▸ hvb)
        omega
      have o1 := h.opt pa i K c1 hi hK n1 v1 h201
      have o2 := h.opt bs K j c2 hK hj n4.2 v2 h202
      have l1 := h201.le hA
      have l2 := h202.le hA
      have k1 := nodup_le K pa n1 v1
      have k2 := nodup_le K bs n4.2 v2
      have := hst i j hi hj (by omega) (by omega)
      omega
    · have := h.opt vs i j c hi hj hn (fun v hva => by
        have := hv v hva
        have : v ≠ K := fun e => hKv (e ▸ hva)
        omega) hw
      have := hle i j hi hj
      omega
  · rw [h200 i j hi hj] at hf ⊢
    have lift : ∀ (vs : List Nat), (∀ v ∈ vs, v < K) → ∀ v ∈ vs, v < K + 1 := fun vs h v hv => by have := h v hv; omega
    by_cases hiK : i = K
    · subst hiK
      rw [stg_row (h.dg i hK)] at hf ⊢
      obtain ⟨vs, h203, h204⟩ := h.ex i j hi hj hij hf
      exact ⟨vs, lift vs h203, h204⟩
    · by_cases hjK : K = j
      · subst hjK
        rw [stg_col (h.dg K hK)] at hf ⊢
        obtain ⟨vs, h203, h204⟩ := h.ex i K hi hj hij hf
        exact ⟨vs, lift vs h203, h204⟩
      · rcases hval i j hi hj with e1 | ⟨e1, h201, h202⟩
        · rw [e1] at hf ⊢
          obtain ⟨vs, h203, h204⟩ := h.ex i j hi hj hij hf
          exact ⟨vs, lift vs h203, h204⟩
        · rw [e1]
          obtain ⟨vs, h203, h204⟩ := h.ex i K hi hK hiK h201
          obtain ⟨us, h205, h206⟩ := h.ex K j hK hj hjK h202
          refine ⟨vs ++ K :: us, fun v hv => ?_, h204.app h206⟩
          simp only [List.mem_append, List.mem_cons] at hv
          rcases hv with hv | rfl | hv
          · have := h203 v hv; omega
          · omega
          · have := h205 v hv; omega
  · rw [h200 i m hi (by omega)] at hf1 ⊢
    rw [h200 m j (by omega) hj] at hf2 ⊢
    rw [h200 i j hi hj]
    have hmz : m < z := by omega
    by_cases hmK : m = K
    · subst hmK
      rw [stg_col (h.dg m hmz)] at hf1 ⊢
      rw [stg_row (h.dg m hmz)] at hf2 ⊢
      exact hst i j hi hj hf1 hf2
    · have hmK2 : m < K := by omega
      rcases hval i m hi hmz with e1 | ⟨e1, f1, f2⟩
      · rcases hval m j hmz hj with e2 | ⟨e2, g1, g2⟩
        · rw [e1] at hf1 ⊢
          rw [e2] at hf2 ⊢
          have := h.cl m i j hmK2 hi hj hf1 hf2
          have := hle i j hi hj
          omega
        · rw [e1] at hf1 ⊢
          rw [e2]
          have c1 := h.cl m i K hmK2 hi hK hf1 g1
          have b1 := hb i m hi hmz hf1
          have b2 := hb m K hmz hK g1
          have := hst i j hi hj (by omega) g2
          omega
      · rcases hval m j hmz hj with e2 | ⟨e2, g1, g2⟩
        · rw [e2] at hf2 ⊢
          rw [e1]
          have c1 := h.cl m K j hmK2 hK hj f2 hf2
          have b1 := hb K m hK hmz f2
          have b2 := hb m j hmz hj hf2
          have := hst i j hi hj f1 (by omega)
          omega
        · rw [e1, e2]
          have c1 := h.cl m K K hmK2 hK hK f2 g1
          rw [h.dg K hK] at c1
          have := hst i j hi hj f1 g2
          omega
  · rw [h200 i j hi hj]
    have := h.hi i j hi hj
    have := hle i j hi hj
    omega
theorem arM_lb {z : Nat} {A : List Ar} (hA : okAr A z) : ∀ k, k ≤ A.length → Sq z (arM A (iniM z) k) ∧ (∀ i j, i < z → j < z → mget (arM A (iniM z) k) i j ≤ far) ∧ (∀ m, m < k → mget (arM A (iniM z) k) (A.getD m ar0).f.toNat (A.getD m ar0).t.toNat ≤ (A.getD m ar0).len) ∧
    (∀ i j, i < z → j < z → i ≠ j → mget (arM A (iniM z) k) i j < far → ∃ m, m < A.length ∧ (A.getD m ar0).f.toNat = i ∧ (A.getD m ar0).t.toNat = j ∧ mget (arM A (iniM z) k) i j = (A.getD m ar0).len) ∧ (neAr A → ∀ i, i < z → mget (arM A (iniM z) k) i i = 0)
  | 0, _ => by
    have hfar : far = 1099511627776 := rfl
    refine ⟨iniM_sq z, fun i j hi hj => ?_, fun m hm => by omega, fun i j hi hj hij hf => ?_, fun _ i hi => ?_⟩
    · show mget (iniM z) i j ≤ far; rw [iniM_mget hi hj]; split <;> omega
    · have : mget (iniM z) i j < far := hf
      rw [iniM_mget hi hj, if_neg hij] at this; omega
    · show mget (iniM z) i i = 0; rw [iniM_mget hi hi, if_pos rfl]
  | k + 1, hk => by
    obtain ⟨h1, h2, h200, h201, h202⟩ := arM_lb hA k (by omega)
    have hAk := hA k (by omega)
    have hf : (A.getD k ar0).f.toNat < z := by omega
    have ht : (A.getD k ar0).t.toNat < z := by omega
    have hfar : far = 1099511627776 := rfl
    unfold arM
    refine ⟨h1.mset _ _ _, fun i j hi hj => ?_, fun m hm => ?_, fun i j hi hj hij hlt => ?_, fun hN i hi => ?_⟩
    · rw [mget_mset h1 hf ht]
      have := h2 i j hi hj
      have := h2 _ _ hf ht
      split <;> omega
    · rw [mget_mset h1 hf ht]
      by_cases hmk : m = k
      · subst hmk; rw [if_pos ⟨rfl, rfl⟩]; omega
      · have := h200 m (by omega)
        split
        · rename_i hc; rw [hc.1, hc.2]; omega
        · exact this
    · rw [mget_mset h1 hf ht] at hlt ⊢
      split at hlt
      · rename_i hc
        rw [if_pos hc]
        rcases Int.le_total (A.getD k ar0).len (mget (arM A (iniM z) k) (A.getD k ar0).f.toNat (A.getD k ar0).t.toNat) with h203 | h203
        · exact ⟨k, by omega, hc.1, hc.2, by omega⟩
        · obtain ⟨m, g1, g2, g3, g4⟩ := h201 i j hi hj hij (by rw [← hc.1, ← hc.2]; omega)
          refine ⟨m, g1, g2, g3, ?_⟩
          rw [← g4, ← hc.1, ← hc.2]; omega
      · rename_i hc
        rw [if_neg hc]
        exact h201 i j hi hj hij hlt
    · rw [mget_mset h1 hf ht, if_neg (fun hc => hN k (by omega) (by omega))]
      exact h202 hN i hi
/-- each arc has one back -/
def twoWay (A : List Ar) : Prop := ∀ k, k < A.length → ∃ m, m < A.length ∧ (A.getD m ar0).f = (A.getD k ar0).t ∧ (A.getD m ar0).t = (A.getD k ar0).f
theorem Wk.rev {A : List Ar} (h2 : twoWay A) {vs : List Nat} {i j : Nat} {c : Int} (h : Wk A vs i j c) : ∃ us d, (∀ v ∈ us, v ∈ vs) ∧ Wk A us j i d := by
  induction h with
  | arc h =>
    obtain ⟨m, hm, e1, e2⟩ := h2 _ h
    have := Wk.arc hm
    rw [e1, e2] at this
    exact ⟨[], _, fun v hv => by simp at hv, this⟩
  | cons h hw ih =>
    obtain ⟨us, d, h200, h201⟩ := ih
    obtain ⟨m, hm, e1, e2⟩ := h2 _ h
    have := Wk.arc hm
    rw [e1, e2] at this
    refine ⟨us ++ [_], _, fun v hv => ?_, h201.app this⟩
    simp only [List.mem_append, List.mem_cons, List.not_mem_nil, or_false] at hv
    rcases hv with hv | rfl
    · exact List.mem_cons_of_mem _ (h200 v hv)
    · simp
theorem Stt.back {A : List Ar} {z : Nat} {M : List (List Int)} (h : Stt A z z M) (hA : okAr A z) (h2 : twoWay A) (hz : z ≤ 40) {i j : Nat} (hi : i < z) (hj : j < z) (hf : mget M i j < far) : mget M j i < far := by
  have hfar : far = 1099511627776 := rfl
  by_cases hij : i = j
  · subst hij; exact hf
  · obtain ⟨vs, c, h200, h201⟩ := h.snd i j hi hj hij hf
    obtain ⟨us, d, h202, h203⟩ := h201.rev h2
    obtain ⟨ws, e, h204, h205, h206⟩ := Wk.short us.length (Nat.le_refl _) (fun v hv => h200 v (h202 v hv)) h203
    have := h.opt ws j i e hj hi h204 h205 h206
    have := h206.le hA
    have := nodup_le z ws h204 h205
    omega
end Go.Abs
