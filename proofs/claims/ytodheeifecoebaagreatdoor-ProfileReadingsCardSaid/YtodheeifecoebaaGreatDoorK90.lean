import Derived.Test.YtodheeifecoebaaGreatDoorPCmin
import Derived.Test.YtodheeifecoebaaGreatDoorK51x
import Derived.Test.YtodheeifecoebaaGreatDoorK70a
set_option linter.all false
set_option linter.unusedVariables false
set_option linter.unusedSimpArgs false
set_option linter.unusedSectionVars false
namespace Go.Abs
open Go.Proofs
/-! the specification's table: another sign for no way -/
abbrev FAR : Int := 1000000000000
def rv (x : Int) : Int := if x < far then x else FAR
def toR (M : List (List Int)) : List (List Int) := M.map fun r => r.map rv
theorem toR_row {M : List (List Int)} {i : Nat} : (toR M).getD i [] = (M.getD i []).map rv := by
  unfold toR
  simp only [List.getD_eq_getElem?_getD, List.getElem?_map]
  cases M[i]? with
  | none => rfl
  | some r => rfl
theorem toR_sq {z : Nat} {M : List (List Int)} (h : Sq z M) : Sq z (toR M) := by
  refine ⟨by simp [toR, h.hl], fun i hi => ?_⟩
  rw [toR_row, List.length_map]; exact h.hr i hi
theorem toR_get {z : Nat} {M : List (List Int)} (h : Sq z M) {i j : Nat} (hi : i < z) (hj : j < z) : mget (toR M) i j = rv (mget M i j) := by
  unfold mget
  rw [toR_row]
  have := h.hr i hi
  generalize M.getD i [] = r at *
  simp [List.getD, this, hj]
theorem toR_set (M : List (List Int)) (i j : Nat) (v : Int) (hi : i < M.length) : toR (mset M i j v) = mset (toR M) i j (rv v) := by
  unfold toR mset
  rw [List.map_set, List.map_set]
  congr 2
  simp [List.getD, hi]
/-- entries that are known to be small or to stand for no way -/
def Bd (z : Nat) (M : List (List Int)) : Prop := ∀ i j, i < z → j < z → mget M i j = far ∨ (-400000000 ≤ mget M i j ∧ mget M i j ≤ 400000000)
theorem rv_lt {x : Int} (h : x = far ∨ (-400000000 ≤ x ∧ x ≤ 400000000)) : (rv x < FAR ↔ x < far) ∧ (x < far → rv x = x) := by
  have hfar : far = 1099511627776 := rfl
  have hF : FAR = 1000000000000 := rfl
  unfold rv
  rcases h with h | h
  · rw [if_neg (by omega)]; omega
  · rw [if_pos (by omega)]; omega
/-- one step of the specification is one step of the program -/
def rfC (D : List (List Int)) (k i j : Nat) : List (List Int) :=
  if mget D i k < FAR ∧ mget D k j < FAR then mset D i j (max (min (mget D i j) (mget D i k + mget D k j)) (-FAR)) else D
theorem rfC_eq {z : Nat} {M : List (List Int)} (h : Sq z M) (hb : Bd z M) {k i j : Nat} (hk : k < z) (hi : i < z) (hj : j < z) : rfC (toR M) k i j = toR (fwC M k i j) := by
  have hfar : far = 1099511627776 := rfl
  have hF : FAR = 1000000000000 := rfl
  have b1 := hb i k hi hk
  have b2 := hb k j hk hj
  have b3 := hb i j hi hj
  unfold rfC fwC
  rw [toR_get h hi hk, toR_get h hk hj, toR_get h hi hj]
  by_cases hc : mget M i k < far ∧ mget M k j < far
  · rw [if_pos hc, if_pos ⟨(rv_lt b1).1.2 hc.1, (rv_lt b2).1.2 hc.2⟩, toR_set _ _ _ _ (by rw [h.hl]; exact hi), (rv_lt b1).2 hc.1, (rv_lt b2).2 hc.2]
    congr 1
    unfold rv
    rcases b3 with b3 | b3
    · rw [if_neg (by omega), if_pos (by omega)]; omega
    · rw [if_pos (by omega), if_pos (by omega)]; omega
  · rw [if_neg hc, if_neg (fun h2 => hc ⟨(rv_lt b1).1.1 h2.1, (rv_lt b2).1.1 h2.2⟩)]
/-- a table that is closed gives numbers that keep all arcs -/
theorem Stt.pot {A : List Ar} {z : Nat} {M : List (List Int)} (h : Stt A z z M) (hA : okAr A z) (hz : z ≤ 40) : ∃ P : Nat → Int, ∀ k, k < A.length → P (A.getD k ar0).t.toNat ≤ P (A.getD k ar0).f.toNat + (A.getD k ar0).len := by
  have hfar : far = 1099511627776 := rfl
  have hmin : ∀ v, v < z → ∀ n, n ≤ z → ∃ p : Int, p ≤ 0 ∧ (∀ i, i < n → mget M i v < far → p ≤ mget M i v) ∧ ∃ i, i < z ∧ mget M i v < far ∧ p = mget M i v := by
    intro v hv n
    induction n with
    | zero => intro _; exact ⟨0, Int.le_refl _, fun i hi => by omega, v, hv, by rw [h.dg v hv]; omega, (h.dg v hv).symm⟩
    | succ n ih =>
      intro hn
      obtain ⟨p, h1, h2, i0, h200, h201, h202⟩ := ih (by omega)
      by_cases hc : mget M n v < far ∧ mget M n v < p
      · exact ⟨mget M n v, by omega, fun i hi hf => by
          by_cases hin : i = n
          · subst hin; omega
          · have := h2 i (by omega) hf; omega, n, by omega, hc.1, rfl⟩
      · exact ⟨p, h1, fun i hi hf => by
          by_cases hin : i = n
          · subst hin; omega
          · exact h2 i (by omega) hf, i0, h200, h201, h202⟩
  have hP : ∀ v, ∃ p : Int, v < z → (∀ i, i < z → mget M i v < far → p ≤ mget M i v) ∧ ∃ i, i < z ∧ mget M i v < far ∧ p = mget M i v := fun v => by
    by_cases hv : v < z
    · obtain ⟨p, _, h2, h200⟩ := hmin v hv z (Nat.le_refl _)
      exact ⟨p, fun _ => ⟨h2, h200⟩⟩
    · exact ⟨0, fun h => (hv h).elim⟩
  refine ⟨fun v => Classical.choose (hP v), fun k hk => ?_⟩
  have hAk := hA k hk
  have hf : (A.getD k ar0).f.toNat < z := by omega
  have ht : (A.getD k ar0).t.toNat < z := by omega
  obtain ⟨_, i, hi, hif, hip⟩ := Classical.choose_spec (hP (A.getD k ar0).f.toNat) hf
  obtain ⟨h2, _⟩ := Classical.choose_spec (hP (A.getD k ar0).t.toNat) ht
  have h200 := h.opt [] _ _ _ hf ht List.nodup_nil (fun v hv => by simp at hv) (Wk.arc hk)
  have hb := h.bound hA hz hi hf hif
  have h201 := h.cl (A.getD k ar0).f.toNat i (A.getD k ar0).t.toNat hf hi ht hif (by omega)
  have h202 := h2 i hi (by omega)
  show Classical.choose (hP (A.getD k ar0).t.toNat) ≤ Classical.choose (hP (A.getD k ar0).f.toNat) + (A.getD k ar0).len
  omega
end Go.Abs
namespace Go.Abs
open Go.Proofs
theorem Wk.ge {A : List Ar} {z : Nat} (hA : okAr A z) {vs : List Nat} {i j : Nat} {c : Int} (h : Wk A vs i j c) : -1000000 * ((vs.length : Int) + 1) ≤ c := by
  induction h with
  | arc h => have := (hA _ h).2.2.1; simp only [List.length_nil]; omega
  | cons h hw ih => have := (hA _ h).2.2.1; simp only [List.length_cons]; omega
theorem Stt.reach {A : List Ar} {z K : Nat} {M : List (List Int)} (h : Stt A z K M) (hA : okAr A z) (hK : K ≤ 40) {vs : List Nat} {i j : Nat} {c : Int} (hi : i < z) (hj : j < z) (hv : ∀ v ∈ vs, v < K) (hw : Wk A vs i j c) : mget M i j ≤ 41000000 := by
  obtain ⟨us, d, h200, h201, h202⟩ := Wk.short vs.length (Nat.le_refl _) hv hw
  have := h.opt us i j d hi hj h200 h201 h202
  have := h202.le hA
  have := nodup_le K us h200 h201
  omega
theorem Stt.optAll {A : List Ar} {z K : Nat} {M : List (List Int)} (h : Stt A z K M) (hA : okAr A z) (hK : K ≤ 40) {vs : List Nat} {i j : Nat} {c : Int} (hj : j < z) (hw : Wk A vs i j c) : (∀ v ∈ vs, v < K) → mget M i j ≤ c := by
  have hfar : far = 1099511627776 := rfl
  induction hw with
  | arc h1 =>
    intro _
    have := hA _ h1
    exact h.opt [] _ _ _ (by omega) hj List.nodup_nil (fun v hv => by simp at hv) (Wk.arc h1)
  | @cons k vs j c h1 hw ih =>
    intro hv
    have hAk := hA _ h1
    have o1 := h.opt [] _ _ _ (by omega) (by omega) List.nodup_nil (fun v hv => by simp at hv) (Wk.arc h1)
    have o2 := ih hj (fun v hv2 => hv v (by simp [hv2]))
    have r2 := h.reach hA hK (by omega) hj (fun v hv2 => hv v (by simp [hv2])) hw
    have := h.cl (A.getD k ar0).t.toNat (A.getD k ar0).f.toNat j (hv _ (List.Mem.head _)) (by omega) hj (by omega) (by omega)
    omega
theorem Wk.short2 {A : List Ar} {K : Nat} (hcyc : ∀ v, v < K → ∀ us c, (∀ x ∈ us, x < K) → Wk A us v v c → 0 ≤ c) : ∀ (n : Nat) {vs : List Nat} {i j : Nat} {c : Int}, vs.length ≤ n → (∀ v ∈ vs, v < K) → Wk A vs i j c → ∃ us d, us.Nodup ∧ (∀ v ∈ us, v < K) ∧ Wk A us i j d ∧ d ≤ c
  | 0, vs, i, j, c, hn, hK, h => by
    cases vs with
    | nil => exact ⟨[], c, List.nodup_nil, hK, h, Int.le_refl _⟩
    | cons a r => simp at hn
  | n + 1, vs, i, j, c, hn, hK, h => by
    cases vs with
    | nil => exact ⟨[], c, List.nodup_nil, hK, h, Int.le_refl _⟩
    | cons v vs =>
      obtain ⟨c1, c2, h1, h2, h2c⟩ := Wk.split (us := []) h
      obtain ⟨us, d, h200, h201, h202, h202c⟩ := Wk.short2 hcyc n (by simpa using hn) (fun x hx => hK x (by simp [hx])) h2
      by_cases hv : v ∈ us
      · obtain ⟨pa, bs, rfl⟩ := List.append_of_mem hv
        obtain ⟨d1, d2, h203, h204, h204c⟩ := Wk.split h202
        have hnd := (List.nodup_append.1 h200).2.1
        have h205 := hcyc v (hK v (by simp)) pa d1 (fun x hx => h201 x (by simp [hx])) h203
        refine ⟨v :: bs, c1 + d2, hnd, fun x hx => h201 x (by simp at hx ⊢; rcases hx with h | h <;> simp [h]), Wk.app (us := []) h1 h204, by omega⟩
      · exact ⟨v :: us, c1 + d, List.nodup_cons.2 ⟨hv, h200⟩, fun x hx => by rcases List.mem_cons.1 hx with rfl | hx; exact hK _ (by simp); exact h201 x hx, Wk.app (us := []) h1 h202, by omega⟩
theorem Stt.lower {A : List Ar} {z K : Nat} {M : List (List Int)} (h : Stt A z K M) (hA : okAr A z) (hK : K ≤ z) (hz : z ≤ 40) {i j : Nat} (hi : i < z) (hj : j < z) (hf : mget M i j < far) : -41000000 ≤ mget M i j := by
  by_cases hij : i = j
  · subst hij; rw [h.dg i hi]; omega
  · obtain ⟨vs, h1, h2⟩ := h.ex i j hi hj hij hf
    have hcyc : ∀ v, v < K → ∀ us c, (∀ x ∈ us, x < K) → Wk A us v v c → 0 ≤ c := fun v hv us c hu hw => by
      have := h.optAll hA (by omega) (by omega) hw hu
      rw [h.dg v (by omega)] at this
      exact this
    obtain ⟨us, d, h200, h201, h202, h203⟩ := Wk.short2 hcyc vs.length (Nat.le_refl _) h1 h2
    have h204 := h202.ge hA
    have h205 := nodup_le K us h200 h201
    omega
theorem Stt.bd {A : List Ar} {z K : Nat} {M : List (List Int)} (h : Stt A z K M) (hA : okAr A z) (hK : K ≤ z) (hz : z ≤ 40) {i j : Nat} (hi : i < z) (hj : j < z) : mget M i j = far ∨ (-41000000 ≤ mget M i j ∧ mget M i j ≤ 41000000) := by
  have h1 := h.hi i j hi hj
  rcases Int.lt_or_le (mget M i j) far with h2 | h2
  · exact .inr ⟨h.lower hA hK hz hi hj h2, h.bound hA (by omega) hi hj h2⟩
  · exact .inl (by omega)
/-- within a stage the entries stay small -/
theorem Stt.mid {A : List Ar} {z k : Nat} {M : List (List Int)} (h : Stt A z k M) (hA : okAr A z) (hk : k < z) (hz : z ≤ 40) {i j : Nat} (hi : i < z) (hj : j ≤ z) : Sq z (fwJ k i (fwI z k M i) j) ∧ Bd z (fwJ k i (fwI z k M i) j) := by
  have hfar : far = 1099511627776 := rfl
  obtain ⟨h1, h2⟩ := fwI_get hk (h.dg k hk) h.sq i (by omega)
  obtain ⟨h200, h201⟩ := fwJ_get (i := i) hk hi (h.dg k hk) h1 h2 j hj
  refine ⟨h200, fun a b ha hb => ?_⟩
  rw [h201 a b ha hb]
  have b1 := h.bd hA (by omega) hz ha hb
  have b2 := h.bd hA (by omega) hz ha hk
  have b3 := h.bd hA (by omega) hz hk hb
  split
  · unfold stg
    split <;> omega
  · omega
end Go.Abs
