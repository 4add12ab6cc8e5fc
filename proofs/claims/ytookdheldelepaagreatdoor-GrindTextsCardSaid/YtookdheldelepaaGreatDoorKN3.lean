import Derived.Test.YtookdheldelepaaGreatDoorKN2x
set_option linter.all false
set_option linter.unusedVariables false
set_option linter.unusedSimpArgs false
set_option linter.unusedSectionVars false
namespace Go.Abs
open Go.Proofs
/- plain: numerals -/
def isD (c : UInt8) : Prop := 48 ≤ c.toNat ∧ c.toNat ≤ 57
def valN (acc : Nat) (l : List UInt8) : Nat := l.foldl (fun a c => a * 10 + (c.toNat - 48)) acc
theorem valN_nil (acc : Nat) : valN acc [] = acc := rfl
theorem valN_cons (acc : Nat) (c : UInt8) (r : List UInt8) : valN acc (c :: r) = valN (acc * 10 + (c.toNat - 48)) r := by unfold valN; rw [List.foldl_cons]
theorem valN_app (a b : List UInt8) (acc : Nat) : valN acc (a ++ b) = valN (valN acc a) b := by
  unfold valN; rw [List.foldl_append]
theorem valN_ge (l : List UInt8) : ∀ acc, acc ≤ valN acc l := by
  induction l with
  | nil => exact fun acc => Nat.le_refl _
  | cons c r ih => intro acc; rw [valN_cons]; have := ih (acc * 10 + (c.toNat - 48)); omega
theorem valN_lt (l : List UInt8) : ∀ acc, (∀ c ∈ l, isD c) → valN acc l < (acc + 1) * 10 ^ l.length := by
  induction l with
  | nil => intro acc _; rw [valN_nil]; simp
  | cons c r ih =>
    intro acc h
    have h1 := h c (by simp)
    have := ih (acc * 10 + (c.toNat - 48)) (fun x hx => h x (by simp [hx]))
    rw [valN_cons, List.length_cons, Nat.pow_succ]
    unfold isD at h1
    calc _ < (acc * 10 + (c.toNat - 48) + 1) * 10 ^ r.length := this
      _ ≤ ((acc + 1) * 10) * 10 ^ r.length := Nat.mul_le_mul_right _ (by omega)
      _ = _ := by rw [Nat.mul_assoc, Nat.mul_comm 10]
theorem parse_ok (l : List UInt8) : ∀ acc, (∀ c ∈ l, isD c) → valN acc l < 18446744073709551616 → Lib.parseUint10 acc l = .ok (valN acc l) := by
  induction l with
  | nil => intro acc _ _; rfl
  | cons c r ih =>
    intro acc h hv
    have h1 := h c (by simp)
    rw [valN_cons] at hv ⊢
    have h2 := valN_ge r (acc * 10 + (c.toNat - 48))
    unfold isD at h1
    unfold Lib.parseUint10
    rw [if_pos h1, if_neg (by omega), if_neg (by omega)]
    exact ih _ (fun x hx => h x (by simp [hx])) hv
theorem dig_toNat {d : Nat} (h : d < 10) : (UInt8.ofNat (48 + d)).toNat = 48 + d := by
  rw [UInt8.toNat_ofNat']; omega
theorem dec_props : ∀ (n u : Nat), u ≤ n → (∀ c ∈ Lib.decDigits u, isD c) ∧ valN 0 (Lib.decDigits u) = u ∧ Lib.decDigits u ≠ []
  | 0, u, h => by
    have : u = 0 := by omega
    subst this
    rw [Lib.decDigits_one (by omega)]
    refine ⟨fun c hc => ?_, rfl, by simp⟩
    simp only [List.mem_singleton] at hc
    subst hc
    unfold isD; rw [dig_toNat (by omega)]; omega
  | n + 1, u, h => by
    by_cases h1 : u < 10
    · rw [Lib.decDigits_one h1]
      refine ⟨fun c hc => ?_, ?_, by simp⟩
      · simp only [List.mem_singleton] at hc
        subst hc
        unfold isD; rw [dig_toNat h1]; omega
      · rw [valN_cons, valN_nil, dig_toNat h1]; omega
    · obtain ⟨a, b, c⟩ := dec_props n (u / 10) (by omega)
      rw [decDigits_more h1]
      refine ⟨fun x hx => ?_, ?_, by simp⟩
      · rcases List.mem_append.1 hx with hx | hx
        · exact a x hx
        · simp only [List.mem_singleton] at hx
          subst hx
          unfold isD; rw [dig_toNat (by omega)]; omega
      · rw [valN_app, b]
        rw [valN_cons, valN_nil, dig_toNat (by omega)]; omega
theorem dec_dig (u : Nat) : ∀ c ∈ Lib.decDigits u, isD c := (dec_props u u (Nat.le_refl _)).1
theorem dec_val (u : Nat) : valN 0 (Lib.decDigits u) = u := (dec_props u u (Nat.le_refl _)).2.1
theorem dec_ne (u : Nat) : Lib.decDigits u ≠ [] := (dec_props u u (Nat.le_refl _)).2.2
theorem mag_dec {u : Nat} (h : u < 18446744073709551616) : Lib.parseMag (Lib.decDigits u) = .ok u := by
  unfold Lib.parseMag
  rw [if_neg (dec_ne u), parse_ok _ _ (dec_dig u) (by rw [dec_val]; exact h), dec_val]
theorem atoi_itoa {v : Int} (h : okI v) : Lib.atoiAll (Lib.itoa v) = .ok v := by
  unfold okI at h
  unfold Lib.itoa
  by_cases hv : v < 0
  · rw [if_pos hv, Lib.atoiAll_minus, mag_dec (by omega)]
    simp only [Lib.signed]
    rw [if_neg (by omega)]
    congr 1; omega
  · rw [if_neg hv]
    have h1 := mag_dec (u := v.toNat) (by omega)
    have h2 := dec_dig v.toNat
    cases hd : Lib.decDigits v.toNat with
    | nil => exact absurd hd (dec_ne _)
    | cons c r =>
      rw [hd] at h1 h2
      have hc := h2 c (by simp)
      unfold isD at hc
      rw [Lib.atoiAll_plain c r (by omega) (by omega), h1]
      simp only [Lib.signless]
      rw [if_neg (by omega)]
      congr 1; omega
/-! the sign and the digits -/
def sgn (w : ByteArray) : Bool := decide (w.data.toList.head? = some 45)
def dgs (w : ByteArray) : List UInt8 := if sgn w then w.data.toList.drop 1 else w.data.toList
def numV (w : ByteArray) : Int := if sgn w then -(valN 0 (dgs w) : Int) else valN 0 (dgs w)
theorem tr_size (w : ByteArray) : (trB w).size = (dgs w).length := by
  have e : (trB w).size = (Lib.trimPrefix w.data.toList [45]).length := rfl
  rw [e]
  unfold Lib.trimPrefix Lib.hasPrefix dgs sgn
  cases h : w.data.toList with
  | nil => rfl
  | cons c r =>
    by_cases hc : c = 45
    · subst hc; simp
    · have : ([45] : List UInt8).isPrefixOf (c :: r) = false := by
        simp [List.isPrefixOf, Ne.symm hc]
      simp [this, hc]
theorem itoaB_eq {v : Int} {w : ByteArray} : ((itoaB v).toList == w.toList) = true ↔ Lib.itoa v = w.data.toList := by
  rw [beq_iff_eq, ByteArray.toList_eq, ByteArray.toList_eq]
theorem dgs_itoa {v : Int} {w : ByteArray} (h : Lib.itoa v = w.data.toList) : dgs w = Lib.decDigits v.natAbs ∧ numV w = v := by
  have key : sgn w = decide (v < 0) ∧ dgs w = Lib.decDigits v.natAbs := by
    unfold Lib.itoa at h
    by_cases hv : v < 0
    · rw [if_pos hv] at h
      have : sgn w = true := by unfold sgn; rw [← h]; rfl
      exact ⟨by rw [this]; simp [hv], by unfold dgs; rw [this, ← h]; rfl⟩
    · rw [if_neg hv] at h
      have : sgn w = false := by
        unfold sgn
        rw [← h]
        cases hd : Lib.decDigits v.toNat with
        | nil => exact absurd hd (dec_ne _)
        | cons c r =>
          have hc := dec_dig v.toNat c (by rw [hd]; simp)
          unfold isD at hc
          simp only [List.head?_cons, Option.some.injEq, decide_eq_false_iff_not]
          rintro rfl
          have : (45 : UInt8).toNat = 45 := rfl
          omega
      refine ⟨by rw [this]; simp [hv], ?_⟩
      unfold dgs
      rw [this, ← h, show v.toNat = v.natAbs by omega]; rfl
  refine ⟨key.2, ?_⟩
  unfold numV
  rw [key.2, dec_val, key.1]
  by_cases hv : v < 0
  · rw [if_pos (by simpa using hv)]; omega
  · rw [if_neg (by simpa using hv)]; omega
/-- what a word that is a number is -/
theorem rdI_is {w : ByteArray} {v : Int} (h : rdI w = some v) : v = numV w ∧ Lib.itoa v = w.data.toList ∧ (∀ c ∈ dgs w, isD c) ∧ dgs w ≠ [] ∧ (dgs w).length ≤ 7 := by
  obtain ⟨_, h2, h300⟩ := rdI_some h
  have h301 := itoaB_eq.1 h2
  obtain ⟨h302, h303⟩ := dgs_itoa h301
  exact ⟨h303.symm, h301, by rw [h302]; exact dec_dig _, by rw [h302]; exact dec_ne _, by rw [← tr_size]; exact h300⟩
theorem numV_rng {w : ByteArray} (h1 : ∀ c ∈ dgs w, isD c) (h2 : (dgs w).length ≤ 7) : -10000000000 ≤ numV w ∧ numV w ≤ 10000000000 := by
  have := valN_lt (dgs w) 0 h1
  have h300 : (10 : Nat) ^ (dgs w).length ≤ 10 ^ 10 := Nat.pow_le_pow_right (by omega) (show (dgs w).length ≤ 10 by omega)
  have h301 : (10 : Nat) ^ 10 = 10000000000 := by decide
  unfold numV
  split <;> omega
theorem rdI_of {w : ByteArray} (h1 : ∀ c ∈ dgs w, isD c) (h2 : (dgs w).length ≤ 7) (h : ((itoaB (numV w)).toList == w.toList) = true) : rdI w = some (numV w) := by
  have h301 := itoaB_eq.1 h
  have hr := numV_rng h1 h2
  unfold rdI
  rw [← h301, atoi_itoa (by unfold okI; omega)]
  dsimp only
  rw [if_pos h, if_pos (by rw [tr_size]; exact h2)]
theorem rdI_no {w : ByteArray} (h : ((itoaB (numV w)).toList == w.toList) = false) : rdI w = none := by
  cases h1 : rdI w with
  | none => rfl
  | some v =>
    obtain ⟨h2, h300, _⟩ := rdI_is h1
    rw [h2] at h300
    rw [itoaB_eq.2 h300] at h
    simp at h
/- plain: a text cut at a byte -/
def cutL (c : UInt8) : List UInt8 → List (List UInt8)
  | [] => [[]]
  | b :: r => if b = c then [] :: cutL c r else match cutL c r with
    | [] => [[b]]
    | h :: t => (b :: h) :: t
def att (x : List UInt8) : List (List UInt8) → List (List UInt8)
  | [] => [x]
  | h :: t => (x ++ h) :: t
theorem cutL_ne (c : UInt8) (l : List UInt8) : cutL c l ≠ [] := by
  cases l with
  | nil => simp [cutL]
  | cons b r =>
    unfold cutL
    split
    · simp
    · split <;> simp
theorem cutL_hit (c : UInt8) (r : List UInt8) : cutL c (c :: r) = [] :: cutL c r := by rw [cutL, if_pos rfl]
theorem cutL_miss {b c : UInt8} (h : b ≠ c) (r : List UInt8) : cutL c (b :: r) = att [b] (cutL c r) := by
  rw [cutL, if_neg h]
  cases cutL c r <;> rfl
theorem att_nil {l : List (List UInt8)} (h : l ≠ []) : att [] l = l := by
  cases l with
  | nil => exact absurd rfl h
  | cons a t => rfl
theorem att_att {x y : List UInt8} {l : List (List UInt8)} (h : l ≠ []) : att x (att y l) = att (x ++ y) l := by
  cases l with
  | nil => exact absurd rfl h
  | cons a t => simp [att]
theorem splitK_cut (c : UInt8) : ∀ s : List UInt8, Lib.splitK [c] 0 (Lib.count s [c]) s = cutL c s
  | [] => by rw [Lib.count_miss (by simp [Lib.index])]; rfl
  | b :: r => by
    have ih := splitK_cut c r
    by_cases hb : b = c
    · subst hb
      have hix : Lib.index (b :: r) [b] = 0 := by rw [Lib.index]; simp [List.isPrefixOf]
      rw [Lib.count_cons_eq, show 1 + Lib.count r [b] = Lib.count r [b] + 1 by omega, Lib.splitK, hix, cutL_hit, ← ih]
      simp
    · have hix : Lib.index (b :: r) [c] = if Lib.index r [c] == -1 then -1 else Lib.index r [c] + 1 := by
        rw [Lib.index]
        simp [List.isPrefixOf, Ne.symm hb]
      rw [Lib.count_cons_ne b c r hb, cutL_miss hb]
      cases hk : Lib.count r [c] with
      | zero => rw [hk] at ih; rw [← ih]; rfl
      | succ k =>
        rw [hk] at ih
        have hn : ¬ Lib.index r [c] = -1 := fun h => by rw [Lib.count_miss h] at hk; omega
        have hge := Lib.index_ge r [c]
        rw [Lib.splitK, if_neg (by simpa using hn)] at ih
        have hi2 : Lib.index (b :: r) [c] = Lib.index r [c] + 1 := by rw [hix, if_neg (by simpa using hn)]
        rw [Lib.splitK, hi2, if_neg (by simp; omega), ← ih]
        rw [show (Lib.index r [c] + 1).toNat = (Lib.index r [c]).toNat + 1 by omega]
        simp [att]
theorem countB_data (s sep : ByteArray) : Lib.countB s sep = Lib.count s.data.toList sep.data.toList := rfl
theorem pieces_cut (s : ByteArray) (c : UInt8) : (pieces s ⟨#[c]⟩).map (·.data.toList) = cutL c s.data.toList := by
  unfold pieces
  rw [Lib.splitB_data, countB_data]
  exact splitK_cut c _
theorem map_data_inj {l m : List ByteArray} (h : l.map (·.data.toList) = m.map (·.data.toList)) : l = m := by
  induction l generalizing m with
  | nil => cases m <;> simp at h ⊢
  | cons a r ih =>
    cases m with
    | nil => simp at h
    | cons b t =>
      simp only [List.map_cons, List.cons.injEq] at h
      rw [ba_ext h.1, ih h.2]
theorem cutL_no {c : UInt8} : ∀ {s : List UInt8}, c ∉ s → cutL c s = [s]
  | [], _ => rfl
  | b :: r, h => by
    simp only [List.mem_cons, not_or] at h
    rw [cutL_miss (Ne.symm h.1), cutL_no h.2]; rfl
theorem cutL_app {c : UInt8} {x : List UInt8} (y : List UInt8) (h : c ∉ x) : cutL c (x ++ c :: y) = x :: cutL c y := by
  induction x with
  | nil => exact cutL_hit c y
  | cons b r ih =>
    simp only [List.mem_cons, not_or] at h
    rw [List.cons_append, cutL_miss (Ne.symm h.1), ih h.2]
    rfl
theorem indexByte_mem {c : UInt8} : ∀ {l : List UInt8}, 0 ≤ Lib.indexByte l c ↔ c ∈ l
  | [] => by simp [Lib.indexByte]
  | b :: l => by
    have ih := indexByte_mem (c := c) (l := l)
    have := Lib.indexByte_ge l c
    unfold Lib.indexByte
    by_cases hb : b = c
    · subst hb; simp
    · rw [if_neg (by simpa using hb)]
      simp only [List.mem_cons, Ne.symm hb, false_or, ← ih]
      split
      · rename_i h; have := beq_iff_eq.1 h; omega
      · rename_i h; have : Lib.indexByte l c ≠ -1 := fun e => h (by rw [e]; rfl)
        omega
theorem dec_len : ∀ (k u : Nat), u < 10 ^ (k + 1) → (Lib.decDigits u).length ≤ k + 1
  | 0, u, h => by rw [Lib.decDigits_one (by simpa using h)]; simp
  | k + 1, u, h => by
    by_cases h1 : u < 10
    · rw [Lib.decDigits_one h1]; simp
    · rw [decDigits_more h1]
      have := dec_len k (u / 10) (by rw [Nat.pow_succ] at h; omega)
      simp; omega
theorem rdI_itoa {v : Int} (h1 : -10000000 < v) (h2 : v < 10000000) : rdI (itoaB v) = some v := by
  have hv : okI v := by unfold okI; omega
  have e : Lib.itoa v = (itoaB v).data.toList := rfl
  obtain ⟨h300, _⟩ := dgs_itoa e
  unfold rdI
  rw [← e, atoi_itoa hv]
  dsimp only
  rw [if_pos (by simp), if_pos]
  rw [tr_size, h300]
  exact dec_len 6 _ (by rw [show (10 : Nat) ^ (6 + 1) = 10000000 by decide]; omega)
theorem itoa_no {v : Int} {c : UInt8} (hc : ¬ isD c) (h : c ≠ 45) : c ∉ (itoaB v).data.toList := by
  intro hm
  have hm' : c ∈ Lib.itoa v := hm
  unfold Lib.itoa at hm'
  split at hm'
  · rcases List.mem_cons.1 hm' with h1 | h1
    · exact h h1
    · exact hc (dec_dig _ _ h1)
  · exact hc (dec_dig _ _ hm')
theorem nm_no {m : ByteArray} {c : UInt8} (hm : nmB m = true) (hc : okCh c.toNat = false) : c ∉ m.data.toList := by
  intro h
  have h2 : ((c.toNat : Nat) : Int) ∈ nums m := List.mem_map.2 ⟨c, h, rfl⟩
  unfold nmB at hm
  cases hn : nums m with
  | nil => rw [hn] at h2; simp at h2
  | cons x r =>
    rw [hn] at hm h2
    unfold nmL at hm
    simp only [Bool.and_eq_true, List.all_eq_true] at hm
    rw [hm.2 _ h2] at hc
    simp at hc
end Go.Abs
