import Derived.Test.YtookdheldelepaaGreatDoorKN3
set_option linter.all false
set_option linter.unusedVariables false
set_option linter.unusedSimpArgs false
set_option linter.unusedSectionVars false
/- plain: the lines of a text -/
namespace Go.Abs
def jn (c : UInt8) : List (List UInt8) → List UInt8
  | [] => []
  | [p] => p
  | p :: q :: r => p ++ c :: jn c (q :: r)
theorem jn_cons {c : UInt8} {p : List UInt8} {t : List (List UInt8)} (h : t ≠ []) : jn c (p :: t) = p ++ c :: jn c t := by
  cases t with
  | nil => exact absurd rfl h
  | cons q r => rfl
theorem jn_att {c b : UInt8} {t : List (List UInt8)} (h : t ≠ []) : jn c (att [b] t) = b :: jn c t := by
  match t, h with
  | [p], _ => rfl
  | p :: q :: r, _ => rfl
theorem jn_cut (c : UInt8) : ∀ s : List UInt8, jn c (cutL c s) = s
  | [] => rfl
  | b :: r => by
    by_cases hb : b = c
    · subst hb
      rw [cutL_hit, jn_cons (cutL_ne _ _), jn_cut b r]; rfl
    · rw [cutL_miss hb, jn_att (cutL_ne _ _), jn_cut c r]
theorem cutL_nomem {c : UInt8} : ∀ {s p : List UInt8}, p ∈ cutL c s → c ∉ p
  | [], p, h => by simp [cutL] at h; subst h; simp
  | b :: r, p, h => by
    by_cases hb : b = c
    · subst hb
      rw [cutL_hit] at h
      rcases List.mem_cons.1 h with rfl | h
      · simp
      · exact cutL_nomem h
    · rw [cutL_miss hb] at h
      cases hc : cutL c r with
      | nil => exact absurd hc (cutL_ne _ _)
      | cons x t =>
        rw [hc] at h
        rcases List.mem_cons.1 h with rfl | h
        · have := cutL_nomem (c := c) (s := r) (p := x) (by rw [hc]; simp)
          simp [Ne.symm hb, this]
        · exact cutL_nomem (c := c) (s := r) (p := p) (by rw [hc]; exact List.mem_cons_of_mem _ h)
def psL (s : ByteArray) : List (List UInt8) := cutL 10 s.data.toList
def bA (l : List UInt8) : ByteArray := ⟨l.toArray⟩
theorem bA_data (l : List UInt8) : (bA l).data.toList = l := rfl
theorem bA_size (l : List UInt8) : (bA l).size = l.length := by rw [← ba_len, bA_data]
theorem bA_of (s : ByteArray) : bA s.data.toList = s := ba_ext rfl
def restB (s : ByteArray) (k : Nat) : ByteArray := bA (jn 10 ((psL s).drop k))
def pcL (s : ByteArray) (k : Nat) : List UInt8 := (psL s).getD k []
def lnB (s : ByteArray) (k : Nat) : ByteArray := if k + 1 < (psL s).length then bA (pcL s k ++ [10]) else bA (pcL s k)
def nln (s : ByteArray) : Nat := if pcL s ((psL s).length - 1) = [] then (psL s).length - 1 else (psL s).length
theorem psL_pos (s : ByteArray) : 0 < (psL s).length := List.length_pos_iff.2 (cutL_ne _ _)
theorem rest0 (s : ByteArray) : restB s 0 = s := by
  unfold restB psL
  rw [List.drop_zero, jn_cut, bA_of]
theorem psL_drop {s : ByteArray} {k : Nat} (h : k < (psL s).length) : (psL s).drop k = pcL s k :: (psL s).drop (k + 1) := by
  rw [List.drop_eq_getElem_cons h]
  unfold pcL
  rw [List.getD_eq_getElem?_getD, List.getElem?_eq_getElem h]; rfl
theorem pcL_no (s : ByteArray) (k : Nat) : (10 : UInt8) ∉ pcL s k := by
  unfold pcL
  rw [List.getD_eq_getElem?_getD]
  cases h : (psL s)[k]? with
  | none => simp
  | some p => exact cutL_nomem (List.mem_of_getElem? h)
theorem rest_in {s : ByteArray} {k : Nat} (h : k + 1 < (psL s).length) : restB s k = bA (pcL s k ++ 10 :: (restB s (k + 1)).data.toList) := by
  unfold restB
  rw [psL_drop (by omega), jn_cons (by simp; omega)]
  rfl
theorem rest_last {s : ByteArray} {k : Nat} (h : k + 1 = (psL s).length) : restB s k = bA (pcL s k) ∧ restB s (k + 1) = bA [] := by
  unfold restB
  rw [psL_drop (by omega), h, List.drop_length]
  exact ⟨rfl, rfl⟩
theorem idx_app {c : UInt8} : ∀ {p : List UInt8} (r : List UInt8), c ∉ p → Lib.indexByte (p ++ c :: r) c = p.length
  | [], r, _ => by simp [Lib.indexByte]
  | b :: p, r, h => by
    simp only [List.mem_cons, not_or] at h
    have ih := idx_app (p := p) r h.2
    rw [List.cons_append, Lib.indexByte, if_neg (by simpa using Ne.symm h.1), ih, if_neg (by simp)]
    simp
theorem idx_none {c : UInt8} {p : List UInt8} (h : c ∉ p) : Lib.indexByte p c = -1 := by
  have h1 : ¬ 0 ≤ Lib.indexByte p c := fun hx => h (indexByte_mem.1 hx)
  have := Lib.indexByte_ge p c
  omega
theorem rest_hit {s : ByteArray} {k : Nat} (h : k + 1 < (psL s).length) : Lib.indexByte (restB s k).data.toList 10 = ((pcL s k).length : Nat) ∧ (pcL s k).length + 1 ≤ (restB s k).size ∧ (restB s k).extract 0 ((pcL s k).length + 1) = lnB s k ∧ (restB s k).extract ((pcL s k).length + 1) (restB s k).size = restB s (k + 1) := by
  have e := rest_in h
  have hd : (restB s k).data.toList = pcL s k ++ 10 :: (restB s (k + 1)).data.toList := by rw [e]; rfl
  have hz : (restB s k).size = (pcL s k).length + 1 + (restB s (k + 1)).size := by
    rw [← ba_len, hd, ← ba_len]
    simp; omega
  refine ⟨by rw [hd]; exact idx_app _ (pcL_no s k), by omega, ba_ext ?_, ba_ext ?_⟩
  · unfold lnB
    rw [if_pos h, Lib.extract_from_zero, hd, bA_data, show pcL s k ++ 10 :: (restB s (k + 1)).data.toList = (pcL s k ++ [10]) ++ (restB s (k + 1)).data.toList by simp, List.take_append_of_le_length (by simp)]
    rw [List.take_of_length_le (by simp)]
  · rw [Lib.extract_to_end, hd, show pcL s k ++ 10 :: (restB s (k + 1)).data.toList = (pcL s k ++ [10]) ++ (restB s (k + 1)).data.toList by simp, List.drop_append_of_le_length (by simp), List.drop_of_length_le (by simp)]
    rfl
theorem rest_miss {s : ByteArray} {k : Nat} (h : k + 1 = (psL s).length) : Lib.indexByte (restB s k).data.toList 10 = -1 ∧ restB s k = lnB s k ∧ restB s (k + 1) = bA [] := by
  obtain ⟨e1, e2⟩ := rest_last h
  refine ⟨by rw [e1, bA_data]; exact idx_none (pcL_no s k), ?_, e2⟩
  unfold lnB
  rw [if_neg (by omega), e1]
theorem nln_le (s : ByteArray) : nln s ≤ (psL s).length := by
  unfold nln; split <;> omega
theorem rest_pos {s : ByteArray} {k : Nat} (h : k < nln s) : (restB s k).size ≠ 0 := by
  have hp := psL_pos s
  have hle := nln_le s
  by_cases h1 : k + 1 < (psL s).length
  · have := (rest_hit h1).2.1
    omega
  · have hk : k + 1 = (psL s).length := by omega
    rw [(rest_last hk).1, bA_size]
    intro h0
    unfold nln at h
    have hk2 : k = (psL s).length - 1 := by omega
    rw [← hk2, if_pos (List.eq_nil_of_length_eq_zero h0)] at h
    omega
theorem rest_end (s : ByteArray) : (restB s (nln s)).size = 0 := by
  have hp := psL_pos s
  unfold nln
  split
  · rename_i h
    rw [(rest_last (k := (psL s).length - 1) (by omega)).1, bA_size, h]; rfl
  · have e : (psL s).length = (psL s).length - 1 + 1 := by omega
    rw [e, (rest_last (k := (psL s).length - 1) (by omega)).2]; rfl
/-! the ends of the lines -/
theorem suf_hit {s : ByteArray} {k : Nat} (h : k + 1 < (psL s).length) : Lib.hasSuffix (lnB s k).data.toList [10] = true ∧ Lib.trimSuffix (lnB s k).data.toList [10] = pcL s k := by
  have e : (lnB s k).data.toList = pcL s k ++ [10] := by unfold lnB; rw [if_pos h]; rfl
  have h1 : Lib.hasSuffix (lnB s k).data.toList [10] = true := by
    unfold Lib.hasSuffix
    rw [e]
    exact List.isSuffixOf_iff_suffix.2 ⟨_, rfl⟩
  refine ⟨h1, ?_⟩
  unfold Lib.trimSuffix
  rw [if_pos h1, e]
  simp
theorem suf_miss {s : ByteArray} {k : Nat} (h : ¬ k + 1 < (psL s).length) : Lib.hasSuffix (lnB s k).data.toList [10] = false ∧ Lib.trimSuffix (lnB s k).data.toList [10] = pcL s k := by
  have e : (lnB s k).data.toList = pcL s k := by unfold lnB; rw [if_neg h]; rfl
  have h1 : Lib.hasSuffix (lnB s k).data.toList [10] = false := by
    unfold Lib.hasSuffix
    rw [e]
    cases hs : List.isSuffixOf [10] (pcL s k) with
    | false => rfl
    | true =>
      obtain ⟨t, ht⟩ := List.isSuffixOf_iff_suffix.1 hs
      exact absurd (by rw [← ht]; simp) (pcL_no s k)
  refine ⟨h1, ?_⟩
  unfold Lib.trimSuffix
  rw [h1, e]; rfl
end Go.Abs
namespace Go.Abs
theorem jn_drop (c : UInt8) : ∀ (l : List (List UInt8)) (k : Nat), (jn c (l.drop k)).length ≤ (jn c l).length
  | l, 0 => Nat.le_refl _
  | [], k + 1 => Nat.le_refl _
  | [p], k + 1 => by simp [jn]
  | p :: q :: r, k + 1 => by
    have := jn_drop c (q :: r) k
    rw [List.drop_succ_cons]
    rw [jn_cons (p := p) (by simp)]
    simp; omega
end Go.Abs
