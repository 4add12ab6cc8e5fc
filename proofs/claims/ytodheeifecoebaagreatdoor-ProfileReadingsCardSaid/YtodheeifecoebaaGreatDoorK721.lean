import Derived.Test.YtodheeifecoebaaGreatDoorK720
import Derived.Test.YtodheeifecoebaaGreatDoorK703x
import Derived.Lib.SplitLaws
set_option linter.all false
set_option linter.unusedVariables false
set_option linter.unusedSimpArgs false
set_option linter.unusedSectionVars false
/- plain: a text cut at a byte -/
namespace Go.Abs
def cutL (c : UInt8) : List UInt8 → List (List UInt8)
  | [] => [[]]
  | b :: r => if b = c then [] :: cutL c r else match cutL c r with
    | [] => [[b]]
    | h :: t => (b :: h) :: t
def att (x : List UInt8) : List (List UInt8) → List (List UInt8)
  | [] => [x]
  | h :: t => (x ++ h) :: t
theorem cutL_ne (c : UInt8) (l : List UInt8) : cutL c l ≠ [] := by
  cases l with
  | nil => simp [cutL]
  | cons b r =>
    unfold cutL
    split
    · simp
    · split <;> simp
theorem cutL_hit (c : UInt8) (r : List UInt8) : cutL c (c :: r) = [] :: cutL c r := by rw [cutL, if_pos rfl]
theorem cutL_miss {b c : UInt8} (h : b ≠ c) (r : List UInt8) : cutL c (b :: r) = att [b] (cutL c r) := by
  rw [cutL, if_neg h]
  cases cutL c r <;> rfl
theorem att_nil {l : List (List UInt8)} (h : l ≠ []) : att [] l = l := by
  cases l with
  | nil => exact absurd rfl h
  | cons a t => rfl
theorem att_att {x y : List UInt8} {l : List (List UInt8)} (h : l ≠ []) : att x (att y l) = att (x ++ y) l := by
  cases l with
  | nil => exact absurd rfl h
  | cons a t => simp [att]
theorem splitK_cut (c : UInt8) : ∀ s : List UInt8, Lib.splitK [c] 0 (Lib.count s [c]) s = cutL c s
  | [] => by rw [Lib.count_miss (by simp [Lib.index])]; rfl
  | b :: r => by
    have ih := splitK_cut c r
    by_cases hb : b = c
    · subst hb
      have hix : Lib.index (b :: r) [b] = 0 := by rw [Lib.index]; simp [List.isPrefixOf]
      rw [Lib.count_cons_eq, show 1 + Lib.count r [b] = Lib.count r [b] + 1 by omega, Lib.splitK, hix, cutL_hit, ← ih]
      simp
    · have hix : Lib.index (b :: r) [c] = if Lib.index r [c] == -1 then -1 else Lib.index r [c] + 1 := by
        rw [Lib.index]
        simp [List.isPrefixOf, Ne.symm hb]
      rw [Lib.count_cons_ne b c r hb, cutL_miss hb]
      cases hk : Lib.count r [c] with
      | zero => rw [hk] at ih; rw [← ih]; rfl
      | succ k =>
        rw [hk] at ih
        have hn : ¬ Lib.index r [c] = -1 := fun h => by rw [Lib.count_miss h] at hk; omega
        have hge := Lib.index_ge r [c]
        rw [Lib.splitK, if_neg (by simpa using hn)] at ih
        have hi2 : Lib.index (b :: r) [c] = Lib.index r [c] + 1 := by rw [hix, if_neg (by simpa using hn)]
        rw [Lib.splitK, hi2, if_neg (by simp; omega), ← ih]
        rw [show (Lib.index r [c] + 1).toNat = (Lib.index r [c]).toNat + 1 by omega]
        simp [att]
theorem countB_data (s sep : ByteArray) : Lib.countB s sep = Lib.count s.data.toList sep.data.toList := rfl
theorem pieces_cut (s : ByteArray) (c : UInt8) : (pieces s ⟨#[c]⟩).map (·.data.toList) = cutL c s.data.toList := by
  unfold pieces
  rw [Lib.splitB_data, countB_data]
  exact splitK_cut c _
theorem map_data_inj {l m : List ByteArray} (h : l.map (·.data.toList) = m.map (·.data.toList)) : l = m := by
  induction l generalizing m with
  | nil => cases m <;> simp at h ⊢
  | cons a r ih =>
    cases m with
    | nil => simp at h
    | cons b t =>
      simp only [List.map_cons, List.cons.injEq] at h
      rw [ba_ext h.1, ih h.2]
/-- no piece has the byte; what is in a piece is in the text -/
theorem cutL_mem {c x : UInt8} : ∀ {s : List UInt8}, x ≠ c → (x ∈ s ↔ ∃ p ∈ cutL c s, x ∈ p)
  | [], _ => by simp [cutL]
  | b :: r, hx => by
    have ih := cutL_mem (s := r) hx
    by_cases hb : b = c
    · subst hb
      rw [cutL_hit]
      simp [hx, ih]
    · rw [cutL_miss hb]
      cases h : cutL c r with
      | nil => exact absurd h (cutL_ne _ _)
      | cons p t =>
        rw [h] at ih
        simp [att, ih, or_assoc]
theorem cutL_no {c : UInt8} : ∀ {s : List UInt8}, c ∉ s → cutL c s = [s]
  | [], _ => rfl
  | b :: r, h => by
    simp only [List.mem_cons, not_or] at h
    rw [cutL_miss (Ne.symm h.1), cutL_no h.2]; rfl
theorem cutL_two {c : UInt8} : ∀ {s : List UInt8}, c ∈ s → 2 ≤ (cutL c s).length
  | b :: r, h => by
    by_cases hb : b = c
    · subst hb
      rw [cutL_hit]
      have := List.length_pos_iff.2 (cutL_ne b r)
      simp; omega
    · have hr : c ∈ r := by simpa [Ne.symm hb] using h
      rw [cutL_miss hb]
      have := cutL_two hr
      cases h : cutL c r with
      | nil => exact absurd h (cutL_ne _ _)
      | cons p t => rw [h] at this; simpa [att] using this
theorem cutL_app {c : UInt8} {x : List UInt8} (y : List UInt8) (h : c ∉ x) : cutL c (x ++ c :: y) = x :: cutL c y := by
  induction x with
  | nil => exact cutL_hit c y
  | cons b r ih =>
    simp only [List.mem_cons, not_or] at h
    rw [List.cons_append, cutL_miss (Ne.symm h.1), ih h.2]
    rfl
theorem indexByte_mem {c : UInt8} : ∀ {l : List UInt8}, 0 ≤ Lib.indexByte l c ↔ c ∈ l
  | [] => by simp [Lib.indexByte]
  | b :: l => by
    have ih := indexByte_mem (c := c) (l := l)
    have := Lib.indexByte_ge l c
    unfold Lib.indexByte
    by_cases hb : b = c
    · subst hb; simp
    · rw [if_neg (by simpa using hb)]
      simp only [List.mem_cons, Ne.symm hb, false_or, ← ih]
      split
      · rename_i h; have := beq_iff_eq.1 h; omega
      · rename_i h; have : Lib.indexByte l c ≠ -1 := fun e => h (by rw [e]; rfl)
        omega
end Go.Abs
/- plain: both readings of a text are one; what is written is read back -/
namespace Go.Abs
open Go.Proofs
theorem rdI_10 {w : ByteArray} (h : (10 : UInt8) ∈ w.data.toList) : rdI w = none := by
  cases hr : rdI w with
  | none => rfl
  | some v =>
    obtain ⟨_, _, hd, _, _⟩ := rdI_is hr
    exfalso
    have : (10 : UInt8) ∈ dgs w := by
      unfold dgs
      split
      · rename_i hs
        unfold sgn at hs
        cases hl : w.data.toList with
        | nil => rw [hl] at h; simp at h
        | cons c r =>
          rw [hl] at hs h
          simp only [List.head?_cons, Option.some.injEq, decide_eq_true_eq] at hs
          subst hs
          simpa using h
      · exact h
    have := hd _ this
    unfold isD at this
    have e : (10 : UInt8).toNat = 10 := rfl
    omega
def refR (s : ByteArray) : Option (ByteArray × Rd) := match pieces s ⟨#[32]⟩ with
  | [w0, w1, w2, w3, w4] => if (10 : UInt8) ∈ w0.data.toList then none else prsW w0 w1 w2 w3 w4
  | _ => none
theorem mem_pieces {s : ByteArray} {x : UInt8} (hx : x ≠ 32) : x ∈ s.data.toList ↔ ∃ p ∈ pieces s ⟨#[32]⟩, x ∈ p.data.toList := by
  rw [cutL_mem hx, ← pieces_cut]
  constructor
  · rintro ⟨p, hp, hx⟩
    obtain ⟨q, hq, rfl⟩ := List.mem_map.1 hp
    exact ⟨q, hq, hx⟩
  · rintro ⟨q, hq, hx⟩
    exact ⟨_, List.mem_map.2 ⟨q, hq, rfl⟩, hx⟩
theorem prsR_ref (s : ByteArray) : prsR s = refR s := by
  unfold prsR refR
  have hix := indexByte_mem (c := 10) (l := s.data.toList)
  by_cases h5 : (pieces s ⟨#[32]⟩).length = 5
  · have hm := mem_pieces (s := s) (x := 10) (by decide)
    obtain ⟨w0, w1, w2, w3, w4, hp⟩ := five h5
    rw [hp] at hm ⊢
    by_cases h10 : (10 : UInt8) ∈ s.data.toList
    · rw [if_pos (hix.2 h10)]
      obtain ⟨p, hp, hx⟩ := hm.1 h10
      simp only [List.mem_cons, List.not_mem_nil, or_false] at hp
      dsimp only
      split
      · rfl
      · rename_i h0
        rcases hp with rfl | rfl | rfl | rfl | rfl
        · exact absurd hx h0
        · exact (prsW_no (k := 0) rfl (rdI_10 hx)).symm
        · exact (prsW_no (k := 1) rfl (rdI_10 hx)).symm
        · exact (prsW_no (k := 2) rfl (rdI_10 hx)).symm
        · exact (prsW_no (k := 3) rfl (rdI_10 hx)).symm
    · rw [if_neg (fun h => h10 (hix.1 h))]
      have h0 : (10 : UInt8) ∉ w0.data.toList := fun h => h10 (hm.2 ⟨w0, by simp, h⟩)
      dsimp only [prsL]
      rw [if_neg h0]
  · rw [prsL_len h5, ite_self]
    split
    · rename_i hp; rw [hp] at h5; simp at h5
    · rfl
/-! what is written is read back -/
theorem dec_len : ∀ (k u : Nat), u < 10 ^ (k + 1) → (Lib.decDigits u).length ≤ k + 1
  | 0, u, h => by rw [Lib.decDigits_one (by simpa using h)]; simp
  | k + 1, u, h => by
    by_cases h1 : u < 10
    · rw [Lib.decDigits_one h1]; simp
    · rw [decDigits_more h1]
      have := dec_len k (u / 10) (by rw [Nat.pow_succ] at h; omega)
      simp; omega
theorem rdI_itoa {v : Int} (h1 : -10000000000 < v) (h2 : v < 10000000000) : rdI (itoaB v) = some v := by
  have hv : okI v := by unfold okI; omega
  have e : Lib.itoa v = (itoaB v).data.toList := rfl
  obtain ⟨h3, _⟩ := dgs_itoa e
  unfold rdI
  rw [← e, atoi_itoa hv]
  dsimp only
  rw [if_pos (by simp), if_pos]
  rw [tr_size, h3]
  exact dec_len 9 _ (by rw [show (10 : Nat) ^ (9 + 1) = 10000000000 by decide]; omega)
theorem itoa_no {v : Int} {c : UInt8} (hc : ¬ isD c) (h : c ≠ 45) : c ∉ (itoaB v).data.toList := by
  intro hm
  have hm' : c ∈ Lib.itoa v := hm
  unfold Lib.itoa at hm'
  split at hm'
  · rcases List.mem_cons.1 hm' with h1 | h1
    · exact h h1
    · exact hc (dec_dig _ _ h1)
  · exact hc (dec_dig _ _ hm')
theorem nm_no {m : ByteArray} {c : UInt8} (hm : nmB m = true) (hc : okCh c.toNat = false) : c ∉ m.data.toList := by
  intro h
  have h2 : ((c.toNat : Nat) : Int) ∈ nums m := List.mem_map.2 ⟨c, h, rfl⟩
  unfold nmB at hm
  cases hn : nums m with
  | nil => rw [hn] at h2; simp at h2
  | cons x r =>
    rw [hn] at hm h2
    unfold nmL at hm
    simp only [Bool.and_eq_true, List.all_eq_true] at hm
    rw [hm.2 _ h2] at hc
    simp at hc
theorem fmt_back {m : ByteArray} {r : Rd} (hm : nmB m = true) (ha : -10000000000 < r.a ∧ r.a < 10000000000) (hb : -10000000000 < r.b ∧ r.b < 10000000000) (hl : -10000000000 < r.lo ∧ r.lo < 10000000000) (hh : -10000000000 < r.hi ∧ r.hi < 10000000000) :
    prsR (fmtR m r) = some (m, r) := by
  have hd : (fmtR m r).data.toList = m.data.toList ++ 32 :: ((itoaB r.a).data.toList ++ 32 :: ((itoaB r.b).data.toList ++ 32 :: ((itoaB r.lo).data.toList ++ 32 :: (itoaB r.hi).data.toList))) := by
    show Lib.join ((words m r).map (·.data.toList)) [32] = _
    simp only [words, List.map_cons, List.map_nil]
    rw [Lib.join_cons]
    simp [Lib.joinTail]
  have n32 : ∀ v, (32 : UInt8) ∉ (itoaB v).data.toList := fun v => itoa_no (by unfold isD; decide) (by decide)
  have n10 : ∀ v, (10 : UInt8) ∉ (itoaB v).data.toList := fun v => itoa_no (by unfold isD; decide) (by decide)
  have m32 : (32 : UInt8) ∉ m.data.toList := nm_no hm (by decide)
  have m10 : (10 : UInt8) ∉ m.data.toList := nm_no hm (by decide)
  have hp : pieces (fmtR m r) ⟨#[32]⟩ = [m, itoaB r.a, itoaB r.b, itoaB r.lo, itoaB r.hi] := by
    refine map_data_inj ?_
    rw [pieces_cut, hd, cutL_app _ m32, cutL_app _ (n32 _), cutL_app _ (n32 _), cutL_app _ (n32 _), cutL_no (n32 _)]
    rfl
  rw [prsR_ref]
  unfold refR
  rw [hp]
  dsimp only
  rw [if_neg m10]
  unfold prsW
  rw [rdI_itoa ha.1 ha.2, rdI_itoa hb.1 hb.2, rdI_itoa hl.1 hl.2, rdI_itoa hh.1 hh.2]
end Go.Abs
