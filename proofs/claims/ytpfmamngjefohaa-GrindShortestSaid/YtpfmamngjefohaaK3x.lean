import Derived.Test.YtpfmamngjefohaaK2x
import Derived.Test.YtpfmamngjefohaaK9
set_option linter.all false
set_option linter.unusedVariables false
set_option linter.unusedSimpArgs false
set_option linter.unusedSectionVars false
namespace Go.Abs
open Go.Proofs
/-! grits -/
structure Gr where
  nm : ByteArray
  dm : Int
  rt : Int
def gr0 : Gr := ⟨⟨#[]⟩, 0, 0⟩
def gR (l : List Gr) : List (List AV) := l.map fun g => [tx g.nm, i64 g.dm, i64 g.rt]
abbrev gts (nil : Bool) (l : List Gr) : AV := .sl nil 3 (gR l)
theorem gR_len (l : List Gr) : (gR l).length = l.length := by simp [gR]
theorem gR_get {l : List Gr} {k : Nat} (h : k < l.length) : (gR l).getD k [] = [tx (l.getD k gr0).nm, i64 (l.getD k gr0).dm, i64 (l.getD k gr0).rt] := by
  simp [gR, List.getD_eq_getElem?_getD, h]
/-- the first number of which something is true, or -1 -/
def fstP (p : Nat → Bool) (n : Nat) : Int := match (List.range n).find? p with
  | some k => k
  | none => -1
theorem fstP_no {p : Nat → Bool} {n : Nat} (h : ∀ j, j < n → p j = false) : fstP p n = -1 := by
  unfold fstP
  rw [List.find?_eq_none.2 fun j hj => by rw [h j (List.mem_range.1 hj)]; simp]
theorem fstP_at {p : Nat → Bool} {n k : Nat} (hk : k < n) (hp : p k = true) (h : ∀ j, j < k → p j = false) : fstP p n = k := by
  unfold fstP
  have : (List.range n).find? p = some k := by
    rw [List.find?_range_eq_some]
    exact ⟨hp, by simpa using hk, fun j hj => by simpa using h j hj⟩
  rw [this]
theorem fstP_cases (p : Nat → Bool) (n : Nat) : (fstP p n = -1 ∧ ∀ j, j < n → p j = false) ∨ ∃ k, k < n ∧ fstP p n = k ∧ p k = true ∧ ∀ j, j < k → p j = false := by
  by_cases h : ∀ j, j < n → p j = false
  · exact .inl ⟨fstP_no h, h⟩
  · have : ∃ k, k < n ∧ p k = true ∧ ∀ j, j < k → p j = false := by
      have hex : ∃ j, j < n ∧ p j = true := by
        rcases Classical.not_forall.1 h with ⟨j, hj⟩
        rcases Classical.not_imp.1 hj with ⟨h1, h2⟩
        exact ⟨j, h1, by simpa using h2⟩
      obtain ⟨j, hj, hpj⟩ := hex
      induction j using Nat.strongRecOn with
      | _ j ih =>
        by_cases hm : ∃ i, i < j ∧ p i = true
        · obtain ⟨i, hi, hpi⟩ := hm
          exact ih i hi (by omega) hpi
        · exact ⟨j, hj, hpj, fun i hi => by
            cases hpi : p i with
            | false => rfl
            | true => exact (hm ⟨i, hi, hpi⟩).elim⟩
    obtain ⟨k, h1, h2, h3⟩ := this
    exact .inr ⟨k, h1, fstP_at h1 h2 h3, h2, h3⟩
def eqT (a b : ByteArray) : Bool := a.data.toList == b.data.toList
theorem eqT_bin (a b : ByteArray) : (a.toList == b.toList) = eqT a b := by unfold eqT; rw [ByteArray.toList_eq, ByteArray.toList_eq]
def gAt (l : List Gr) (b : ByteArray) : Int := fstP (fun j => eqT (l.getD j gr0).nm b) l.length
set_option maxHeartbeats 8000000 in
theorem k85 (nil : Bool) (l : List Gr) (b : ByteArray) (hl : l.length < 1000000) : Fn Try.prog 85 [gts nil l, tx b] (i64 (gAt l b)) [] := by
  refine fn_of e85 ?_
  have hll := gR_len l
  have hR : (∀ j, j < l.length → eqT (l.getD j gr0).nm b = false) → gAt l b = -1 := fun h => fstP_no h
  have hA : ∀ k, k < l.length → eqT (l.getD k gr0).nm b = true → (∀ j, j < k → eqT (l.getD j gr0).nm b = false) → gAt l b = k := fun k h1 h2 h3 => fstP_at h1 h2 h3
  replace hR := PLift.up hR
  replace hA := PLift.up hA
  generalize gAt l b = R at *
  unfold c85
  repeat' (first
    | with_reducible first
      | refine T_seq ?_
      | refine T_reg ?_
      | refine T_skip ?_
      | refine T_exit ?_
      | refine T_block ?_
      | refine T_cond_t rfl ?_
      | refine T_cond_f rfl ?_
      | ((first | refine T_cond rfl (fun hc => ?_) (fun hc => ?_) | refine wguard_split (fun hc => ?_) (fun hc => ?_)) <;> have hd := hc <;> (try simp (disch := omega) only [wrapI] at hd) <;> have hs := hd <;> (try simp only [Bool.not_eq_true', Bool.not_eq_false', Bool.and_eq_true, Bool.and_eq_false_iff, Bool.or_eq_true, Bool.or_eq_false_iff, decide_eq_true_eq, decide_eq_false_iff_not, beq_iff_eq, bne_iff_ne, beq_eq_false_iff_ne, bne_eq_false_iff_eq, Bool.not_true, Bool.not_false, gt_iff_lt, ge_iff_le, Int.not_lt, Int.not_le, ne_eq, Decidable.not_not] at hd) <;> (try simp at hs))
      | refine T_ret ?_
      | refine leave_of (.inr rfl) _ rfl ?_
      | refine leave_of (.inl rfl) _ rfl ?_
      | refine leaveA_of (.inr rfl) _ rfl ?_
      | refine leaveA_of (.inl rfl) _ rfl ?_
      | refine wif_intro ?_ (fun hc => ?_)
      | refine And.intro ?_ ?_
      | intro hc
    | simp (maxSteps := 4000000) only [wops_nil, wops_cons, wstep_none, wrun_mv, wop, aop, ev, put_some, writes, ores_some, thenK, List.map_cons, List.map_nil, List.length_nil, List.append_nil, List.replicate_zero, List.zipIdx_cons, List.zipIdx_nil, Nat.reduceAdd, Nat.zero_add, Int.reduceNeg, *]
    | simp (disch := omega) only [getD_ints, wrapI]
    | omega)
  refine T_for [0, 1, 5] (fun k => ⟨[(0, gts nil l), (1, tx b), (5, i64 k)], []⟩) l.length (fun k => ∀ j, j < k → eqT (l.getD j gr0).nm b = false) 0 rfl (fun j hj => by omega) (Nat.zero_le _) ?_
  intro k hk hI
  by_cases hkn : k < l.length
  · have g1 := gR_get hkn
    have hq := eqT_bin (l.getD k gr0).nm b
    cases he : eqT (l.getD k gr0).nm b with
    | true =>
      rw [hA.down k hkn he hI]
      rw [he] at hq
      clear hI hR hA he
      unfold c85l0
      repeat' (first
        | with_reducible first
          | refine T_seq ?_
          | refine T_reg ?_
          | refine T_skip ?_
          | refine T_exit ?_
          | refine T_block ?_
          | refine T_cond_t rfl ?_
          | refine T_cond_f rfl ?_
          | ((first | refine T_cond rfl (fun hc => ?_) (fun hc => ?_) | refine wguard_split (fun hc => ?_) (fun hc => ?_)) <;> have hd := hc <;> (try simp (disch := omega) only [wrapI] at hd) <;> have hs := hd <;> (try simp only [decide_eq_true_eq, decide_eq_false_iff_not, Int.not_lt] at hd) <;> (try simp at hs))
          | refine T_ret ?_
          | refine leave_of (.inr rfl) _ rfl ?_
          | refine leave_of (.inl rfl) _ rfl ?_
          | refine leaveA_of (.inr rfl) _ rfl ?_
          | refine leaveA_of (.inl rfl) _ rfl ?_
          | refine wif_intro ?_ (fun hc => ?_)
          | refine And.intro ?_ ?_
          | intro hc
        | simp (maxSteps := 4000000) only [wops_nil, wops_cons, wstep_none, wrun_mv, wrun_bin, wrun_load, wrun_faddr, wrun_iaddrS, wrun_len, get_mk, wop, aop, ev, look, put_some, writes, ores_some, ores_ite_none, ores_map, ores_bind, binV, thenK, blockK, intV, lenOf, value, cut, hget, mkAgg, tupOf, List.length_cons, List.length_nil, List.take_succ_cons, List.take_zero, List.drop_zero, List.append_nil, List.replicate_zero, Option.pure_def, Option.bind_eq_bind, Option.map_some, if_true, if_false, Nat.reduceEqDiff, Nat.add_zero, Nat.zero_add, Nat.zero_ne_one, reduceCtorEq, Bool.false_eq_true, eq_self, true_and, and_true, and_self, decide_true, Int.reduceNeg, ren, Int.toNat_natCast, *]
        | simp (disch := omega) only [getD_ints, wrapI]
        | omega)
      all_goals first | rfl
    | false =>
      rw [he] at hq
      have hI2 : ∀ j, j < k + 1 → eqT (l.getD j gr0).nm b = false := fun j hj => by
        rcases Nat.lt_succ_iff_lt_or_eq.1 hj with h | rfl
        · exact hI j h
        · exact he
      replace hI2 := PLift.up hI2
      clear hI hR hA he
      unfold c85l0
      repeat' (first
        | with_reducible first
          | refine T_seq ?_
          | refine T_reg ?_
          | refine T_skip ?_
          | refine T_exit ?_
          | refine T_block ?_
          | refine T_cond_t rfl ?_
          | refine T_cond_f rfl ?_
          | ((first | refine T_cond rfl (fun hc => ?_) (fun hc => ?_) | refine wguard_split (fun hc => ?_) (fun hc => ?_)) <;> have hd := hc <;> (try simp (disch := omega) only [wrapI] at hd) <;> have hs := hd <;> (try simp only [decide_eq_true_eq, decide_eq_false_iff_not, Int.not_lt] at hd) <;> (try simp at hs))
          | refine T_ret ?_
          | refine leave_of (.inr rfl) _ rfl ?_
          | refine leave_of (.inl rfl) _ rfl ?_
          | refine leaveA_of (.inr rfl) _ rfl ?_
          | refine leaveA_of (.inl rfl) _ rfl ?_
          | refine wif_intro ?_ (fun hc => ?_)
          | refine And.intro ?_ ?_
          | intro hc
        | simp (maxSteps := 4000000) only [wops_nil, wops_cons, wstep_none, wrun_mv, wrun_bin, wrun_load, wrun_faddr, wrun_iaddrS, wrun_len, get_mk, wop, aop, ev, look, put_some, writes, ores_some, ores_ite_none, ores_map, ores_bind, binV, thenK, blockK, intV, lenOf, value, cut, hget, mkAgg, tupOf, List.length_cons, List.length_nil, List.take_succ_cons, List.take_zero, List.drop_zero, List.append_nil, List.replicate_zero, Option.pure_def, Option.bind_eq_bind, Option.map_some, if_true, if_false, Nat.reduceEqDiff, Nat.add_zero, Nat.zero_add, Nat.zero_ne_one, reduceCtorEq, Bool.false_eq_true, eq_self, true_and, and_true, and_self, decide_true, Int.reduceNeg, ren, Int.toNat_natCast, *]
        | simp (disch := omega) only [wrapI]
        | omega)
      all_goals first | exact hI2.down _ (by assumption) | (simp [St.only, get_mk, look]; done)
  · have hke : k = l.length := by omega
    subst hke
    rw [hR.down hI]
    clear hI hR hA
    unfold c85l0
    repeat' (first
      | with_reducible first
        | refine T_seq ?_
        | refine T_reg ?_
        | refine T_skip ?_
        | refine T_exit ?_
        | refine T_block ?_
        | refine T_cond_t rfl ?_
        | refine T_cond_f rfl ?_
        | ((first | refine T_cond rfl (fun hc => ?_) (fun hc => ?_) | refine wguard_split (fun hc => ?_) (fun hc => ?_)) <;> have hd := hc <;> (try simp (disch := omega) only [wrapI] at hd) <;> have hs := hd <;> (try simp only [decide_eq_true_eq, decide_eq_false_iff_not, Int.not_lt] at hd) <;> (try simp at hs))
        | refine T_ret ?_
        | refine leave_of (.inr rfl) _ rfl ?_
        | refine leave_of (.inl rfl) _ rfl ?_
        | refine leaveA_of (.inr rfl) _ rfl ?_
        | refine leaveA_of (.inl rfl) _ rfl ?_
        | refine wif_intro ?_ (fun hc => ?_)
        | refine And.intro ?_ ?_
        | intro hc
      | simp (maxSteps := 4000000) only [wops_nil, wops_cons, wstep_none, wrun_mv, wrun_bin, wrun_len, get_mk, wop, aop, ev, look, put_some, writes, ores_some, ores_map, ores_bind, binV, thenK, blockK, intV, lenOf, hget, tupOf, List.length_nil, List.append_nil, List.replicate_zero, Option.pure_def, Option.bind_eq_bind, Option.map_some, if_true, if_false, Nat.reduceEqDiff, reduceCtorEq, eq_self, false_and, Int.reduceNeg, ren, *]
      | simp (disch := omega) only [getD_ints, wrapI]
      | omega)
    all_goals first | rfl
/-- the error at a grit -/
def gDup (l : List Gr) (k : Nat) : Bool := decide (∃ j, j < k ∧ eqT (l.getD j gr0).nm (l.getD k gr0).nm = true)
def gRng (g : Gr) : Bool := (decide (0 ≤ g.dm) && decide (g.dm ≤ 1000000)) && (decide (1 ≤ g.rt) && decide (g.rt ≤ 100000))
def gErr (l : List Gr) (k : Nat) : Int := if nmB (l.getD k gr0).nm = false then 4 else if gDup l k = true then 5 else if gRng (l.getD k gr0) = false then 2 else 0
def gErs (l : List Gr) : Nat → Int
  | 0 => 0
  | k + 1 => if gErs l k ≠ 0 then gErs l k else gErr l k
def gE (l : List Gr) : Int := if l.length > 12 then 8 else gErs l l.length
theorem gErs_stop {l : List Gr} {k : Nat} (h0 : gErs l k = 0) (h : gErr l k ≠ 0) : ∀ n, k < n → gErs l n = gErr l k := by
  intro n
  induction n with
  | zero => intro hn; omega
  | succ n ih =>
    intro hn
    rcases Nat.lt_succ_iff_lt_or_eq.1 hn with h1 | rfl
    · have := ih h1
      simp only [gErs]
      rw [if_pos (by rw [this]; exact h), this]
    · simp only [gErs]
      rw [if_neg (by rw [h0]; simp)]
theorem gErs_next {l : List Gr} {k : Nat} (h0 : gErs l k = 0) (h : gErr l k = 0) : gErs l (k + 1) = 0 := by
  simp only [gErs]; rw [if_neg (by rw [h0]; simp), h]
theorem eqT_refl (b : ByteArray) : eqT b b = true := by simp [eqT]
theorem gAt_dup {l : List Gr} {k : Nat} (hk : k < l.length) : decide (gAt l (l.getD k gr0).nm < (k : Int)) = gDup l k := by
  unfold gDup gAt
  rw [decide_eq_decide]
  rcases fstP_cases (fun j => eqT (l.getD j gr0).nm (l.getD k gr0).nm) l.length with ⟨_, h2⟩ | ⟨j, h1, h2, h3, h4⟩
  · have := h2 k hk
    rw [eqT_refl] at this; simp at this
  · rw [h2]
    constructor
    · intro h; exact ⟨j, by omega, h3⟩
    · rintro ⟨i, hi, hei⟩
      rcases Nat.lt_or_ge i j with h5 | h5
      · have := h4 i h5; rw [hei] at this; simp at this
      · omega
end Go.Abs
