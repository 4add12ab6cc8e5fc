import Derived.Test.YtookdheldelepaaGreatDoorPCmin
import Derived.Test.YtookdheldelepaaGreatDoorK64
set_option linter.all false
set_option linter.unusedVariables false
set_option linter.unusedSimpArgs false
set_option linter.unusedSectionVars false
namespace Go.Abs
open Go.Proofs
/-! strokes -/
structure Sk where
  nm : ByteArray
  nil : Bool
  wr : List Int
def sk0 : Sk := ⟨⟨#[]⟩, true, []⟩
def skR (l : List Sk) : List (List AV) := l.map fun s => [tx s.nm, ints s.nil s.wr]
abbrev sts (nil : Bool) (l : List Sk) : AV := .sl nil 2 (skR l)
theorem skR_len (l : List Sk) : (skR l).length = l.length := by simp [skR]
theorem skR_get {l : List Sk} {k : Nat} (h : k < l.length) : (skR l).getD k [] = [tx (l.getD k sk0).nm, ints (l.getD k sk0).nil (l.getD k sk0).wr] := by
  simp [skR, List.getD_eq_getElem?_getD, h]
theorem plainR_sk (l : List Sk) : plainR (skR l) = true := by
  unfold skR
  induction l with
  | nil => rfl
  | cons s l ih => simp only [List.map_cons, plainR, plainL, plain, ih, plainR_ints, Bool.and_true]
theorem renR_sk (ρ : Nat → Option Nat) (l : List Sk) : renR ρ (skR l) = skR l := renR_plain ρ _ (plainR_sk l)
def sAt (l : List Sk) (b : ByteArray) : Int := fstP (fun j => eqT (l.getD j sk0).nm b) l.length
set_option maxHeartbeats 8000000 in
theorem k42 (nil : Bool) (l : List Sk) (b : ByteArray) (hl : l.length < 1000000) : Fn Tryz.prog 42 [sts nil l, tx b] (i64 (sAt l b)) [] := by
  refine fn_of e42 ?_
  have hll := skR_len l
  have hR : (∀ j, j < l.length → eqT (l.getD j sk0).nm b = false) → sAt l b = -1 := fun h => fstP_no h
  have hA : ∀ k, k < l.length → eqT (l.getD k sk0).nm b = true → (∀ j, j < k → eqT (l.getD j sk0).nm b = false) → sAt l b = k := fun k h1 h2 h300 => fstP_at h1 h2 h300
  replace hR := PLift.up hR
  replace hA := PLift.up hA
  generalize sAt l b = R at *
  unfold c42
  repeat' (first | (with_reducible first | refine T_seq ?_ | refine T_reg ?_ | refine T_skip ?_ | refine T_exit ?_ | refine T_block ?_ | refine T_cond_t rfl ?_ | refine T_cond_f rfl ?_ | refine T_ret ?_ | refine leave_of (.inr rfl) _ rfl ?_ | refine leave_of (.inl rfl) _ rfl ?_ | refine wif_intro ?_ (fun hc => ?_) | refine And.intro ?_ ?_ | intro hc) | simp (maxSteps := 4000000) only [wops_nil, wops_cons, wstep_none, wrun_mv, wop, aop, ev, put_some, writes, ores_some, thenK, List.map_cons, List.map_nil, List.length_nil, List.append_nil, List.replicate_zero, List.zipIdx_cons, List.zipIdx_nil, Nat.reduceAdd, Nat.zero_add, Int.reduceNeg, *] | simp (disch := omega) only [getD_ints, wrapI] | omega)
  refine T_for [0, 1, 5] (fun k => ⟨[(0, sts nil l), (1, tx b), (5, i64 k)], []⟩) l.length (fun k => ∀ j, j < k → eqT (l.getD j sk0).nm b = false) 0 rfl (fun j hj => by omega) (Nat.zero_le _) ?_
  intro k hk hI
  by_cases hkn : k < l.length
  · have g1 := skR_get hkn
    have hq := eqT_bin (l.getD k sk0).nm b
    cases he : eqT (l.getD k sk0).nm b with
    | true =>
      rw [hA.down k hkn he hI]
      rw [he] at hq
      clear hI hR hA he
      unfold c42l0
      repeat' (first | (with_reducible first | refine T_seq ?_ | refine T_reg ?_ | refine T_skip ?_ | refine T_exit ?_ | refine T_block ?_ | refine T_cond_t rfl ?_ | refine T_cond_f rfl ?_ | ((first | refine T_cond rfl (fun hc => ?_) (fun hc => ?_) | refine wguard_split (fun hc => ?_) (fun hc => ?_)) <;> have hd := hc <;> (try simp (disch := omega) only [wrapI] at hd) <;> have hs := hd <;> (try simp only [decide_eq_true_eq, decide_eq_false_iff_not, Int.not_lt] at hd) <;> (try simp at hs)) | refine T_ret ?_ | refine leave_of (.inr rfl) _ rfl ?_ | refine leave_of (.inl rfl) _ rfl ?_ | refine wif_intro ?_ (fun hc => ?_) | refine And.intro ?_ ?_ | intro hc) | simp (maxSteps := 4000000) only [wops_nil, wops_cons, wstep_none, wrun_mv, wrun_bin, wrun_load, wrun_faddr, wrun_iaddrS, wrun_len, get_mk, wop, aop, ev, look, put_some, writes, ores_some, ores_ite_none, ores_map, ores_bind, binV, thenK, blockK, intV, lenOf, value, cut, hget, mkAgg, tupOf, List.length_cons, List.length_nil, List.take_succ_cons, List.take_zero, List.drop_zero, List.append_nil, List.replicate_zero, Option.pure_def, Option.bind_eq_bind, Option.map_some, if_true, if_false, Nat.reduceEqDiff, Nat.add_zero, Nat.zero_add, Nat.zero_ne_one, reduceCtorEq, Bool.false_eq_true, eq_self, true_and, and_true, and_self, decide_true, Int.reduceNeg, ren, Int.toNat_natCast, *] | simp (disch := omega) only [getD_ints, wrapI] | omega)
      all_goals first | rfl
    | false =>
      rw [he] at hq
      have hI2 : ∀ j, j < k + 1 → eqT (l.getD j sk0).nm b = false := fun j hj => by
        rcases Nat.lt_succ_iff_lt_or_eq.1 hj with h | rfl
        · exact hI j h
        · exact he
      replace hI2 := PLift.up hI2
      clear hI hR hA he
      unfold c42l0
      repeat' (first | (with_reducible first | refine T_seq ?_ | refine T_reg ?_ | refine T_skip ?_ | refine T_exit ?_ | refine T_block ?_ | refine T_cond_t rfl ?_ | refine T_cond_f rfl ?_ | ((first | refine T_cond rfl (fun hc => ?_) (fun hc => ?_) | refine wguard_split (fun hc => ?_) (fun hc => ?_)) <;> have hd := hc <;> (try simp (disch := omega) only [wrapI] at hd) <;> have hs := hd <;> (try simp only [decide_eq_true_eq, decide_eq_false_iff_not, Int.not_lt] at hd) <;> (try simp at hs)) | refine T_ret ?_ | refine leave_of (.inr rfl) _ rfl ?_ | refine leave_of (.inl rfl) _ rfl ?_ | refine wif_intro ?_ (fun hc => ?_) | refine And.intro ?_ ?_ | intro hc) | simp (maxSteps := 4000000) only [wops_nil, wops_cons, wstep_none, wrun_mv, wrun_bin, wrun_load, wrun_faddr, wrun_iaddrS, wrun_len, get_mk, wop, aop, ev, look, put_some, writes, ores_some, ores_ite_none, ores_map, ores_bind, binV, thenK, blockK, intV, lenOf, value, cut, hget, mkAgg, tupOf, List.length_cons, List.length_nil, List.take_succ_cons, List.take_zero, List.drop_zero, List.append_nil, List.replicate_zero, Option.pure_def, Option.bind_eq_bind, Option.map_some, if_true, if_false, Nat.reduceEqDiff, Nat.add_zero, Nat.zero_add, Nat.zero_ne_one, reduceCtorEq, Bool.false_eq_true, eq_self, true_and, and_true, and_self, decide_true, Int.reduceNeg, ren, Int.toNat_natCast, *] | simp (disch := omega) only [wrapI] | omega)
      all_goals first | exact hI2.down _ (by assumption) | (simp [St.only, get_mk, look]; done)
  · have hke : k = l.length := by omega
    subst hke
    rw [hR.down hI]
    clear hI hR hA
    unfold c42l0
    repeat' (first | (with_reducible first | refine T_seq ?_ | refine T_reg ?_ | refine T_skip ?_ | refine T_exit ?_ | refine T_block ?_ | refine T_cond_t rfl ?_ | refine T_cond_f rfl ?_ | ((first | refine T_cond rfl (fun hc => ?_) (fun hc => ?_) | refine wguard_split (fun hc => ?_) (fun hc => ?_)) <;> have hd := hc <;> (try simp (disch := omega) only [wrapI] at hd) <;> have hs := hd <;> (try simp only [decide_eq_true_eq, decide_eq_false_iff_not, Int.not_lt] at hd) <;> (try simp at hs)) | refine T_ret ?_ | refine leave_of (.inr rfl) _ rfl ?_ | refine leave_of (.inl rfl) _ rfl ?_ | refine wif_intro ?_ (fun hc => ?_) | refine And.intro ?_ ?_ | intro hc) | simp (maxSteps := 4000000) only [wops_nil, wops_cons, wstep_none, wrun_mv, wrun_bin, wrun_len, get_mk, wop, aop, ev, look, put_some, writes, ores_some, ores_map, ores_bind, binV, thenK, blockK, intV, lenOf, hget, tupOf, List.length_nil, List.append_nil, List.replicate_zero, Option.pure_def, Option.bind_eq_bind, Option.map_some, if_true, if_false, Nat.reduceEqDiff, reduceCtorEq, eq_self, false_and, Int.reduceNeg, ren, *] | simp (disch := omega) only [getD_ints, wrapI] | omega)
    all_goals first | rfl
/-- the error at a stroke -/
def sDup (l : List Sk) (k : Nat) : Bool := decide (∃ j, j < k ∧ eqT (l.getD j sk0).nm (l.getD k sk0).nm = true)
def sShp (l : List Sk) (k : Nat) : Bool := !(((l.getD k sk0).wr.length : Int) != ((l.getD 0 sk0).wr.length : Int)) && (decide (1 ≤ ((l.getD 0 sk0).wr.length : Int)) && decide (((l.getD 0 sk0).wr.length : Int) ≤ 40))
def outW (n : Int) : Bool := !(decide (0 ≤ n) && decide (n ≤ 100))
def sErr (l : List Sk) (k : Nat) : Int := if nmB (l.getD k sk0).nm = false then 4 else if sDup l k = true then 5 else if sShp l k = false then 10 else if (l.getD k sk0).wr.any outW = true then 2 else 0
def sE (l : List Sk) : Int := if l.length = 0 then 10 else if l.length > 12 then 8 else fe (sErr l) l.length
def sN (l : List Sk) : Int := if sE l = 0 then ((l.getD 0 sk0).wr.length : Int) else 0
theorem sAt_dup {l : List Sk} {k : Nat} (hk : k < l.length) : decide (sAt l (l.getD k sk0).nm < (k : Int)) = sDup l k := by
  unfold sDup sAt
  rw [decide_eq_decide]
  rcases fstP_cases (fun j => eqT (l.getD j sk0).nm (l.getD k sk0).nm) l.length with ⟨_, h2⟩ | ⟨j, h1, h2, h300, h301⟩
  · have := h2 k hk
    rw [eqT_refl] at this; simp at this
  · rw [h2]
    constructor
    · intro h; exact ⟨j, by omega, h300⟩
    · rintro ⟨i, hi, hei⟩
      rcases Nat.lt_or_ge i j with h302 | h302
      · have := h301 i h302; rw [hei] at this; simp at this
      · omega
/-- right strokes -/
structure SOk (l : List Sk) : Prop where
  pos : 0 < l.length
  few : l.length ≤ 12
  zon : 1 ≤ (l.getD 0 sk0).wr.length ∧ (l.getD 0 sk0).wr.length ≤ 40
  len : ∀ k, k < l.length → (l.getD k sk0).wr.length = (l.getD 0 sk0).wr.length
  rng : ∀ k, k < l.length → ∀ z, z < (l.getD 0 sk0).wr.length → 0 ≤ (l.getD k sk0).wr.getD z 0 ∧ (l.getD k sk0).wr.getD z 0 ≤ 100
end Go.Abs
