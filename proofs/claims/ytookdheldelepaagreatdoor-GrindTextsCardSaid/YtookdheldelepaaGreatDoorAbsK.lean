import Derived.Test.YtookdheldelepaaGreatDoorAbsL
import Derived.Test.YtookdheldelepaaGreatDoorPCmin
import Derived.Test.YtookdheldelepaaGreatDoorKS1
import Derived.Test.YtookdheldelepaaGreatDoorAbsI
import Derived.Test.YtookdheldelepaaGreatDoorK1x
import Derived.Lib.ItoaLen
import Derived.Lib.AtoiAllCases
import Derived.Lib.Strings
import Derived.Lib.SplitLaws
import Derived.Laws.Strings
set_option linter.all false
set_option linter.unusedVariables false
set_option linter.unusedSimpArgs false
set_option linter.unusedSectionVars false
/- loops that make blocks, with any measure -/
namespace Go.Abs
theorem T_loop_keep {md : Option Nat} {P : Program} {muts : List FuncId} {N b : Nat} {σ : St} {K : Exit → St → Prop} {p : ACode} (ts : List Nat) (I : Nat → St → Prop) (n : Nat)
    (h0 : ∃ ids : List Nat, b ≤ σ.heap.length ∧ (∀ id ∈ ids, b ≤ id ∧ id < σ.heap.length) ∧ ids.Nodup ∧ I n (σ.keep b ts ids))
    (h : ∀ n s, I n s → T md P muts N b p s (thenK (fun s' => ∃ n', n' < n ∧ ∃ ids : List Nat, b ≤ s'.heap.length ∧ (∀ id ∈ ids, b ≤ id ∧ id < s'.heap.length) ∧ ids.Nodup ∧ I n' (s'.keep b ts ids)) K)) : T md P muts N b (.loop p) σ K := by
  obtain ⟨ids0, g1, g2, g3, g4⟩ := h0
  refine T_weak (weak_keep (ts := ts) g1 g2 g3) (T_loop I n g4 fun n s hI => T_mono (h n s hI) fun e s' hK => ?_)
  cases e with
  | normal => obtain ⟨n', h1, ids, h3, h4, h5, h6⟩ := hK; exact ⟨n', h1, _, weak_keep (ts := ts) h3 h4 h5, h6⟩
  | _ => exact hK
end Go.Abs
namespace Go.Abs
open Go.Proofs
theorem nt0 : (0 : Int).toNat = 0 := rfl
theorem nt1 : (1 : Int).toNat = 1 := rfl
theorem nt2 : (2 : Int).toNat = 2 := rfl
def okI (n : Int) : Prop := -9223372036854775808 ≤ n ∧ n ≤ 9223372036854775807
def trB (w : ByteArray) : ByteArray := ⟨(Lib.trimPrefix w.data.toList [45]).toArray⟩
def rdI (w : ByteArray) : Option Int :=
  match Lib.atoiAll w.data.toList with
  | .ok v => if (itoaB v).toList == w.toList then (if (trB w).size ≤ 7 then some v else none) else none
  | _ => none
theorem size_strlit (c : UInt8) : (ByteArray.mk #[c]).size = 1 := rfl
theorem rdI_some {w : ByteArray} {v : Int} (h : rdI w = some v) : Lib.atoiAll w.data.toList = .ok v ∧ ((itoaB v).toList == w.toList) = true ∧ (trB w).size ≤ 7 := by
  unfold rdI at h
  split at h
  · rename_i u hu
    split at h
    · rename_i h1
      split at h
      · rename_i h2
        obtain rfl := Option.some.inj h
        exact ⟨hu, h1, h2⟩
      · simp at h
    · simp at h
  · simp at h
theorem rdI_none {w : ByteArray} (h : rdI w = none) : (∀ v, Lib.atoiAll w.data.toList ≠ .ok v) ∨ ∃ v, Lib.atoiAll w.data.toList = .ok v ∧ (((itoaB v).toList == w.toList) = false ∨ (((itoaB v).toList == w.toList) = true ∧ ¬ (trB w).size ≤ 7)) := by
  unfold rdI at h
  split at h
  · rename_i u hu
    refine .inr ⟨u, hu, ?_⟩
    split at h
    · rename_i h1
      split at h
      · simp at h
      · rename_i h2; exact .inr ⟨h1, h2⟩
    · rename_i h1; exact .inl (by simpa using h1)
  · rename_i hx; exact .inl hx
theorem atoi_rng {w : ByteArray} {v : Int} (h : Lib.atoiAll w.data.toList = .ok v) : okI v := by
  unfold Lib.atoiAll at h
  split at h
  · cases h
  · dsimp only at h
    split at h
    · cases h
    · cases h
    · rename_i u _
      split at h
      · cases h
      · split at h
        · cases h
        · cases h
          unfold okI
          split <;> omega
/-! the document's Decimal -/
set_option maxHeartbeats 8000000 in
theorem k74 (n : Int) (h : -9223372036854775807 ≤ n ∧ n ≤ 9223372036854775807) : Fn Tryz.prog 74 [i64 n] (i64 (n.natAbs : Nat)) [] := by
  refine fn_of e74 ?_
  have e0 : 0 - n = -n := by omega
  by_cases hn : n < 0
  · have e1 : ((n.natAbs : Nat) : Int) = -n := by omega
    rw [e1]
    unfold c74
    repeat' (first | (with_reducible first | refine T_seq ?_ | refine T_reg ?_ | refine T_skip ?_ | refine T_exit ?_ | refine T_block ?_ | refine T_cond_t rfl ?_ | refine T_cond_f rfl ?_ | refine T_ret ?_ | refine leave_of (.inr rfl) _ rfl ?_ | refine leave_of (.inl rfl) _ rfl ?_ | refine wif_intro ?_ (fun hc => ?_) | refine And.intro ?_ ?_ | intro hc) | simp (maxSteps := 4000000) only [wops_nil, wops_cons, wstep_none, wrun_mv, wrun_bin, wrun_neg, get_mk, wop, aop, ev, look, put_some, writes, ores_some, binV, thenK, tupOf, List.map_cons, List.map_nil, List.length_nil, List.append_nil, List.replicate_zero, List.zipIdx_cons, List.zipIdx_nil, Option.map_some, if_true, if_false, Nat.reduceEqDiff, Nat.zero_add, reduceCtorEq, eq_self, decide_true, ren, *] | simp (disch := omega) only [wrapI] | omega)
  · have e1 : ((n.natAbs : Nat) : Int) = n := by omega
    rw [e1]
    unfold c74
    repeat' (first | (with_reducible first | refine T_seq ?_ | refine T_reg ?_ | refine T_skip ?_ | refine T_exit ?_ | refine T_block ?_ | refine T_cond_t rfl ?_ | refine T_cond_f rfl ?_ | refine T_ret ?_ | refine leave_of (.inr rfl) _ rfl ?_ | refine leave_of (.inl rfl) _ rfl ?_ | refine wif_intro ?_ (fun hc => ?_) | refine And.intro ?_ ?_ | intro hc) | simp (maxSteps := 4000000) only [wops_nil, wops_cons, wstep_none, wrun_mv, wrun_bin, get_mk, wop, aop, ev, look, put_some, writes, ores_some, binV, thenK, tupOf, List.map_cons, List.map_nil, List.length_nil, List.append_nil, List.replicate_zero, List.zipIdx_cons, List.zipIdx_nil, Option.map_some, if_true, if_false, Nat.reduceEqDiff, Nat.zero_add, reduceCtorEq, eq_self, decide_false, ren, *] | simp (disch := omega) only [getD_ints, wrapI] | omega)
theorem i64max : IntKind.i64.max = 9223372036854775807 := rfl
theorem wrap8 {n : Int} (h : 0 ≤ n) (h2 : n ≤ 255) : IntKind.u8.wrap n = n := by rw [IntKind.wrap_u8]; omega
def digB (u : Nat) : ByteArray := ⟨#[UInt8.ofNat (48 + u % 10)]⟩
theorem decDigits_more {u : Nat} (h : ¬ u < 10) : Lib.decDigits u = Lib.decDigits (u / 10) ++ [UInt8.ofNat (48 + u % 10)] := by
  rw [Lib.decDigits, dif_neg h]
def dhd (m : Int) : List UInt8 := if m = 0 then [] else Lib.decDigits m.natAbs
theorem dhd_step {m : Int} (h : m ≠ 0) : dhd m = dhd (m.tdiv 10) ++ (digB m.natAbs).data.toList := by
  have e : (m.tdiv 10).natAbs = m.natAbs / 10 := by rw [Int.natAbs_tdiv]; rfl
  unfold dhd
  rw [if_neg h]
  by_cases h1 : m.natAbs < 10
  · have e1 : m.tdiv 10 = 0 := by
      have : (m.tdiv 10).natAbs = 0 := by rw [e]; omega
      omega
    rw [e1, if_pos rfl, Lib.decDigits_one h1]
    simp [digB, Nat.mod_eq_of_lt h1]
  · have e1 : m.tdiv 10 ≠ 0 := by
      intro h2
      rw [h2] at e
      simp at e
      omega
    rw [if_neg e1, e, decDigits_more h1]
    rfl
theorem dhd_len {m : Int} : (dhd m).length ≤ 21 ∨ ¬ okI m := by
  by_cases h : okI m
  · left
    unfold dhd
    split
    · simp
    · have := Lib.itoa_length_le m h.1 h.2
      unfold Lib.itoa at this
      split at this
      · simp at this; omega
      · have e : m.toNat = m.natAbs := by omega
        rwa [e] at this
  · exact .inr h
end Go.Abs
