import Derived.Test.YtodheeifecoebaaK54x
set_option linter.all false
set_option linter.unusedVariables false
set_option linter.unusedSimpArgs false
set_option linter.unusedSectionVars false
namespace Go.Abs
open Go.Proofs
def enc (M : List (List Int)) : Nat → List (Int × Int)
  | 0 => []
  | k + 1 => enc M k ++ [(-(mget M k 0), mget M 0 k)]
def erows (xs : List (Int × Int)) : List (List AV) := xs.map fun p => [i64 p.1, i64 p.2]
def eV (id : Nat) (xs : List (Int × Int)) : AV := if xs = [] then .sl true 0 [] else .lsl id 0 xs.length
theorem enc_len (M : List (List Int)) : ∀ k, (enc M k).length = k
  | 0 => rfl
  | k + 1 => by unfold enc; simp [enc_len M k]
theorem erows_len (xs : List (Int × Int)) : (erows xs).length = xs.length := by simp [erows]
theorem erows_app (a b : List (Int × Int)) : erows (a ++ b) = erows a ++ erows b := by simp [erows]
theorem renR_erows (ρ : Nat → Option Nat) (xs : List (Int × Int)) : renR ρ (erows xs) = erows xs := renR_plain ρ _ (plainR_map _ (fun _ => rfl) xs)
def SL31 (M : List (List Int)) (z k : Nat) : List (Nat × AV) := [(9, .lsl 0 0 z), (10, eV (z + 2 * k) (enc M k)), (31, i64 z), (32, i64 k)]
structure I31 (M : List (List Int)) (z k : Nat) (H : List Blk) : Prop where
  tb : IsTb z M H
  len : H.length = 1 + z + 2 * k
  out : k ≠ 0 → H[z + 2 * k]? = some (.cells true false 2 (erows (enc M k)))
set_option maxHeartbeats 8000000 in
theorem k31l {M : List (List Int)} {z : Nat} (hz : 1 ≤ z ∧ z ≤ 40) (hM : Sq z M) (hb : ∀ i j, i < z → j < z → -10000000000000 ≤ mget M i j ∧ mget M i j ≤ 10000000000000) (K : Exit → St → Prop) (k : Nat) (hk : k < z) (H : List Blk) (hH : I31 M z k H) :
    T none Try.prog muts 43 0 c31l0 ⟨SL31 M z k, H⟩ (thenK (fun s' => k < z ∧ I31 M z (k + 1) s'.heap ∧ (s'.only [9, 10, 31, 32]).slots = SL31 M z (k + 1)) K) := by
  have h98 : Fn Try.prog 98 [tblV M, i64 0, i64 k] (rgA (-(mget M k 0)) (mget M 0 k)) [] := k98 (i := 0) (j := k) hz hM (by omega) hk (hb k 0 hk (by omega))
  obtain ⟨htb, hlen, hout⟩ := hH
  have hel := enc_len M k
  have hrl := erows_len (enc M k)
  have esn : enc M (k + 1) ≠ [] := by rw [enc]; simp
  have eV1 : eV (z + 2 * (k + 1)) (enc M (k + 1)) = .lsl (z + 2 * (k + 1)) 0 (k + 1) := by unfold eV; rw [if_neg esn, enc_len]
  have eE : enc M (k + 1) = enc M k ++ [(-(mget M k 0), mget M 0 k)] := rfl
  have htb2 := htb.app [.resv, .resv]
  have hF1 := htb2.freeze (lidsL (hget (H ++ [.resv, .resv])) [.lsl 0 0 z, i64 0, i64 k])
  have hF2 := freeze_len (lidsL (hget (H ++ [.resv, .resv])) [.lsl 0 0 z, i64 0, i64 k]) (H ++ [.resv, .resv])
  have hnot : ∀ j, z < j → j ∉ lidsL (hget (H ++ [.resv, .resv])) [.lsl 0 0 z, i64 0, i64 k] := fun j hj hm => by
    simp only [lidsL, List.flatMap_cons, List.flatMap_nil, List.append_nil, List.mem_append] at hm
    rcases hm with hm | hm | hm
    · have := tab_lids htb2 j hm; omega
    · simp [lids] at hm
    · simp [lids] at hm
  have hF3 : (freeze (H ++ [.resv, .resv]) (lidsL (hget (H ++ [.resv, .resv])) [.lsl 0 0 z, i64 0, i64 k]))[1 + z + 2 * k]? = some .resv := by
    rw [freeze_ne _ _ (hnot _ (by omega)), ← hlen]; simp
  have hF4 : (freeze (H ++ [.resv, .resv]) (lidsL (hget (H ++ [.resv, .resv])) [.lsl 0 0 z, i64 0, i64 k]))[1 + z + 2 * k + 1]? = some .resv := by
    rw [freeze_ne _ _ (hnot _ (by omega)), ← hlen]; simp
  have hF5 : k ≠ 0 → (freeze (H ++ [.resv, .resv]) (lidsL (hget (H ++ [.resv, .resv])) [.lsl 0 0 z, i64 0, i64 k]))[z + 2 * k]? = some (.cells true false 2 (erows (enc M k))) := fun h => by
    rw [freeze_ne _ _ (hnot _ (by omega))]; exact at_app (hout h) _
  have hre : rfyL (hget (H ++ [.resv, .resv])) [.lsl 0 0 z, i64 0, i64 k] = [tblV M, i64 0, i64 k] := by
    simp only [rfyL, List.map_cons, List.map_nil, tab_rfy htb2 hM]; rfl
  have hlen2 : (H ++ [Blk.resv, .resv]).length = 1 + z + 2 * k + 2 := by simp [hlen]
  rw [hlen2] at hF2
  have hpl : plainL [tblV M, i64 0, i64 k] = true := by simp only [plainL, plain_tbl]; rfl
  unfold c31l0 SL31
  rw [eV1]
  clear htb hout esn eV1 hnot hb
  have hzk : id (k < z) := hk
  replace hF1 := And.intro hF1 trivial
  replace hF5 := And.intro hF5 trivial
  by_cases hk0 : k = 0
  · subst hk0
    have e0 : enc M 0 = [] := rfl
    simp only [eV, e0, if_true]
    repeat' (first | (with_reducible first | refine T_seq ?_ | refine T_reg ?_ | refine T_skip ?_ | refine T_exit ?_ | refine T_block ?_ | refine T_cond_t rfl ?_ | refine T_cond_f rfl ?_ | ((first | refine T_cond rfl (fun hc => ?_) (fun hc => ?_) | refine wguard_split (fun hc => ?_) (fun hc => ?_)) <;> have hd := hc <;> (try simp (disch := omega) only [wrapI] at hd) <;> have hs := hd <;> (try simp only [decide_eq_true_eq, decide_eq_false_iff_not, Int.not_lt] at hd) <;> (try simp at hs)) | refine T_ret ?_ | refine leave_of (.inr rfl) _ rfl ?_ | refine leave_of (.inl rfl) _ rfl ?_ | refine leaveA_of (.inr rfl) _ rfl ?_ | refine leaveA_of (.inl rfl) _ rfl ?_ | refine wif_intro ?_ (fun hc => ?_) | refine And.intro ?_ ?_ | intro hc) | simp (maxSteps := 4000000) only [wops_nil, wops_cons, wstep_none, wrun_call, wrun_mv, wrun_bin, wop, aop, ev, look, put_some, writes, ores_some, binV, thenK, List.map_cons, List.map_nil, List.append_nil, List.replicate_zero, List.replicate_succ, Option.map_some, if_true, if_false, Nat.reduceEqDiff, Nat.reduceMul, Nat.add_zero, Nat.zero_add, Nat.mul_one, reduceCtorEq, eq_self, true_and, decide_true, *] | simp (disch := omega) only [getD_ints, wrapI] | omega)
    refine wcall_fn h98 hre hpl ?_
    generalize freeze (H ++ [.resv, .resv]) (lidsL (hget (H ++ [.resv, .resv])) [.lsl 0 0 z, i64 0, i64 ((0 : Nat) : Int)]) = F at *
    simp only [Nat.mul_zero, Nat.add_zero] at hF2 hF3 hF4 hlen hlen2
    have hs0 : ∀ b : Blk, (F.set (1 + z) b)[1 + z + 1]? = some .resv := fun b => by rw [List.getElem?_set_ne (by omega)]; exact hF4
    have hs1 : ∀ b : Blk, (F.set (1 + z) b)[1 + z]? = some b := fun b => List.getElem?_set_self (by omega)
    have hfin : ∀ b : Blk, I31 M z 1 ((F.set (1 + z) b).set (1 + z + 1) (.cells true false 2 [[i64 (-(mget M 0 0)), i64 (mget M 0 0)]])) := fun b => by
      refine ⟨(hF1.1.set (by omega) _).set (by omega) _, by simp [hF2], fun _ => ?_⟩
      rw [show z + 2 * 1 = 1 + z + 1 by omega, List.getElem?_set_self (by rw [List.length_set]; omega)]
      rfl
    have ez : z + 2 = 1 + z + 1 := by omega
    clear hF1 hF5
    repeat' (first | (with_reducible first | refine T_seq ?_ | refine T_reg ?_ | refine T_skip ?_ | refine T_exit ?_ | refine T_block ?_ | refine T_cond_t rfl ?_ | refine T_cond_f rfl ?_ | refine T_ret ?_ | refine leave_of (.inr rfl) _ rfl ?_ | refine leave_of (.inl rfl) _ rfl ?_ | refine leaveA_of (.inr rfl) _ rfl ?_ | refine leaveA_of (.inl rfl) _ rfl ?_ | refine wif_intro ?_ (fun hc => ?_) | refine And.intro ?_ ?_ | intro hc) | simp (maxSteps := 4000000) only [wops_nil, wops_cons, wstep_none, wrun_mv, wrun_bin, wrun_bslice, wrun_app, wop, aop, ev, look, put_some, writes, ores_some, binV, thenK, blockK, elsOf, szOk, hget, fillA, putCells, AV.parts, isOne, ofValue_int, List.flatten_cons, List.flatten_nil, rowsOf, List.map_cons, List.map_nil, List.length_cons, List.length_nil, List.take_succ_cons, List.take_zero, List.take_nil, List.drop_succ_cons, List.drop_zero, List.drop_nil, List.nil_append, List.append_nil, List.replicate_zero, List.replicate_succ, List.all_cons, List.all_nil, List.isEmpty_cons, Option.getD_some, Option.map_some, if_true, if_false, Nat.reduceEqDiff, Nat.reduceAdd, Nat.reduceMul, Nat.reduceLeDiff, Nat.add_zero, Nat.zero_add, Nat.sub_zero, Nat.zero_mul, Nat.le_refl, reduceCtorEq, Bool.and_true, Bool.or_true, eq_self, true_and, and_self, beq_self_eq_true, List.all_cons, ren, *] | simp (disch := omega) only [wrapI] | omega)
    simp [St.only, get_mk, look]
  · have e0 : enc M k ≠ [] := fun h => by rw [h] at hel; simp at hel; omega
    simp only [eV, e0, if_false]
    repeat' (first | (with_reducible first | refine T_seq ?_ | refine T_reg ?_ | refine T_skip ?_ | refine T_exit ?_ | refine T_block ?_ | refine T_cond_t rfl ?_ | refine T_cond_f rfl ?_ | ((first | refine T_cond rfl (fun hc => ?_) (fun hc => ?_) | refine wguard_split (fun hc => ?_) (fun hc => ?_)) <;> have hd := hc <;> (try simp (disch := omega) only [wrapI] at hd) <;> have hs := hd <;> (try simp only [decide_eq_true_eq, decide_eq_false_iff_not, Int.not_lt] at hd) <;> (try simp at hs)) | refine T_ret ?_ | refine leave_of (.inr rfl) _ rfl ?_ | refine leave_of (.inl rfl) _ rfl ?_ | refine leaveA_of (.inr rfl) _ rfl ?_ | refine leaveA_of (.inl rfl) _ rfl ?_ | refine wif_intro ?_ (fun hc => ?_) | refine And.intro ?_ ?_ | intro hc) | simp (maxSteps := 4000000) only [wops_nil, wops_cons, wstep_none, wrun_call, wrun_mv, wrun_bin, wop, aop, ev, look, put_some, writes, ores_some, binV, thenK, List.map_cons, List.map_nil, List.append_nil, List.replicate_zero, List.replicate_succ, Option.map_some, if_true, if_false, Nat.reduceEqDiff, reduceCtorEq, eq_self, true_and, decide_true, *] | simp (disch := omega) only [getD_ints, wrapI] | omega)
    refine wcall_fn h98 hre hpl ?_
    generalize freeze (H ++ [.resv, .resv]) (lidsL (hget (H ++ [.resv, .resv])) [.lsl 0 0 z, i64 0, i64 k]) = F at *
    have hF6 := hF5.1 hk0
    have hs0 : ∀ b : Blk, (F.set (1 + z + 2 * k) b)[1 + z + 2 * k + 1]? = some .resv := fun b => by rw [List.getElem?_set_ne (by omega)]; exact hF4
    have hs1 : ∀ b : Blk, (F.set (1 + z + 2 * k) b)[1 + z + 2 * k]? = some b := fun b => List.getElem?_set_self (by omega)
    have hs2 : ∀ b : Blk, (F.set (1 + z + 2 * k) b)[z + 2 * k]? = some (.cells true false 2 (erows (enc M k))) := fun b => by rw [List.getElem?_set_ne (by omega)]; exact hF6
    have htk : List.take k (erows (enc M k)) = erows (enc M k) := by rw [List.take_of_length_le (by omega)]
    have hap : erows (enc M k) ++ [[i64 (-(mget M k 0)), i64 (mget M 0 k)]] = erows (enc M (k + 1)) := by rw [eE, erows_app]; rfl
    have hfin : ∀ b c : Blk, I31 M z (k + 1) (((F.set (1 + z + 2 * k) b).set (z + 2 * k) c).set (1 + z + 2 * k + 1) (.cells true false 2 (erows (enc M (k + 1))))) := fun b c => by
      refine ⟨((hF1.1.set (by omega) _).set (by omega) _).set (by omega) _, by simp [hF2]; omega, fun _ => ?_⟩
      rw [show z + 2 * (k + 1) = 1 + z + 2 * k + 1 by omega, List.getElem?_set_self (by rw [List.length_set, List.length_set]; omega)]
    have ez : z + 2 * (k + 1) = 1 + z + 2 * k + 1 := by omega
    clear hF1 hF5 eE
    repeat' (first | (with_reducible first | refine T_seq ?_ | refine T_reg ?_ | refine T_skip ?_ | refine T_exit ?_ | refine T_block ?_ | refine T_cond_t rfl ?_ | refine T_cond_f rfl ?_ | refine T_ret ?_ | refine leave_of (.inr rfl) _ rfl ?_ | refine leave_of (.inl rfl) _ rfl ?_ | refine leaveA_of (.inr rfl) _ rfl ?_ | refine leaveA_of (.inl rfl) _ rfl ?_ | refine wif_intro ?_ (fun hc => ?_) | refine And.intro ?_ ?_ | intro hc) | simp (maxSteps := 4000000) only [wops_nil, wops_cons, wstep_none, wrun_mv, wrun_bin, wrun_bslice, wrun_app, wop, aop, ev, look, put_some, writes, ores_some, ores_ite_none, binV, thenK, blockK, elsOf, szOk, hget, fillA, putCells, AV.parts, isOne, ofValue_int, List.flatten_cons, List.flatten_nil, rowsOf, List.map_cons, List.map_nil, List.length_cons, List.length_nil, List.take_succ_cons, List.take_zero, List.take_nil, List.drop_succ_cons, List.drop_zero, List.drop_nil, List.nil_append, List.append_nil, List.replicate_zero, List.replicate_succ, List.all_cons, List.all_nil, List.isEmpty_cons, Option.getD_some, Option.map_some, if_true, if_false, Nat.reduceEqDiff, Nat.reduceAdd, Nat.add_zero, Nat.zero_add, Nat.sub_zero, Nat.zero_mul, Nat.le_refl, reduceCtorEq, Bool.and_true, Bool.and_false, Bool.or_true, eq_self, true_and, and_self, beq_self_eq_true, List.all_cons, ren, *] | simp (disch := omega) only [wrapI] | omega)
    simp [St.only, get_mk, look]
set_option maxHeartbeats 8000000 in
theorem k31 {nil : Bool} {l : List Rd} {A : List Ar} {z : Nat} (h : checkR z l = 0) (he : A = arcsL l l.length) (hnil : ∃ r, r ≤ z ∧ (rnds A z (r + 1)).at_ < 0) :
    (((tabM A z).getD 0 []).any isFar = true → Fn Try.prog 31 [i64 z, rdgs nil l] (.tup [.sl true 0 [], .sl true 0 [], i64 25]) []) ∧
    (((tabM A z).getD 0 []).any isFar = false → Fn Try.prog 31 [i64 z, rdgs nil l] (.tup [.lsl 0 0 z, .sl true 0 [], i64 0]) [.cells true false 2 (erows (enc (tabM A z) z))]) := by
  obtain ⟨hz, hl, hrd⟩ := checkR_ok h
  obtain ⟨hA, hN, hok⟩ := arcs_ok hrd
  rw [← he] at hA hN
  have hn : A.length ≤ 200 := by have := arcsL_len l l.length; rw [← he] at this; omega
  obtain ⟨P, hP1, hP2⟩ := rest_bound hA hn hnil (by omega)
  have h89 := k89 z nil l (by omega)
  rw [h] at h89
  have h95 := k95n (nil := nil) hl hok (z := z) (by omega) he hA hnil
  have h96 := k96 (nil := nil) hl hok (z := z) (by omega) he hA hP1 hP2
  have hlb : Lb z P (tabM A z) := ((iniM_lb hP2).arM hA hP1 A.length (Nat.le_refl _)).fwK z (Nat.le_refl _)
  have hM := hlb.sq
  have hbb : ∀ i j, i < z → j < z → -10000000000000 ≤ mget (tabM A z) i j ∧ mget (tabM A z) i j ≤ 10000000000000 := fun i j hi hj => by
    have h1 := hlb.lo i j hi hj
    have h2 := hlb.hi i j hi hj
    have h3 := hP2 i hi
    have h4 := hP2 j hj
    have hfar : far = 1099511627776 := rfl
    omega
  have h97 := k97 (z := z) (by omega) hM
  generalize tabM A z = M at *
  have hre : rfyL (hget (tabB M z)) [.lsl 0 0 z] = [tblV M] := by simp only [rfyL, List.map_cons, List.map_nil, tab_rfy (tabB_is hM.hl) hM]
  have hF1 := (tabB_is hM.hl).freeze (lidsL (hget (tabB M z)) [.lsl 0 0 z])
  have hF2 := freeze_len (lidsL (hget (tabB M z)) [.lsl 0 0 z]) (tabB M z)
  have hF3 : (tabB M z).length = 1 + z := by simp [tabB, hM.hl]; omega
  rw [hF3] at hF2
  have hpl : plainL [tblV M] = true := by simp only [plainL, plain_tbl]; rfl
  obtain ⟨o1, hT⟩ := hF1.t
  replace hF1 : id (IsTb z M _) := hF1
  replace hbb := And.intro hbb trivial
  have hz2 : 1 ≤ z ∧ z ≤ 40 := by omega
  clear hlb hP1 hP2 hA hN hok hrd hnil
  replace hM : id (Sq z M) := hM
  constructor
  · intro hw
    rw [hw] at h97
    refine fn_of e31 ?_
    unfold c31
    repeat' (first | (with_reducible first | refine T_seq ?_ | refine T_reg ?_ | refine T_skip ?_ | refine T_exit ?_ | refine T_block ?_ | refine T_cond_t rfl ?_ | refine T_cond_f rfl ?_ | (show wcall _ false (.lit (.func (.func 89) _ _)) _ _ _ _; refine wcall_fn (h89) rfl (by simp [plainL, plain]) ?_) | (show wcall _ false (.lit (.func (.func 95) _ _)) _ _ _ _; refine wcall_fn (h95) rfl (by simp [plainL, plain]) ?_) | (show wcall _ false (.lit (.func (.func 96) _ _)) _ _ _ _; refine wcall_fn (h96) rfl (by simp [plainL, plain]) ?_) | refine T_ret ?_ | refine leave_of (.inr rfl) _ rfl ?_ | refine leave_of (.inl rfl) _ rfl ?_ | refine leaveA_of (.inr rfl) _ rfl ?_ | refine leaveA_of (.inl rfl) _ rfl ?_ | refine wif_intro ?_ (fun hc => ?_) | refine And.intro ?_ ?_ | intro hc) | simp (maxSteps := 4000000) only [wops_nil, wops_cons, wstep_none, wrun_call, wrun_mv, wrun_bin, wrun_eqNil, wop, aop, ev, look, put_some, writes, ores_some, binV, thenK, boolV, hget, List.map_cons, List.map_nil, List.length_nil, List.nil_append, List.append_nil, List.replicate_zero, List.zipIdx_cons, List.zipIdx_nil, Option.map_some, if_true, if_false, Nat.reduceEqDiff, Nat.reduceAdd, Nat.add_zero, Nat.zero_add, Nat.zero_ne_one, reduceCtorEq, Bool.not_true, eq_self, freeze, lidsL, lids, List.flatMap_cons, List.flatMap_nil, ren, renR, shiftρ, tab_ren, *] | simp (disch := omega) only [getD_ints, wrapI] | (with_reducible show wcall _ false (.lit (.func (.func 89) _ _)) _ _ _ _; refine wcall_fn (h89) ?_ ?_ ?_; (next => simp [rfyL, rfy, hget, ints, take_rfy, tab_ren]); (next => simp [plainL, plain, plainR, tab_ren])) | (with_reducible show wcall _ false (.lit (.func (.func 95) _ _)) _ _ _ _; refine wcall_fn (h95) ?_ ?_ ?_; (next => simp [rfyL, rfy, hget, ints, take_rfy, tab_ren]); (next => simp [plainL, plain, plainR, tab_ren])) | (with_reducible show wcall _ false (.lit (.func (.func 96) _ _)) _ _ _ _; refine wcall_fn (h96) ?_ ?_ ?_; (next => simp [rfyL, rfy, hget, ints, take_rfy, tab_ren]); (next => simp [plainL, plain, plainR, tab_ren])) | omega)
    refine wcall_fn h97 hre hpl ?_
    generalize freeze (tabB M z) (lidsL (hget (tabB M z)) [.lsl 0 0 z]) = F at *
    repeat' (first | (with_reducible first | refine T_seq ?_ | refine T_reg ?_ | refine T_skip ?_ | refine T_exit ?_ | refine T_block ?_ | refine T_cond_t rfl ?_ | refine T_cond_f rfl ?_ | refine T_ret ?_ | refine leave_of (.inr rfl) _ rfl ?_ | refine leave_of (.inl rfl) _ rfl ?_ | refine leaveA_of (.inr rfl) _ rfl ?_ | refine leaveA_of (.inl rfl) _ rfl ?_ | refine wif_intro ?_ (fun hc => ?_) | refine And.intro ?_ ?_ | intro hc) | simp (maxSteps := 4000000) only [wops_nil, wops_cons, wstep_none, wrun_mv, wrun_not, get_mk, wop, aop, ev, look, put_some, writes, ores_some, thenK, boolV, tupOf, List.map_nil, List.append_nil, List.replicate_zero, if_true, if_false, Nat.reduceEqDiff, reduceCtorEq, Bool.not_true, Bool.not_false, eq_self, ren, renL, renR, *] | simp (disch := omega) only [getD_ints, wrapI] | omega)
  · intro hw
    rw [hw] at h97
    refine fn_of e31 ?_
    unfold c31
    repeat' (first | (with_reducible first | refine T_seq ?_ | refine T_reg ?_ | refine T_skip ?_ | refine T_exit ?_ | refine T_block ?_ | refine T_cond_t rfl ?_ | refine T_cond_f rfl ?_ | (show wcall _ false (.lit (.func (.func 89) _ _)) _ _ _ _; refine wcall_fn (h89) rfl (by simp [plainL, plain]) ?_) | (show wcall _ false (.lit (.func (.func 95) _ _)) _ _ _ _; refine wcall_fn (h95) rfl (by simp [plainL, plain]) ?_) | (show wcall _ false (.lit (.func (.func 96) _ _)) _ _ _ _; refine wcall_fn (h96) rfl (by simp [plainL, plain]) ?_) | refine T_ret ?_ | refine leave_of (.inr rfl) _ rfl ?_ | refine leave_of (.inl rfl) _ rfl ?_ | refine leaveA_of (.inr rfl) _ rfl ?_ | refine leaveA_of (.inl rfl) _ rfl ?_ | refine wif_intro ?_ (fun hc => ?_) | refine And.intro ?_ ?_ | intro hc) | simp (maxSteps := 4000000) only [wops_nil, wops_cons, wstep_none, wrun_call, wrun_mv, wrun_bin, wrun_eqNil, wop, aop, ev, look, put_some, writes, ores_some, binV, thenK, boolV, hget, List.map_cons, List.map_nil, List.length_nil, List.nil_append, List.append_nil, List.replicate_zero, List.zipIdx_cons, List.zipIdx_nil, Option.map_some, if_true, if_false, Nat.reduceEqDiff, Nat.reduceAdd, Nat.add_zero, Nat.zero_add, Nat.zero_ne_one, reduceCtorEq, Bool.not_true, eq_self, freeze, lidsL, lids, List.flatMap_cons, List.flatMap_nil, ren, renR, shiftρ, tab_ren, *] | simp (disch := omega) only [getD_ints, wrapI] | (with_reducible show wcall _ false (.lit (.func (.func 89) _ _)) _ _ _ _; refine wcall_fn (h89) ?_ ?_ ?_; (next => simp [rfyL, rfy, hget, ints, take_rfy, tab_ren]); (next => simp [plainL, plain, plainR, tab_ren])) | (with_reducible show wcall _ false (.lit (.func (.func 95) _ _)) _ _ _ _; refine wcall_fn (h95) ?_ ?_ ?_; (next => simp [rfyL, rfy, hget, ints, take_rfy, tab_ren]); (next => simp [plainL, plain, plainR, tab_ren])) | (with_reducible show wcall _ false (.lit (.func (.func 96) _ _)) _ _ _ _; refine wcall_fn (h96) ?_ ?_ ?_; (next => simp [rfyL, rfy, hget, ints, take_rfy, tab_ren]); (next => simp [plainL, plain, plainR, tab_ren])) | omega)
    refine wcall_fn h97 hre hpl ?_
    generalize freeze (tabB M z) (lidsL (hget (tabB M z)) [.lsl 0 0 z]) = F at *
    repeat' (first | (with_reducible first | refine T_seq ?_ | refine T_reg ?_ | refine T_skip ?_ | refine T_exit ?_ | refine T_block ?_ | refine T_cond_t rfl ?_ | refine T_cond_f rfl ?_ | refine T_ret ?_ | refine leave_of (.inr rfl) _ rfl ?_ | refine leave_of (.inl rfl) _ rfl ?_ | refine leaveA_of (.inr rfl) _ rfl ?_ | refine leaveA_of (.inl rfl) _ rfl ?_ | refine wif_intro ?_ (fun hc => ?_) | refine And.intro ?_ ?_ | intro hc) | simp (maxSteps := 4000000) only [wops_nil, wops_cons, wstep_none, wrun_mv, wrun_not, wrun_len, wop, aop, ev, look, put_some, writes, ores_some, ores_map, ores_bind, thenK, boolV, intV, lenOf, hget, List.map_nil, List.append_nil, List.replicate_zero, Option.pure_def, Option.bind_eq_bind, Option.getD_some, if_true, if_false, Nat.reduceEqDiff, reduceCtorEq, Bool.not_true, Bool.not_false, eq_self, ren, *] | simp (disch := omega) only [getD_ints, wrapI] | omega)
    refine T_forH [9, 10, 31, 32] (SL31 M z) z (I31 M z) 0 ?_ ⟨hF1, by rw [hF2]; simp, fun h => (h rfl).elim⟩ (Nat.zero_le _) ?_
    · simp [St.only, get_mk, look, SL31, eV, enc]
    intro k H hk hH
    by_cases hkz : k < z
    · exact k31l hz2 hM hbb.1 _ k hkz H hH
    · have hke : k = z := by omega
      subst hke
      obtain ⟨htb, hlen, hout⟩ := hH
      have ho := hout (by omega)
      have hel := enc_len M k
      have e0 : enc M k ≠ [] := fun h => by rw [h] at hel; simp at hel; omega
      have hlt : k + 2 * k < H.length := by omega
      clear htb hout hF1 hT hF2
      unfold c31l0 SL31
      simp only [eV, e0, if_false]
      repeat' (first | (with_reducible first | refine T_seq ?_ | refine T_reg ?_ | refine T_skip ?_ | refine T_exit ?_ | refine T_block ?_ | refine T_cond_t rfl ?_ | refine T_cond_f rfl ?_ | ((first | refine T_cond rfl (fun hc => ?_) (fun hc => ?_) | refine wguard_split (fun hc => ?_) (fun hc => ?_)) <;> have hd := hc <;> (try simp (disch := omega) only [wrapI] at hd) <;> have hs := hd <;> (try simp only [decide_eq_true_eq, decide_eq_false_iff_not, Int.not_lt] at hd) <;> (try simp at hs)) | refine T_ret ?_ | refine wif_intro ?_ (fun hc => ?_) | refine And.intro ?_ ?_ | intro hc) | simp (maxSteps := 4000000) only [wops_nil, wops_cons, wstep_none, wrun_mv, wrun_bin, wop, aop, ev, look, put_some, writes, ores_some, binV, thenK, blockK, List.append_nil, List.replicate_zero, Option.map_some, if_true, if_false, Nat.reduceEqDiff, reduceCtorEq, eq_self, false_and, *] | simp (disch := omega) only [getD_ints, wrapI] | omega)
      have e : hget H (k + 2 * k) = .cells true false 2 (erows (enc M k)) := by unfold hget; rw [ho]; rfl
      refine leave_ids (.inr rfl) [.lsl (k + 2 * k) 0 k, .sl true 0 [], i64 0] [k + 2 * k] rfl (by simp; omega) (by simp) ⟨?_, ?_⟩
      · simp [tupOf, ren, renL, renR, keepρ, pos]
      · simp [e, renB, renR_erows]
end Go.Abs
