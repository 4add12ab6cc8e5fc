import Derived.Test.YtodheeifecoebaaGreatDoorPCmin
import Derived.Test.YtodheeifecoebaaGreatDoorK41x
import Derived.Test.YtodheeifecoebaaGreatDoorK43x
import Derived.Test.YtodheeifecoebaaGreatDoorK95x
set_option linter.all false
set_option linter.unusedVariables false
set_option linter.unusedSimpArgs false
set_option linter.unusedSectionVars false
namespace Go.Abs
open Go.Proofs
theorem stt_base {A : List Ar} {z : Nat} (hA : okAr A z) (hN : neAr A) : Stt A z 0 (arM A (iniM z) A.length) := by
  obtain ⟨h1, h2, h200, h201, h202⟩ := arM_lb hA A.length (Nat.le_refl _)
  refine ⟨h1, h202 hN, fun vs i j c hi hj _ hv hw => ?_, fun i j hi hj hij hf => ?_, fun m _ _ hm => by omega, h2⟩
  · cases hw with
    | arc h => exact h200 _ h
    | cons h hw => have := hv _ (List.Mem.head _); omega
  · obtain ⟨m, h203, h204, h205, h206⟩ := h201 i j hi hj hij hf
    have := Wk.arc h203
    rw [h204, h205, ← h206] at this
    exact ⟨[], fun v hv => by simp at hv, this⟩
theorem leave_tq2 {z : Nat} {M : List (List Int)} {H : List Blk} {s : List (Nat × AV)} (hH : IsQ z M H) (hs : Sq z M) (h201 : look s 4 = .lsl 0 0 z) (h202 : look s 5 = bl true) : leave 0 [ARes.tmp 4, ARes.tmp 5] (fun r' H' => r' = AV.tup [AV.lsl 0 0 z, bl true] ∧ H' = tabB M z) .ret ⟨s, H⟩ := by
  refine leave_ids (.inr rfl) [.lsl 0 0 z, bl true] (List.range (z + 1)) ?_ (fun id hid => ?_) List.nodup_range ⟨?_, leave_tq hH hs⟩
  · simp [resL, resAV, St.get, h201, h202]
  · have := List.mem_range.1 hid
    cases id with
    | zero => exact (List.getElem?_eq_some_iff.1 hH.t).1
    | succ j => have := (List.getElem?_eq_some_iff.1 (hH.r j (by omega))).1; show j + 1 < H.length; omega
  · have : keepρ 0 (List.range (z + 1)) 0 = some 0 := by
      unfold keepρ
      rw [if_neg (by omega), pos_rng (by omega)]
      rfl
    simp [tupOf, ren, renL, this]
set_option maxHeartbeats 8000000 in
theorem k29 {z : Nat} {nil : Bool} {l : List Rd} (h : checkR z l = 0) :
    ((∃ r, r ≤ z ∧ (rnds (arcsL l l.length) z (r + 1)).at_ < 0) → Fn Tryz.prog 29 [i64 z, rdgs nil l] (.tup [.lsl 0 0 z, bl true]) (tabB (toR (tabM (arcsL l l.length) z)) z)) ∧
    ((∀ r, r ≤ z → 0 ≤ (rnds (arcsL l l.length) z (r + 1)).at_) → Fn Tryz.prog 29 [i64 z, rdgs nil l] (.tup [.sl true 0 [], bl false]) []) := by
  obtain ⟨hz, hl, hrd⟩ := checkR_ok h
  obtain ⟨hA, hN, hok⟩ := arcs_ok hrd
  have hal := arcsL_len l l.length
  have hn : (arcsL l l.length).length ≤ 200 := by omega
  have hro := rdErr_ok hrd
  have hbase := stt_base hA hN
  have key : ∀ (R : AV) (new : List Blk),
      ((∀ i K, K < z → i < z → 0 ≤ mget (fwK z (arM (arcsL l l.length) (iniM z) (arcsL l l.length).length) (K + 1)) i i) → R = .tup [.lsl 0 0 z, bl true] ∧ new = tabB (toR (tabM (arcsL l l.length) z)) z) →
      (¬ (∀ i K, K < z → i < z → 0 ≤ mget (fwK z (arM (arcsL l l.length) (iniM z) (arcsL l l.length).length) (K + 1)) i i) → R = .tup [.sl true 0 [], bl false] ∧ new = []) → Fn Tryz.prog 29 [i64 z, rdgs nil l] R new := by
    intro R new hyes hno
    refine fn_of e29 ?_
    have hrl := rows4_len l
    have hz40 : z ≤ 40 := by omega
    have hz1 : 1 ≤ z := by omega
    replace hro := And.intro hro trivial
    replace hbase := And.intro hbase trivial
    replace hyes := And.intro hyes trivial
    replace hno := And.intro hno trivial
    replace hA := And.intro hA trivial
    replace hN := And.intro hN trivial
    replace hok := True.intro
    replace hrd := True.intro
    unfold c29
    repeat' (first | ((with_reducible refine T_calm ?_ ?_); rfl) | (with_reducible first | refine T_seq ?_ | refine T_reg ?_ | refine T_draw ?_ | refine T_skip ?_ | refine T_exit ?_ | refine T_block ?_ | refine T_cond_t rfl ?_ | refine T_cond_f rfl ?_ | refine wdW_cons rfl ?_ | refine T_ret ?_ | refine leave_of (.inr rfl) _ rfl ?_ | refine leave_of (.inl rfl) _ rfl ?_ | refine wif_intro ?_ (fun hc => ?_) | refine And.intro ?_ ?_ | intro hc) | simp (maxSteps := 4000000) only [wops_nil, wops_cons, wstep_none, wrun_mv, wrun_mks, wop, aop, ev, look, put_some, writes, ores_some, ores_ite_none, thenK, List.map_cons, List.map_nil, List.length_cons, List.length_nil, List.getElem?_cons_zero, List.set_cons_zero, List.nil_append, List.append_nil, List.replicate_zero, List.replicate_succ, List.zipIdx_cons, List.zipIdx_nil, if_true, if_false, Nat.reduceEqDiff, Nat.reduceAdd, Nat.add_zero, Nat.zero_add, reduceCtorEq, eq_self, true_and, *] | simp (disch := omega) only [getD_ints, wrapI] | omega)
    refine T_forH [0, 1, 6, 7] (fun k => [(0, i64 z), (1, rdgs nil l), (6, .lsl 0 0 z), (7, i64 k)]) z (IsZ z) 0 ?_ ?_ (Nat.zero_le _) ?_
    · simp [St.only, get_mk, look]
    · exact ⟨rfl, by rw [tQ_zero]; rfl, fun i hi => by omega⟩
    intro k H hk hH
    by_cases hkz : k < z
    · exact k29l1 hz40 _ k hkz H hH
    · have hke : k = z := by omega
      subst hke
      have hQ : IsQ k (toR (iniM k)) H := by
        refine ⟨by rw [hH.t, tQ_all], fun i hi => ?_⟩
        rw [hH.r i hi, toR_row, iniM_get hi]
      replace hQ := And.intro hQ trivial
      clear hH
      unfold c29l1
      repeat' (first | ((with_reducible refine T_calm ?_ ?_); rfl) | (with_reducible first | refine T_seq ?_ | refine T_reg ?_ | refine T_draw ?_ | refine T_skip ?_ | refine T_exit ?_ | refine T_block ?_ | refine T_cond_t rfl ?_ | refine T_cond_f rfl ?_ | refine wdW_cons rfl ?_ | ((first | refine T_cond rfl (fun hc => ?_) (fun hc => ?_) | refine wguard_split (fun hc => ?_) (fun hc => ?_) | refine wguardX_split (fun hc => ?_) (fun hc => ?_)) <;> have hd := hc <;> (try simp (disch := omega) only [wrapI] at hd) <;> have hs := hd <;> (try simp only [decide_eq_true_eq, decide_eq_false_iff_not, Int.not_lt] at hd) <;> (try simp at hs)) | refine T_ret ?_ | refine leave_of (.inr rfl) _ rfl ?_ | refine leave_of (.inl rfl) _ rfl ?_ | refine wif_intro ?_ (fun hc => ?_) | refine And.intro ?_ ?_ | intro hc) | simp (maxSteps := 4000000) only [wops_nil, wops_cons, wstep_none, wrun_mv, wrun_bin, wop, aop, ev, look, put_some, writes, ores_some, binV, thenK, blockK, List.append_nil, List.replicate_zero, Option.map_some, if_true, if_false, Nat.reduceEqDiff, reduceCtorEq, eq_self, false_and, *] | simp (disch := omega) only [getD_ints, wrapI] | omega)
      refine T_forH [0, 1, 6, 9] (fun m => [(0, i64 k), (1, rdgs nil l), (6, .lsl 0 0 k), (9, i64 m)]) l.length (fun m H => IsQ k (toR (arM (arcsL l l.length) (iniM k) (2 * m))) H) 0 ?_ ?_ (Nat.zero_le _) ?_
      · simp [St.only, get_mk, look]
      · exact hQ.1
      clear hQ
      intro m H2 hm hH2
      by_cases hml : m < l.length
      · have hr := hro.1 m hml
        have hsq := (arM_bd hA.1 (2 * m) (by omega)).1
        have key2 := fun K => k29l2 (nil := nil) hz40 hl (toR_sq hsq) K m hml ⟨⟨by omega, by omega⟩, hr.2.1, hr.2.2.1.1⟩ H2 hH2
        rw [toR_arM hA.1 hN.1 hml] at key2
        exact key2 _
      · have hml2 : m = l.length := by omega
        subst hml2
        have hH3 : IsQ k (toR (arM (arcsL l l.length) (iniM k) (arcsL l l.length).length)) H2 := by rw [hal]; exact hH2
        replace hH3 := And.intro hH3 trivial
        clear hH2
        unfold c29l2
        repeat' (first | ((with_reducible refine T_calm ?_ ?_); rfl) | (with_reducible first | refine T_seq ?_ | refine T_reg ?_ | refine T_draw ?_ | refine T_skip ?_ | refine T_exit ?_ | refine T_block ?_ | refine T_cond_t rfl ?_ | refine T_cond_f rfl ?_ | refine wdW_cons rfl ?_ | ((first | refine T_cond rfl (fun hc => ?_) (fun hc => ?_) | refine wguard_split (fun hc => ?_) (fun hc => ?_) | refine wguardX_split (fun hc => ?_) (fun hc => ?_)) <;> have hd := hc <;> (try simp (disch := omega) only [wrapI] at hd) <;> have hs := hd <;> (try simp only [decide_eq_true_eq, decide_eq_false_iff_not, Int.not_lt] at hd) <;> (try simp at hs)) | refine T_ret ?_ | refine leave_of (.inr rfl) _ rfl ?_ | refine leave_of (.inl rfl) _ rfl ?_ | refine wif_intro ?_ (fun hc => ?_) | refine And.intro ?_ ?_ | intro hc) | simp (maxSteps := 4000000) only [wops_nil, wops_cons, wstep_none, wrun_mv, wrun_bin, wrun_len, wop, aop, ev, look, put_some, writes, ores_some, ores_map, ores_bind, binV, thenK, blockK, intV, lenOf, hget, List.append_nil, List.replicate_zero, Option.pure_def, Option.bind_eq_bind, Option.map_some, if_true, if_false, Nat.reduceEqDiff, Nat.zero_ne_one, reduceCtorEq, eq_self, false_and, *] | simp (disch := omega) only [getD_ints, wrapI] | omega)
        refine T_forH [0, 6, 11] (fun K => [(0, i64 k), (6, .lsl 0 0 k), (11, i64 K)]) k (fun K H => IsQ k (toR (fwK k (arM (arcsL l l.length) (iniM k) (arcsL l l.length).length) K)) H ∧ Stt (arcsL l l.length) k K (fwK k (arM (arcsL l l.length) (iniM k) (arcsL l l.length).length) K) ∧ ∀ i K', K' < K → i < k → 0 ≤ mget (fwK k (arM (arcsL l l.length) (iniM k) (arcsL l l.length).length) (K' + 1)) i i) 0 ?_ ?_ (Nat.zero_le _) ?_
        · simp [St.only, get_mk, look]
        · exact ⟨hH3.1, hbase.1, fun i K' hK' => by omega⟩
        clear hH3
        intro K H4 hK ⟨hQ4, hS4, hD4⟩
        by_cases hKz : K < k
        · refine T_mono (k29l6 hz40 hKz hA.1 hS4 (fun _ _ => False) H4 hQ4) fun e s hs => ?_
          split at hs
          · rename_i hP
            cases e with
            | normal =>
              obtain ⟨q1, q2⟩ := hs
              refine ⟨hKz, ⟨q1, hS4.step hA.1 hKz hz40 hP, fun i K' hK' hi => ?_⟩, q2⟩
              rcases Nat.lt_succ_iff_lt_or_eq.1 hK' with h1 | h1
              · exact hD4 i K' h1 hi
              · subst h1; exact hP i hi
            | _ => exact hs.elim
          · rename_i hP
            obtain ⟨rfl, q4, q5⟩ := hs
            obtain ⟨rfl, rfl⟩ := hno.1 (fun h => hP fun i hi => h i K hKz hi)
            show leave 0 [ARes.tmp 4, ARes.tmp 5] (fun r' H' => r' = AV.tup [AV.sl true 0 [], bl false] ∧ H' = []) .ret s
            exact leave_of (.inr rfl) [.sl true 0 [], bl false] (by simp [resL, resAV, St.get, q4, q5]) ⟨rfl, rfl⟩
        · have hKe : K = k := by omega
          subst hKe
          obtain ⟨rfl, rfl⟩ := hyes.1 (fun i K' h1 h2 => hD4 i K' h1 h2)
          have hfin := fun s h201 h202 => leave_tq2 (s := s) hQ4 (toR_sq hS4.sq) h201 h202
          clear hQ4 hS4 hD4 hyes hno hro hbase hA hN
          unfold c29l6
          repeat' (first | ((with_reducible refine T_calm ?_ ?_); rfl) | (with_reducible first | refine T_seq ?_ | refine T_reg ?_ | refine T_draw ?_ | refine T_skip ?_ | refine T_exit ?_ | refine T_block ?_ | refine T_cond_t rfl ?_ | refine T_cond_f rfl ?_ | refine wdW_cons rfl ?_ | refine T_ret ?_ | refine wif_intro ?_ (fun hc => ?_) | refine And.intro ?_ ?_ | intro hc) | simp (maxSteps := 4000000) only [wops_nil, wops_cons, wstep_none, wrun_mv, wrun_bin, wop, aop, ev, look, put_some, writes, ores_some, binV, thenK, blockK, List.append_nil, List.replicate_zero, Option.map_some, if_true, if_false, Nat.reduceEqDiff, reduceCtorEq, eq_self, false_and, *] | simp (disch := omega) only [getD_ints, wrapI] | omega)
          exact hfin _ rfl rfl
  constructor
  · intro hr
    obtain ⟨P, hP1, hP2⟩ := rest_bound hA hn hr (by omega)
    have hL := (iniM_lb hP2).arM hA hP1 _ (Nat.le_refl _)
    refine key _ _ (fun _ => ⟨rfl, rfl⟩) (fun hneg => (hneg fun i K hK hi => ?_).elim)
    have := (hL.fwK (K + 1) (by omega)).lo i i hi hi
    omega
  · intro hcy
    refine key _ _ (fun hpos => ?_) (fun _ => ⟨rfl, rfl⟩)
    exfalso
    have hS : ∀ K, K ≤ z → Stt (arcsL l l.length) z K (fwK z (arM (arcsL l l.length) (iniM z) (arcsL l l.length).length) K) := by
      intro K
      induction K with
      | zero => intro _; exact hbase
      | succ K ih => intro hK; exact (ih (by omega)).step hA (by omega) (by omega) (fun i hi => hpos i K (by omega) hi)
    obtain ⟨P, hP⟩ := (hS z (Nat.le_refl _)).pot hA (by omega)
    have := pot_no_circle hA hN hn (by omega) (P := fun v => P v.toNat) (fun k hk => hP k hk)
    have := hcy z (Nat.le_refl _)
    omega
end Go.Abs
