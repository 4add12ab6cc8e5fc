import Derived.Test.YtdedhipkncagjaaK518x
set_option linter.all false
set_option linter.unusedVariables false
set_option linter.unusedSimpArgs false
set_option linter.unusedSectionVars false
namespace Go.Abs
open Go.Proofs
/-! TopNeverDigs: no sessions and an error; the widths -/
def wE0 (l : List Sk) (mi : ByteArray) : Int := if sE l ≠ 0 then sE l else mrE mi
set_option maxHeartbeats 8000000 in
theorem k18ze {nil : Bool} {l : List Sk} {mi : ByteArray} (hV : StV l nil 2 (skR l)) (hmi : mi.size < 1000000) (hne : wE0 l mi ≠ 0) : Fn Try.prog 18 [sts nil l, .sl true 0 [], tx mi] (.tup [.sl true 0 [], i64 (wE0 l mi)]) [] := by
  refine fn_of e18 ?_
  have h39 := k39 (b := nil) (m := 2) (plainR_sk l)
  have h41 := k41 (b := nil) (m := 2) (b2 := true) (m2 := 0) (E2 := []) (plainR_sk l) rfl
  have h44 := k44 mi
  have hcall := first29z hV hmi
  rw [if_neg (c := (0 : Int) ≠ 0) (fun h => h rfl)] at hcall
  have d0 : (wE0 l mi != 0) = true := by simp only [bne_iff_ne]; exact hne
  have hc2 : ∀ (H : List Blk) (id x y z u : Nat) (o nl o1 n1 o2 n2' o3 n3 o4 n4 : Bool), H[id]? = some (.cells o nl 1 [[.clo (.func 62) [] [.loc x 0 0]], [.clo (.func 66) [] [.loc z 0 0, .loc y 0 0]], [.clo (.func 69) [] [.loc u 0 0]]]) → H[x]? = some (.cells o1 n1 1 [[.sl nil 2 (skR l)]]) → H[y]? = some (.cells o2 n2' 1 [[.sl nil 2 (skR l)]]) → H[z]? = some (.cells o3 n3 1 [[.sl true 0 []]]) → H[u]? = some (.cells o4 n4 1 [[tx mi]]) → ACall Try.prog 38 [.lsl id 0 3] H fun r H' => r = i64 (wE0 l mi) ∧ Ext H H' := hcall
  replace hc2 := PLift.up hc2
  clear hcall
  generalize wE0 l mi = R at *
  clear hV hne
  unfold c18
  repeat' (first | (with_reducible first | refine T_seq ?_ | refine T_reg ?_ | refine T_skip ?_ | refine T_exit ?_ | refine T_block ?_ | refine T_cond_t rfl ?_ | refine T_cond_f rfl ?_ | (show wcall _ false (.lit (.func (.func 39) _ _)) _ _ _ _; refine wcall_fn (h39) rfl (by simp [plainL, plain, plainR_sk]) ?_) | (show wcall _ false (.lit (.func (.func 41) _ _)) _ _ _ _; refine wcall_fn (h41) rfl (by simp [plainL, plain, plainR, plainR_sk]) ?_) | (show wcall _ false (.lit (.func (.func 44) _ _)) _ _ _ _; refine wcall_fn (h44) rfl (by simp [plainL, plain]) ?_) | refine T_ret ?_ | refine leave_of (.inr rfl) _ rfl ?_ | refine leave_of (.inl rfl) _ rfl ?_ | refine leaveA_of (.inr rfl) _ rfl ?_ | refine leaveA_of (.inl rfl) _ rfl ?_ | refine wif_intro ?_ (fun hc => ?_) | refine And.intro ?_ ?_ | intro hc) | simp (maxSteps := 4000000) only [wops_nil, wops_cons, wstep_none, wrun_call, wrun_mv, wrun_bslice, wop, aop, ev, look, put_some, writes, ores_some, thenK, fillA, putCells, AV.parts, isOne, List.flatten_cons, List.flatten_nil, rowsOf, List.map_cons, List.map_nil, List.length_cons, List.length_nil, List.getElem?_cons_zero, List.set_cons_zero, List.take_succ_cons, List.take_zero, List.take_nil, List.drop_succ_cons, List.drop_zero, List.drop_nil, List.cons_append, List.nil_append, List.append_nil, List.replicate_zero, List.replicate_succ, List.zipIdx_cons, List.zipIdx_nil, List.all_cons, List.all_nil, if_true, if_false, Nat.reduceEqDiff, Nat.reduceAdd, Nat.reduceLeDiff, Nat.add_zero, Nat.zero_add, Nat.mul_one, Nat.le_refl, Nat.zero_ne_one, reduceCtorEq, Bool.and_true, eq_self, true_and, and_self, freeze, lidsL, lids, List.flatMap_cons, List.flatMap_nil, List.all_cons, ren, renL, renR, renB, shiftρ, renR_sk, *] | simp (disch := omega) only [getD_ints, wrapI] | (with_reducible show wcall _ false (.lit (.func (.func 39) _ _)) _ _ _ _; refine wcall_fn (h39) ?_ ?_ ?_; (next => simp [rfyL, rfy, hget, ints, take_rfy, plainR_sk, renR_sk]); (next => simp [plainL, plain, plainR, plainR_sk, renR_sk])) | (with_reducible show wcall _ false (.lit (.func (.func 41) _ _)) _ _ _ _; refine wcall_fn (h41) ?_ ?_ ?_; (next => simp [rfyL, rfy, hget, ints, take_rfy, plainR_sk, renR_sk]); (next => simp [plainL, plain, plainR, plainR_sk, renR_sk])) | (with_reducible show wcall _ false (.lit (.func (.func 44) _ _)) _ _ _ _; refine wcall_fn (h44) ?_ ?_ ?_; (next => simp [rfyL, rfy, hget, ints, take_rfy, plainR_sk, renR_sk]); (next => simp [plainL, plain, plainR, plainR_sk, renR_sk])) | omega)
  refine wcall_raw ((hc2.down _ 0 1 2 3 4 _ _ _ _ _ _ _ _ _ _ rfl rfl rfl rfl rfl).mono ?_)
  rintro r H' ⟨rfl, _⟩
  clear hc2 h39 h41 h44
  repeat' (first | (with_reducible first | refine T_seq ?_ | refine T_reg ?_ | refine T_skip ?_ | refine T_exit ?_ | refine T_block ?_ | refine T_cond_t rfl ?_ | refine T_cond_f rfl ?_ | refine T_ret ?_ | refine leave_of (.inr rfl) _ rfl ?_ | refine leave_of (.inl rfl) _ rfl ?_ | refine leaveA_of (.inr rfl) _ rfl ?_ | refine leaveA_of (.inl rfl) _ rfl ?_ | refine wif_intro ?_ (fun hc => ?_) | refine And.intro ?_ ?_ | intro hc) | simp (maxSteps := 4000000) only [wops_nil, wops_cons, wstep_none, wrun_mv, wrun_bin, get_mk, wop, aop, ev, look, put_some, writes, ores_some, binV, thenK, tupOf, List.append_nil, List.replicate_zero, Option.map_some, if_true, if_false, Nat.reduceEqDiff, reduceCtorEq, eq_self, ren, renL, renR, *] | simp (disch := omega) only [getD_ints, wrapI] | omega)
  all_goals first | rfl
def Wd (l : List Sk) (m k : Nat) : Prop := ∀ j, j < k → (l.getD j sk0).wr.length = m ∧ (l.getD j sk0).nm.size ≤ 30
set_option maxHeartbeats 8000000 in
theorem k4wid {n1 n2 n3 nil : Bool} {l : List Sk} {s : List Ss} {b : ByteArray} {hs ws : List Int} {K : Exit → St → Prop} {bb : Nat} (hl : l.length ≤ 1000) (hl2 : hs.length ≤ 1000)
    (hN : Wd l hs.length l.length → ∀ τ : St, τ.heap = [xB4 true nil l n3 s b] → (τ.only [1, 2, 3]).slots = [(1, ints n1 hs), (2, ints n2 ws), (3, .loc 0 0 0)] → K (.exit 0) τ)
    (hR : ∀ τ : St, τ.get 6 = bl true → K .ret τ) {σ : St} (h0 : (σ.only [1, 2, 3, 7]).slots = [(1, ints n1 hs), (2, ints n2 ws), (3, .loc 0 0 0), (7, i64 (0 : Nat))]) (hH : σ.heap = [xB4 true nil l n3 s b]) :
    T none Try.prog muts 217 bb (.loop c4l0) σ K := by
  refine T_forP [1, 2, 3, 7] (fun k => [(1, ints n1 hs), (2, ints n2 ws), (3, .loc 0 0 0), (7, i64 k)]) l.length (fun k H => H = [xB4 true nil l n3 s b] ∧ Wd l hs.length k) 0 h0 ⟨hH, fun j hj => by omega⟩ (Nat.zero_le _) ?_
  clear h0 hH
  intro k H hk ⟨hHe, hI⟩
  subst hHe
  have hll := skR_len l
  have hlh := (by simp : (hs.map fun x => [i64 x]).length = hs.length)
  replace hR := PLift.up hR
  by_cases hkn : k < l.length
  · have g := skR_get hkn
    have hkc : (k : Int) < (l.length : Int) := by omega
    have hw9 := (by simp : ((l.getD k sk0).wr.map fun x => [i64 x]).length = (l.getD k sk0).wr.length)
    by_cases hw : (l.getD k sk0).wr.length = hs.length
    · have d1 : (((l.getD k sk0).wr.length : Int) != (hs.length : Int)) = false := by rw [hw]; simp
      by_cases hz : 30 < (l.getD k sk0).nm.size
      · have d2 : decide (((l.getD k sk0).nm.size : Int) > 30) = true := decide_eq_true (by omega)
        generalize l.getD k sk0 = t at *
        clear hN hI hw hz
        unfold c4l0
        repeat' (first | ((with_reducible refine T_calm ?_ ?_); rfl) | (with_reducible first | refine T_seq ?_ | refine T_reg ?_ | refine T_draw ?_ | refine T_skip ?_ | refine T_exit ?_ | refine T_block ?_ | refine T_cond_t rfl ?_ | refine T_cond_f rfl ?_ | refine wdW_cons rfl ?_ | refine T_ret ?_ | refine wif_intro ?_ (fun hc => ?_) | refine And.intro ?_ ?_ | intro hc) | simp (maxSteps := 4000000) only [wops_nil, wops_cons, wstep_none, wstep_some, wguard_ff, wrun_mv, wrun_pick, wrun_bin, wrun_load, wrun_faddr, wrun_iaddrS, wrun_len, wrun_lenS, wop, aop, ev, look, put_some, writes, ores_some, ores_ite_none, ores_map, ores_bind, binV, thenK, blockK, intV, lenOf, value, cut, hget, mkAgg, List.length_cons, List.length_nil, List.getElem?_cons_zero, List.take_succ_cons, List.take_zero, List.take_nil, List.drop_succ_cons, List.drop_zero, List.append_nil, List.replicate_zero, List.getD_cons_zero, Option.pure_def, Option.bind_eq_bind, Option.getD_some, Option.map_some, if_true, if_false, Nat.reduceEqDiff, Nat.add_zero, Nat.zero_add, reduceCtorEq, Bool.false_eq_true, eq_self, true_and, and_true, and_self, decide_true, Int.toNat_natCast, *] | simp (disch := omega) only [getD_ints, wrapI] | omega)
        all_goals first | exact hR.down _ rfl
      · have d2 : decide (((l.getD k sk0).nm.size : Int) > 30) = false := decide_eq_false (by omega)
        have fin : PLift (Wd l hs.length (k + 1)) := PLift.up fun j hj => by
          rcases Nat.lt_succ_iff_lt_or_eq.1 hj with h | rfl
          · exact hI j h
          · exact ⟨hw, by omega⟩
        generalize l.getD k sk0 = t at *
        clear hN hI hw hz
        unfold c4l0
        repeat' (first | ((with_reducible refine T_calm ?_ ?_); rfl) | (with_reducible first | refine T_seq ?_ | refine T_reg ?_ | refine T_draw ?_ | refine T_skip ?_ | refine T_exit ?_ | refine T_block ?_ | refine T_cond_t rfl ?_ | refine T_cond_f rfl ?_ | refine wdW_cons rfl ?_ | refine T_ret ?_ | refine wif_intro ?_ (fun hc => ?_) | refine And.intro ?_ ?_ | intro hc) | simp (maxSteps := 4000000) only [wops_nil, wops_cons, wstep_none, wstep_some, wguard_ff, wrun_mv, wrun_pick, wrun_bin, wrun_load, wrun_faddr, wrun_iaddrS, wrun_len, wrun_lenS, wop, aop, ev, look, put_some, writes, ores_some, ores_ite_none, ores_map, ores_bind, binV, thenK, blockK, intV, lenOf, value, cut, hget, mkAgg, List.length_cons, List.length_nil, List.getElem?_cons_zero, List.take_succ_cons, List.take_zero, List.take_nil, List.drop_succ_cons, List.drop_zero, List.append_nil, List.replicate_zero, List.getD_cons_zero, Option.pure_def, Option.bind_eq_bind, Option.getD_some, Option.map_some, if_true, if_false, Nat.reduceEqDiff, Nat.add_zero, Nat.zero_add, reduceCtorEq, Bool.false_eq_true, eq_self, true_and, and_true, and_self, decide_true, Int.toNat_natCast, *] | simp (disch := omega) only [wrapI] | omega)
        all_goals first | exact fin.down | exact hkn | exact ⟨rfl, fin.down⟩ | exact ⟨hkn, ⟨rfl, fin.down⟩, by simp [St.only, get_mk, look]⟩ | (simp [St.only, get_mk, look]; done)
    · have d1 : (((l.getD k sk0).wr.length : Int) != (hs.length : Int)) = true := by simp only [bne_iff_ne]; omega
      generalize l.getD k sk0 = t at *
      clear hN hI hw
      unfold c4l0
      repeat' (first | ((with_reducible refine T_calm ?_ ?_); rfl) | (with_reducible first | refine T_seq ?_ | refine T_reg ?_ | refine T_draw ?_ | refine T_skip ?_ | refine T_exit ?_ | refine T_block ?_ | refine T_cond_t rfl ?_ | refine T_cond_f rfl ?_ | refine wdW_cons rfl ?_ | refine T_ret ?_ | refine wif_intro ?_ (fun hc => ?_) | refine And.intro ?_ ?_ | intro hc) | simp (maxSteps := 4000000) only [wops_nil, wops_cons, wstep_none, wstep_some, wguard_tf, wrun_mv, wrun_pick, wrun_bin, wrun_load, wrun_faddr, wrun_iaddrS, wrun_len, wop, aop, ev, look, put_some, writes, ores_some, ores_ite_none, ores_map, ores_bind, binV, thenK, blockK, intV, lenOf, value, cut, hget, mkAgg, List.length_cons, List.length_nil, List.getElem?_cons_zero, List.take_succ_cons, List.take_zero, List.take_nil, List.drop_succ_cons, List.drop_zero, List.append_nil, List.replicate_zero, List.getD_cons_zero, Option.pure_def, Option.bind_eq_bind, Option.getD_some, Option.map_some, if_true, if_false, Nat.reduceEqDiff, Nat.add_zero, Nat.zero_add, reduceCtorEq, Bool.false_eq_true, eq_self, true_and, and_true, and_self, decide_true, Int.toNat_natCast, *] | simp (disch := omega) only [getD_ints, wrapI] | omega)
      all_goals first | exact hR.down _ rfl
  · have hke : k = l.length := by omega
    subst hke
    have f := PLift.up (hN hI)
    have hkk : decide ((l.length : Int) < (l.length : Int)) = false := by simp
    clear hN hI hkn hR
    unfold c4l0
    repeat' (first | ((with_reducible refine T_calm ?_ ?_); rfl) | (with_reducible first | refine T_seq ?_ | refine T_reg ?_ | refine T_draw ?_ | refine T_skip ?_ | refine T_exit ?_ | refine T_block ?_ | refine T_cond_t rfl ?_ | refine T_cond_f rfl ?_ | refine wdW_cons rfl ?_ | refine T_ret ?_ | refine wif_intro ?_ (fun hc => ?_) | refine And.intro ?_ ?_ | intro hc) | simp (maxSteps := 4000000) only [wops_nil, wops_cons, wstep_none, wrun_mv, wrun_bin, wrun_load, wrun_faddr, wrun_len, wop, aop, ev, look, put_some, writes, ores_some, ores_map, ores_bind, binV, thenK, intV, lenOf, value, cut, hget, mkAgg, List.length_cons, List.length_nil, List.getElem?_cons_zero, List.take_succ_cons, List.take_zero, List.drop_zero, List.append_nil, List.replicate_zero, List.getD_cons_zero, Option.pure_def, Option.bind_eq_bind, Option.getD_some, Option.map_some, if_true, if_false, Nat.reduceEqDiff, Nat.add_zero, Nat.zero_add, reduceCtorEq, Bool.false_eq_true, eq_self, *] | simp (disch := omega) only [getD_ints, wrapI] | omega)
    all_goals first | exact f.down _ rfl (by simp [St.only, get_mk, look])
end Go.Abs
