import Derived.Test.YtpfmamngjefohaaK330x
import Derived.Test.YtpfmamngjefohaaK313
set_option linter.all false
set_option linter.unusedVariables false
set_option linter.unusedSimpArgs false
set_option linter.unusedSectionVars false
namespace Go.Abs
open Go.Proofs
/-! the wear of a plan -/
def pwz (l : List Sk) (mi : List Int) : Nat → Nat → Int
  | 0, _ => 0
  | k + 1, z => pwz l mi k z + mi.getD k 0 * (l.getD k sk0).wr.getD z 0
def tot (xs : List Int) : Nat → Int
  | 0 => 0
  | k + 1 => tot xs k + xs.getD k 0
/-- right minutes -/
structure POk (l : List Sk) (mi : List Int) (den : Int) : Prop where
  len : mi.length = l.length
  den : 1 ≤ den ∧ den ≤ 10000000
  mn : ∀ k, k < mi.length → 0 ≤ mi.getD k 0 ∧ mi.getD k 0 ≤ 1000000000
theorem plE_ok {l : List Sk} {mi : List Int} {den : Int} (h : plE l mi den = 0) : POk l mi den := by
  unfold plE at h
  split at h
  · simp at h
  rename_i h1
  split at h
  · simp at h
  rename_i h2
  split at h
  · simp at h
  rename_i h3
  refine ⟨by simp only [Bool.not_eq_true, bne_eq_false_iff_eq] at h1; omega, by simpa using h2, fun k hk => ?_⟩
  have := any_get (p := outN) (xs := mi) (by simpa using h3) hk
  unfold outN at this
  simpa using this
theorem pwz_bd {l : List Sk} {mi : List Int} {den : Int} (hS : SOk l) (hP : POk l mi den) {z : Nat} (hz : z < (l.getD 0 sk0).wr.length) : ∀ k, k ≤ l.length → 0 ≤ pwz l mi k z ∧ pwz l mi k z ≤ 100000000000 * (k : Int)
  | 0, _ => by simp [pwz]
  | k + 1, hk => by
    have h1 := pwz_bd hS hP hz k (by omega)
    have h4 := mul_bd (hP.mn k (by have := hP.len; omega)) (hS.rng k (by omega) z hz)
    simp only [pwz]
    push_cast; omega
theorem tot_bd {xs : List Int} (h : ∀ k, k < xs.length → 0 ≤ xs.getD k 0 ∧ xs.getD k 0 ≤ 1000000000) : ∀ k, k ≤ xs.length → 0 ≤ tot xs k ∧ tot xs k ≤ 1000000000 * (k : Int)
  | 0, _ => by simp [tot]
  | k + 1, hk => by
    have h1 := tot_bd h k (by omega)
    have h2 := h k (by omega)
    simp only [tot]
    push_cast; omega
set_option maxHeartbeats 8000000 in
theorem k81 (n : Bool) (xs : List Int) (hl : xs.length ≤ 1000) (h : ∀ k, k < xs.length → 0 ≤ xs.getD k 0 ∧ xs.getD k 0 ≤ 1000000000) : Fn Try.prog 81 [ints n xs] (i64 (tot xs xs.length)) [] := by
  refine fn_of e81 ?_
  have hll := (by simp : (xs.map fun x => [i64 x]).length = xs.length)
  have hb := PLift.up (tot_bd h)
  have hh := PLift.up h
  clear h
  unfold c81
  repeat' (first
    | with_reducible first
      | refine T_seq ?_
      | refine T_reg ?_
      | refine T_skip ?_
      | refine T_exit ?_
      | refine T_block ?_
      | refine T_cond_t rfl ?_
      | refine T_cond_f rfl ?_
      | ((first | refine T_cond rfl (fun hc => ?_) (fun hc => ?_) | refine wguard_split (fun hc => ?_) (fun hc => ?_)) <;> have hd := hc <;> (try simp (disch := omega) only [wrapI] at hd) <;> have hs := hd <;> (try simp only [Bool.not_eq_true', Bool.not_eq_false', Bool.and_eq_true, Bool.and_eq_false_iff, Bool.or_eq_true, Bool.or_eq_false_iff, decide_eq_true_eq, decide_eq_false_iff_not, beq_iff_eq, bne_iff_ne, beq_eq_false_iff_ne, bne_eq_false_iff_eq, Bool.not_true, Bool.not_false, gt_iff_lt, ge_iff_le, Int.not_lt, Int.not_le, ne_eq, Decidable.not_not] at hd) <;> (try simp at hs))
      | refine T_ret ?_
      | refine leave_of (.inr rfl) _ rfl ?_
      | refine leave_of (.inl rfl) _ rfl ?_
      | refine leaveA_of (.inr rfl) _ rfl ?_
      | refine leaveA_of (.inl rfl) _ rfl ?_
      | refine wif_intro ?_ (fun hc => ?_)
      | refine And.intro ?_ ?_
      | intro hc
    | simp (maxSteps := 4000000) only [wops_nil, wops_cons, wstep_none, wrun_mv, wrun_len, wop, aop, ev, look, put_some, writes, ores_some, ores_map, ores_bind, thenK, intV, lenOf, hget, List.map_cons, List.map_nil, List.length_nil, List.append_nil, List.replicate_zero, List.zipIdx_cons, List.zipIdx_nil, Option.pure_def, Option.bind_eq_bind, if_true, if_false, Nat.reduceEqDiff, Nat.zero_add, reduceCtorEq, eq_self, *]
    | simp (disch := omega) only [getD_ints, wrapI]
    | omega)
  refine T_forP [3, 6, 7, 8] (fun k => [(3, i64 (tot xs k)), (6, ints n xs), (7, i64 xs.length), (8, i64 k)]) xs.length (fun z H => H = []) 0 ?_ rfl (Nat.zero_le _) ?_
  · simp [St.only, get_mk, look, tot]
  intro z H hz hHe
  subst hHe
  by_cases hzn : z < xs.length
  · have g2 : (xs.map fun x => [i64 x]).getD z [] = [i64 (xs.getD z 0)] := getD_ints hzn
    have h1 := hb.down z (by omega)
    have h2 := hh.down z hzn
    have ew : IntKind.i64.wrap (tot xs z + xs.getD z 0) = tot xs (z + 1) := wrapI (by omega) (by omega)
    generalize tot xs (z + 1) = T2 at *
    generalize tot xs z = T1 at *
    generalize xs.getD z 0 = x at *
    clear hb hh h1 h2
    unfold c81l0
    repeat' (first
      | with_reducible first
        | refine T_seq ?_
        | refine T_reg ?_
        | refine T_skip ?_
        | refine T_exit ?_
        | refine T_block ?_
        | refine T_cond_t rfl ?_
        | refine T_cond_f rfl ?_
        | ((first | refine T_cond rfl (fun hc => ?_) (fun hc => ?_) | refine wguard_split (fun hc => ?_) (fun hc => ?_)) <;> have hd := hc <;> (try simp (disch := omega) only [wrapI] at hd) <;> have hs := hd <;> (try simp only [decide_eq_true_eq, decide_eq_false_iff_not, Int.not_lt] at hd) <;> (try simp at hs))
        | refine T_ret ?_
        | refine leave_of (.inr rfl) _ rfl ?_
        | refine leave_of (.inl rfl) _ rfl ?_
        | refine leaveA_of (.inr rfl) _ rfl ?_
        | refine leaveA_of (.inl rfl) _ rfl ?_
        | refine wif_intro ?_ (fun hc => ?_)
        | refine And.intro ?_ ?_
        | intro hc
      | simp (maxSteps := 4000000) only [wops_nil, wops_cons, wstep_none, wrun_mv, wrun_bin, wrun_load, wrun_iaddrS, get_mk, wop, aop, ev, look, put_some, writes, ores_some, ores_ite_none, binV, thenK, blockK, value, cut, hget, mkAgg, tupOf, List.length_cons, List.length_nil, List.take_succ_cons, List.take_nil, List.drop_zero, List.append_nil, List.replicate_zero, Option.map_some, if_true, if_false, Nat.reduceEqDiff, Nat.zero_add, reduceCtorEq, Bool.false_eq_true, eq_self, true_and, and_true, and_self, decide_true, ren, Int.toNat_natCast, *]
      | simp (disch := omega) only [wrapI]
      | omega)
    all_goals first | rfl | (simp [St.only, get_mk, look]; done)
  · have hze : z = xs.length := by omega
    subst hze
    clear hb hh
    unfold c81l0
    repeat' (first
      | with_reducible first
        | refine T_seq ?_
        | refine T_reg ?_
        | refine T_skip ?_
        | refine T_exit ?_
        | refine T_block ?_
        | refine T_cond_t rfl ?_
        | refine T_cond_f rfl ?_
        | ((first | refine T_cond rfl (fun hc => ?_) (fun hc => ?_) | refine wguard_split (fun hc => ?_) (fun hc => ?_)) <;> have hd := hc <;> (try simp (disch := omega) only [wrapI] at hd) <;> have hs := hd <;> (try simp only [decide_eq_true_eq, decide_eq_false_iff_not, Int.not_lt] at hd) <;> (try simp at hs))
        | refine T_ret ?_
        | refine leave_of (.inr rfl) _ rfl ?_
        | refine leave_of (.inl rfl) _ rfl ?_
        | refine leaveA_of (.inr rfl) _ rfl ?_
        | refine leaveA_of (.inl rfl) _ rfl ?_
        | refine wif_intro ?_ (fun hc => ?_)
        | refine And.intro ?_ ?_
        | intro hc
      | simp (maxSteps := 4000000) only [wops_nil, wops_cons, wstep_none, wrun_mv, wrun_bin, get_mk, wop, aop, ev, look, put_some, writes, ores_some, binV, thenK, blockK, tupOf, List.length_nil, List.append_nil, List.replicate_zero, Option.map_some, if_true, if_false, Nat.reduceEqDiff, reduceCtorEq, eq_self, false_and, ren, Int.toNat_natCast, *]
      | simp (disch := omega) only [getD_ints, wrapI]
      | omega)
    all_goals first | rfl
set_option maxHeartbeats 8000000 in
theorem k82 (nil n : Bool) (l : List Sk) (mi : List Int) (den : Int) (hS : SOk l) (hP : POk l mi den) {y : Nat} (hy : y < (l.getD 0 sk0).wr.length) : Fn Try.prog 82 [sts nil l, plV n mi den, i64 y] (i64 (pwz l mi l.length y)) [] := by
  refine fn_of e82 ?_
  have hll := skR_len l
  have hml := (by simp : (mi.map fun x => [i64 x]).length = mi.length)
  have hb := PLift.up (fun k hk => pwz_bd hS hP hy k hk)
  have hm := PLift.up hP.mn
  have hw := PLift.up (fun k hk => hS.rng k hk y hy)
  have hwn := PLift.up (fun k hk => hS.len k hk)
  have hml2 := hP.len
  have h12 := hS.few
  clear hS hP
  unfold c82
  repeat' (first
    | ((with_reducible refine T_calm ?_ ?_); rfl)
    | with_reducible first
      | refine T_seq ?_
      | refine T_reg ?_
      | refine T_draw ?_
      | refine T_skip ?_
      | refine T_exit ?_
      | refine T_block ?_
      | refine T_cond_t rfl ?_
      | refine T_cond_f rfl ?_
      | refine wdW_cons rfl ?_
      | ((first | refine T_cond rfl (fun hc => ?_) (fun hc => ?_) | refine wguard_split (fun hc => ?_) (fun hc => ?_) | refine wguardX_split (fun hc => ?_) (fun hc => ?_)) <;> have hd := hc <;> (try simp (disch := omega) only [wrapI] at hd) <;> have hs := hd <;> (try simp only [Bool.not_eq_true', Bool.not_eq_false', Bool.and_eq_true, Bool.and_eq_false_iff, Bool.or_eq_true, Bool.or_eq_false_iff, decide_eq_true_eq, decide_eq_false_iff_not, beq_iff_eq, bne_iff_ne, beq_eq_false_iff_ne, bne_eq_false_iff_eq, Bool.not_true, Bool.not_false, gt_iff_lt, ge_iff_le, Int.not_lt, Int.not_le, ne_eq, Decidable.not_not] at hd) <;> (try simp at hs))
      | refine T_ret ?_
      | refine leave_of (.inr rfl) _ rfl ?_
      | refine leave_of (.inl rfl) _ rfl ?_
      | refine leaveA_of (.inr rfl) _ rfl ?_
      | refine leaveA_of (.inl rfl) _ rfl ?_
      | refine wif_intro ?_ (fun hc => ?_)
      | refine And.intro ?_ ?_
      | intro hc
    | simp (maxSteps := 4000000) only [wops_nil, wops_cons, wstep_none, wrun_mv, wrun_box, wop, aop, ev, look, put_some, writes, ores_some, thenK, AV.parts, isOne, List.map_cons, List.map_nil, List.length_cons, List.length_nil, List.getElem?_cons_zero, List.set_cons_zero, List.nil_append, List.append_nil, List.replicate_zero, List.replicate_succ, List.zipIdx_cons, List.zipIdx_nil, List.all_cons, List.all_nil, if_true, if_false, Nat.reduceEqDiff, Nat.reduceAdd, Nat.add_zero, Nat.zero_add, Nat.zero_ne_one, Bool.and_true, eq_self, true_and, and_self, List.all_cons, *]
    | simp (disch := omega) only [getD_ints, wrapI]
    | omega)
  refine T_forP [0, 2, 4, 7, 8] (fun k => [(0, sts nil l), (2, i64 y), (4, .loc 0 0 0), (7, i64 (pwz l mi k y)), (8, i64 k)]) l.length (fun z H => H = [.cells true false 2 [[ints n mi, i64 den]]]) 0 ?_ rfl (Nat.zero_le _) ?_
  · simp [St.only, get_mk, look, pwz]
  intro z H hz hHe
  subst hHe
  by_cases hzn : z < l.length
  · have g1 := skR_get hzn
    have g2 : (mi.map fun x => [i64 x]).getD z [] = [i64 (mi.getD z 0)] := getD_ints (by omega)
    have hwl := (by simp : ((l.getD z sk0).wr.map fun x => [i64 x]).length = (l.getD z sk0).wr.length)
    have hyw : y < (l.getD z sk0).wr.length := by rw [hwn.down z hzn]; exact hy
    have g3 : ((l.getD z sk0).wr.map fun x => [i64 x]).getD y [] = [i64 ((l.getD z sk0).wr.getD y 0)] := getD_ints hyw
    have h1 := hb.down z (by omega)
    have h2 := hm.down z (by omega)
    have h3 := hw.down z hzn
    have h4 := mul_bd h2 h3
    have ew1 : IntKind.i64.wrap (mi.getD z 0 * (l.getD z sk0).wr.getD y 0) = mi.getD z 0 * (l.getD z sk0).wr.getD y 0 := wrapI (by omega) (by omega)
    have ew2 : IntKind.i64.wrap (pwz l mi z y + mi.getD z 0 * (l.getD z sk0).wr.getD y 0) = pwz l mi (z + 1) y := wrapI (by omega) (by omega)
    have hzm : (z : Int) < (mi.length : Int) := by omega
    generalize pwz l mi (z + 1) y = T2 at *
    generalize pwz l mi z y = T1 at *
    generalize (l.getD z sk0).wr.getD y 0 = x at *
    generalize mi.getD z 0 = u at *
    clear hb hm hw hwn h1 h2 h3 h4
    unfold c82l0
    repeat' (first
      | ((with_reducible refine T_calm ?_ ?_); rfl)
      | with_reducible first
        | refine T_seq ?_
        | refine T_reg ?_
        | refine T_draw ?_
        | refine T_skip ?_
        | refine T_exit ?_
        | refine T_block ?_
        | refine T_cond_t rfl ?_
        | refine T_cond_f rfl ?_
        | refine wdW_cons rfl ?_
        | ((first | refine T_cond rfl (fun hc => ?_) (fun hc => ?_) | refine wguard_split (fun hc => ?_) (fun hc => ?_) | refine wguardX_split (fun hc => ?_) (fun hc => ?_)) <;> have hd := hc <;> (try simp (disch := omega) only [wrapI] at hd) <;> have hs := hd <;> (try simp only [decide_eq_true_eq, decide_eq_false_iff_not, Int.not_lt] at hd) <;> (try simp at hs))
        | refine T_ret ?_
        | refine leave_of (.inr rfl) _ rfl ?_
        | refine leave_of (.inl rfl) _ rfl ?_
        | refine leaveA_of (.inr rfl) _ rfl ?_
        | refine leaveA_of (.inl rfl) _ rfl ?_
        | refine wif_intro ?_ (fun hc => ?_)
        | refine And.intro ?_ ?_
        | intro hc
      | simp (maxSteps := 4000000) only [wops_nil, wops_cons, wstep_none, wrun_mv, wrun_bin, wrun_load, wrun_faddr, wrun_iaddrS, wrun_len, get_mk, wop, aop, ev, look, put_some, writes, ores_some, ores_ite_none, ores_map, ores_bind, binV, thenK, blockK, intV, lenOf, value, cut, hget, mkAgg, tupOf, List.map_cons, List.map_nil, List.length_cons, List.length_nil, List.getElem?_cons_zero, List.take_succ_cons, List.take_zero, List.take_nil, List.drop_succ_cons, List.drop_zero, List.append_nil, List.replicate_zero, List.getD_cons_zero, Option.pure_def, Option.bind_eq_bind, Option.getD_some, Option.map_some, if_true, if_false, Nat.reduceEqDiff, Nat.add_zero, Nat.zero_add, reduceCtorEq, Bool.false_eq_true, eq_self, true_and, and_true, and_self, decide_true, ren, Int.toNat_natCast, *]
      | simp (disch := omega) only [wrapI]
      | omega)
    all_goals first | rfl | (simp [St.only, get_mk, look]; done)
  · have hze : z = l.length := by omega
    subst hze
    clear hb hm hw hwn
    unfold c82l0
    repeat' (first
      | ((with_reducible refine T_calm ?_ ?_); rfl)
      | with_reducible first
        | refine T_seq ?_
        | refine T_reg ?_
        | refine T_draw ?_
        | refine T_skip ?_
        | refine T_exit ?_
        | refine T_block ?_
        | refine T_cond_t rfl ?_
        | refine T_cond_f rfl ?_
        | refine wdW_cons rfl ?_
        | ((first | refine T_cond rfl (fun hc => ?_) (fun hc => ?_) | refine wguard_split (fun hc => ?_) (fun hc => ?_) | refine wguardX_split (fun hc => ?_) (fun hc => ?_)) <;> have hd := hc <;> (try simp (disch := omega) only [wrapI] at hd) <;> have hs := hd <;> (try simp only [decide_eq_true_eq, decide_eq_false_iff_not, Int.not_lt] at hd) <;> (try simp at hs))
        | refine T_ret ?_
        | refine leave_of (.inr rfl) _ rfl ?_
        | refine leave_of (.inl rfl) _ rfl ?_
        | refine leaveA_of (.inr rfl) _ rfl ?_
        | refine leaveA_of (.inl rfl) _ rfl ?_
        | refine wif_intro ?_ (fun hc => ?_)
        | refine And.intro ?_ ?_
        | intro hc
      | simp (maxSteps := 4000000) only [wops_nil, wops_cons, wstep_none, wrun_mv, wrun_bin, wrun_len, get_mk, wop, aop, ev, look, put_some, writes, ores_some, ores_map, ores_bind, binV, thenK, blockK, intV, lenOf, hget, tupOf, List.length_cons, List.length_nil, List.append_nil, List.replicate_zero, Option.pure_def, Option.bind_eq_bind, Option.map_some, if_true, if_false, Nat.reduceEqDiff, Nat.zero_add, reduceCtorEq, eq_self, false_and, ren, *]
      | simp (disch := omega) only [getD_ints, wrapI]
      | omega)
    all_goals first | rfl
end Go.Abs
