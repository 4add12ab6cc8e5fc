import Derived.Test.YtodheeifecoebaaK26x
import Derived.Test.YtodheeifecoebaaK269x
import Derived.Test.YtodheeifecoebaaK270
set_option linter.all false
set_option linter.unusedVariables false
set_option linter.unusedSimpArgs false
set_option linter.unusedSectionVars false
namespace Go.Abs
open Go.Proofs
/-! ref.Unwrap: one pair of cells -/
def kn (n : Nat) (o : List Nat) : List (List AV) := (List.range n).map fun c => [bl (decide (c ∈ o))]
theorem kn_len (n : Nat) (o : List Nat) : (kn n o).length = n := by simp [kn]
theorem kn_get {n c : Nat} {o : List Nat} (h : c < n) : (kn n o).getD c [] = [bl (decide (c ∈ o))] := by simp [kn, List.getD_eq_getElem?_getD, h]
theorem kn_set {n c : Nat} {o : List Nat} : (kn n o).set c [bl true] = kn n (o ++ [c]) := by
  refine List.ext_getElem (by simp [kn]) fun i h1 h2 => ?_
  rw [List.getElem_set]
  unfold kn
  by_cases h : c = i
  · subst h; simp
  · rw [if_neg h]; simp; omega
theorem mk_upd {n c : Nat} {h : Nat → Int} {v : Int} : (mk n h).set c v = mk n (upd h c v) := by rw [mk_set]; rfl
abbrev H45 (w : Int) (nil : Bool) (ph : List Int) (o : List Nat) (h : Nat → Int) : List Blk := [.cells true false 2 [[i64 w, ints nil ph]], .cells true false 1 ((mk ph.length h).map fun x => [i64 x]), .cells true false 1 (kn ph.length o)]
abbrev SL45 (n c a b : Nat) (gr : Bool) : List (Nat × AV) := [(1, .loc 0 0 0), (4, .lsl 1 0 n), (5, .lsl 2 0 n), (6, i64 c), (7, bl gr), (8, i64 a), (9, i64 b)]
def newB (w : Int) (ph : List Int) (o : List Nat) (a b : Nat) : Bool := decide (a ∈ o) && !decide (b ∈ o) && edN w ph a b
set_option maxHeartbeats 8000000 in
theorem k45l0 {w : Int} {nil : Bool} {ph : List Int} (hl : ph.length < 1000000) (hp : okPh ph) (hw : 1 ≤ w ∧ w ≤ 1000000) {c a b : Nat} {gr : Bool} {o : List Nat} {h : Nat → Int} (ha : a < ph.length) (hb : b < ph.length) (hB : -1000000000 ≤ h a ∧ h a ≤ 1000000000) (K : Exit → St → Prop) :
    T none Try.prog muts 137 0 c45l0 ⟨SL45 ph.length c a b gr, H45 w nil ph o h⟩ (thenK (fun s' => s'.only [1, 4, 5, 6, 7, 8, 9] = ⟨SL45 ph.length c a (b + 1) (gr || newB w ph o a b), if newB w ph o a b then H45 w nil ph (o ++ [b]) (upd h b (h a + stN ph a b)) else H45 w nil ph o h⟩) K) := by
  have h64 := k64 w nil ph a b hl hp hw
  have hst := stepI_r ph a b
  have hk1 := kn_get (o := o) ha
  have hk2 := kn_get (o := o) hb
  have hm : ((mk ph.length h).map fun x => [i64 x]).getD a [] = [i64 (h a)] := by rw [getD_ints (by rw [mk_len]; exact ha), mk_get ha]
  have hml := mk_len ph.length h
  have hkl := kn_len ph.length o
  have ew : IntKind.i64.wrap (h a + stepI ph a b) = h a + stepI ph a b := wrapI (by omega) (by omega)
  have hnew : newB w ph o a b = (decide (a ∈ o) && !decide (b ∈ o) && decide ((refStep w ph a b).2 = 0)) := by
    unfold newB edN refStep
    rw [there_eq hp, there_eq hp]
    cases thereB ph (a : Int) <;> cases thereB ph (b : Int) <;> cases besideB w (a : Int) (b : Int) <;> simp
  have hstp : (refStep w ph a b).2 = 0 → (refStep w ph a b).1 = stepI ph a b := by
    unfold refStep
    split
    · split
      · intro _; rfl
      · intro h; simp at h
    · intro h; simp at h
  have es1 : ∀ v, ((mk ph.length h).map fun x => [i64 x]).set b [i64 v] = (mk ph.length (upd h b v)).map fun x => [i64 x] := fun v => by rw [← mk_upd, List.map_set]
  have es2 : (kn ph.length o).set b [bl true] = kn ph.length (o ++ [b]) := kn_set
  unfold H45
  have hst0 : stN ph a b = stepI ph a b := rfl
  rw [hst0]
  clear hp
  generalize hq : refStep w ph a b = q at *
  obtain ⟨s, e⟩ := q
  dsimp only at *
  have fin : ∀ x : Bool, newB w ph o a b = x → newB w ph o a b = x := fun _ h => h
  cases d1 : decide (a ∈ o) with
  | false =>
    rw [d1] at hk1 hnew
    simp only [Bool.false_and] at hnew
    rw [hnew]
    simp only [Bool.or_false, Bool.false_eq_true, if_false]
    clear es1 es2 hstp fin hnew
    generalize kn ph.length o = KN at *
    unfold c45l0
    repeat' (first
      | ((with_reducible refine T_calm ?_ ?_); rfl)
      | with_reducible first
        | refine T_seq ?_
        | refine T_reg ?_
        | refine T_draw ?_
        | refine T_skip ?_
        | refine T_exit ?_
        | refine T_block ?_
        | refine T_cond_t rfl ?_
        | refine T_cond_f rfl ?_
        | refine wdW_cons rfl ?_
        | (show wcall _ false (.lit (.func (.func 64) _ _)) _ _ _ _; refine wcall_fn (h64) rfl (by simp [plainL, plain]) ?_)
        | (show wcallX _ false (.lit (.func (.func 64) _ _)) _ _ _ _; refine wcallX_fn (h64) rfl (by simp [plainL, plain, plainR, Int.toNat_natCast]) ?_)
        | ((first | refine T_cond rfl (fun hc => ?_) (fun hc => ?_) | refine wguard_split (fun hc => ?_) (fun hc => ?_) | refine wguardX_split (fun hc => ?_) (fun hc => ?_)) <;> have hd := hc <;> (try simp (disch := omega) only [wrapI] at hd) <;> have hs := hd <;> (try simp only [decide_eq_true_eq, decide_eq_false_iff_not, Int.not_lt] at hd) <;> (try simp at hs))
        | refine T_ret ?_
        | refine leave_of (.inr rfl) _ rfl ?_
        | refine leave_of (.inl rfl) _ rfl ?_
        | refine leaveA_of (.inr rfl) _ rfl ?_
        | refine leaveA_of (.inl rfl) _ rfl ?_
        | refine wif_intro ?_ (fun hc => ?_)
        | refine And.intro ?_ ?_
        | intro hc
      | simp (maxSteps := 4000000) only [wops_nil, wops_cons, wstep_none, wstep_some, wguard_ft, wrun_call, wrun_mv, wrun_pick, wrun_bin, wrun_ext, wrun_load, wrun_iaddrS, wrun_len, wop, aop, ev, look, put_some, writes, ores_some, ores_ite_none, ores_map, ores_bind, binV, thenK, blockK, intV, lenOf, value, cut, hget, toLits, mkAgg, List.map_cons, List.map_nil, List.length_cons, List.length_nil, List.getElem?_cons_zero, List.getElem?_cons_succ, List.take_succ_cons, List.take_nil, List.drop_zero, List.append_nil, List.replicate_zero, List.getD_cons_zero, Option.pure_def, Option.bind_eq_bind, Option.getD_some, Option.map_some, Option.map_none, if_true, if_false, Nat.reduceEqDiff, Nat.reduceAdd, Nat.zero_add, reduceCtorEq, Bool.false_eq_true, eq_self, and_true, decide_true, freeze, lidsL, lids, List.flatMap_cons, List.flatMap_nil, ren, renL, Int.toNat_natCast, *]
      | simp (disch := omega) only [wrapI]
      | (with_reducible show wcall _ false (.lit (.func (.func 64) _ _)) _ _ _ _; refine wcall_fn (h64) ?_ ?_ ?_; (next => simp [rfyL, rfy, hget, ints, take_rfy, Int.toNat_natCast]); (next => simp [plainL, plain, plainR, Int.toNat_natCast]))
      | (with_reducible show wcallX _ false (.lit (.func (.func 64) _ _)) _ _ _ _; refine wcallX_fn (h64) ?_ ?_ ?_; (next => simp [rfyL, rfy, hget, ints, take_rfy, Int.toNat_natCast]); (next => simp [plainL, plain, plainR, Int.toNat_natCast]))
      | omega)
    all_goals first | (simp [St.only, get_mk, look]; done)
  | true =>
    cases d2 : decide (b ∈ o) with
    | true =>
      rw [d1] at hk1 hnew
      rw [d2] at hk2 hnew
      simp only [Bool.not_true, Bool.and_false, Bool.false_and] at hnew
      rw [hnew]
      simp only [Bool.or_false, Bool.false_eq_true, if_false]
      clear es1 es2 hstp fin hnew
      generalize kn ph.length o = KN at *
      unfold c45l0
      repeat' (first
        | ((with_reducible refine T_calm ?_ ?_); rfl)
        | with_reducible first
          | refine T_seq ?_
          | refine T_reg ?_
          | refine T_draw ?_
          | refine T_skip ?_
          | refine T_exit ?_
          | refine T_block ?_
          | refine T_cond_t rfl ?_
          | refine T_cond_f rfl ?_
          | refine wdW_cons rfl ?_
          | (show wcall _ false (.lit (.func (.func 64) _ _)) _ _ _ _; refine wcall_fn (h64) rfl (by simp [plainL, plain]) ?_)
          | (show wcallX _ false (.lit (.func (.func 64) _ _)) _ _ _ _; refine wcallX_fn (h64) rfl (by simp [plainL, plain, plainR, Int.toNat_natCast]) ?_)
          | ((first | refine T_cond rfl (fun hc => ?_) (fun hc => ?_) | refine wguard_split (fun hc => ?_) (fun hc => ?_) | refine wguardX_split (fun hc => ?_) (fun hc => ?_)) <;> have hd := hc <;> (try simp (disch := omega) only [wrapI] at hd) <;> have hs := hd <;> (try simp only [decide_eq_true_eq, decide_eq_false_iff_not, Int.not_lt] at hd) <;> (try simp at hs))
          | refine T_ret ?_
          | refine leave_of (.inr rfl) _ rfl ?_
          | refine leave_of (.inl rfl) _ rfl ?_
          | refine leaveA_of (.inr rfl) _ rfl ?_
          | refine leaveA_of (.inl rfl) _ rfl ?_
          | refine wif_intro ?_ (fun hc => ?_)
          | refine And.intro ?_ ?_
          | intro hc
        | simp (maxSteps := 4000000) only [wops_nil, wops_cons, wstep_none, wstep_some, wguard_true, wguard_ft, wrun_call, wrun_mv, wrun_pick, wrun_bin, wrun_not, wrun_ext, wrun_load, wrun_iaddrS, wrun_len, wop, aop, ev, look, put_some, writes, ores_some, ores_ite_none, ores_map, ores_bind, binV, thenK, blockK, boolV, intV, lenOf, value, cut, hget, toLits, mkAgg, List.map_cons, List.map_nil, List.length_cons, List.length_nil, List.getElem?_cons_zero, List.getElem?_cons_succ, List.take_succ_cons, List.take_nil, List.drop_zero, List.append_nil, List.replicate_zero, List.getD_cons_zero, Option.pure_def, Option.bind_eq_bind, Option.getD_some, Option.map_some, Option.map_none, if_true, if_false, Nat.reduceEqDiff, Nat.reduceAdd, Nat.zero_add, reduceCtorEq, Bool.not_true, Bool.false_eq_true, eq_self, and_true, and_self, decide_true, freeze, lidsL, lids, List.flatMap_cons, List.flatMap_nil, ren, renL, Int.toNat_natCast, *]
        | simp (disch := omega) only [wrapI]
        | (with_reducible show wcall _ false (.lit (.func (.func 64) _ _)) _ _ _ _; refine wcall_fn (h64) ?_ ?_ ?_; (next => simp [rfyL, rfy, hget, ints, take_rfy, Int.toNat_natCast]); (next => simp [plainL, plain, plainR, Int.toNat_natCast]))
        | (with_reducible show wcallX _ false (.lit (.func (.func 64) _ _)) _ _ _ _; refine wcallX_fn (h64) ?_ ?_ ?_; (next => simp [rfyL, rfy, hget, ints, take_rfy, Int.toNat_natCast]); (next => simp [plainL, plain, plainR, Int.toNat_natCast]))
        | omega)
      all_goals first | (simp [St.only, get_mk, look]; done)
    | false =>
      rw [d1] at hk1 hnew
      rw [d2] at hk2 hnew
      simp only [Bool.not_false, Bool.and_true, Bool.true_and] at hnew
      by_cases he : e = 0
      · rw [decide_eq_true he] at hnew
        rw [hnew]
        simp only [Bool.or_true, if_true]
        have hs := hstp he
        subst he
        subst hs
        have es1' := es1 (h a + stepI ph a b)
        rw [← es1', ← es2]
        clear es1 es1' es2 hstp fin hnew hq
        generalize kn ph.length o = KN at *
        generalize mk ph.length h = L at *
        generalize stepI ph a b = s at *
        generalize h a = u at *
        unfold c45l0
        repeat' (first
          | ((with_reducible refine T_calm ?_ ?_); rfl)
          | with_reducible first
            | refine T_seq ?_
            | refine T_reg ?_
            | refine T_draw ?_
            | refine T_skip ?_
            | refine T_exit ?_
            | refine T_block ?_
            | refine T_cond_t rfl ?_
            | refine T_cond_f rfl ?_
            | refine wdW_cons rfl ?_
            | (show wcall _ false (.lit (.func (.func 64) _ _)) _ _ _ _; refine wcall_fn (h64) rfl (by simp [plainL, plain]) ?_)
            | (show wcallX _ false (.lit (.func (.func 64) _ _)) _ _ _ _; refine wcallX_fn (h64) rfl (by simp [plainL, plain, plainR, Int.toNat_natCast]) ?_)
            | ((first | refine T_cond rfl (fun hc => ?_) (fun hc => ?_) | refine wguard_split (fun hc => ?_) (fun hc => ?_) | refine wguardX_split (fun hc => ?_) (fun hc => ?_)) <;> have hd := hc <;> (try simp (disch := omega) only [wrapI] at hd) <;> have hs := hd <;> (try simp only [decide_eq_true_eq, decide_eq_false_iff_not, Int.not_lt] at hd) <;> (try simp at hs))
            | refine T_ret ?_
            | refine leave_of (.inr rfl) _ rfl ?_
            | refine leave_of (.inl rfl) _ rfl ?_
            | refine leaveA_of (.inr rfl) _ rfl ?_
            | refine leaveA_of (.inl rfl) _ rfl ?_
            | refine wif_intro ?_ (fun hc => ?_)
            | refine And.intro ?_ ?_
            | intro hc
          | simp (maxSteps := 4000000) only [wops_nil, wops_cons, wstep_none, wstep_some, wguard_true, wrun_call, wrun_mv, wrun_pick, wrun_bin, wrun_not, wrun_ext, wrun_load, wrun_store, wrun_iaddrS, wrun_len, wop, aop, ev, look, put_some, put_none, writes, ores_some, ores_ite_none, ores_map, ores_bind, binV, thenK, blockK, boolV, intV, lenOf, value, cut, hget, putCells, AV.parts, isOne, toLits, mkAgg, List.map_cons, List.map_nil, List.length_cons, List.length_nil, List.getElem?_cons_zero, List.getElem?_cons_succ, List.set_cons_zero, List.set_cons_succ, List.take_succ_cons, List.take_zero, List.take_nil, List.drop_succ_cons, List.drop_zero, List.drop_nil, List.cons_append, List.nil_append, List.append_nil, List.append_assoc, List.replicate_zero, List.getD_cons_zero, List.all_cons, List.all_nil, List.length_map, Option.pure_def, Option.bind_eq_bind, Option.getD_some, Option.map_some, Option.map_none, if_true, if_false, Nat.reduceEqDiff, Nat.reduceAdd, Nat.zero_add, Nat.le_refl, reduceCtorEq, Bool.not_false, Bool.and_true, Bool.false_eq_true, eq_self, true_and, and_true, and_self, decide_true, beq_self_eq_true, freeze, lidsL, lids, List.flatMap_cons, List.flatMap_nil, List.all_cons, ren, renL, Int.toNat_natCast, *]
          | simp (disch := omega) only [getD_ints, wrapI]
          | (with_reducible show wcall _ false (.lit (.func (.func 64) _ _)) _ _ _ _; refine wcall_fn (h64) ?_ ?_ ?_; (next => simp [rfyL, rfy, hget, ints, take_rfy, Int.toNat_natCast]); (next => simp [plainL, plain, plainR, Int.toNat_natCast]))
          | (with_reducible show wcallX _ false (.lit (.func (.func 64) _ _)) _ _ _ _; refine wcallX_fn (h64) ?_ ?_ ?_; (next => simp [rfyL, rfy, hget, ints, take_rfy, Int.toNat_natCast]); (next => simp [plainL, plain, plainR, Int.toNat_natCast]))
          | omega)
        all_goals first | (simp [St.only, get_mk, look]; done)
      · rw [decide_eq_false he] at hnew
        rw [hnew]
        simp only [Bool.or_false, Bool.false_eq_true, if_false]
        have heb : (e == 0) = false := by simp only [beq_eq_false_iff_ne]; exact he
        clear es1 es2 hstp fin hnew he
        generalize kn ph.length o = KN at *
        unfold c45l0
        repeat' (first
          | ((with_reducible refine T_calm ?_ ?_); rfl)
          | with_reducible first
            | refine T_seq ?_
            | refine T_reg ?_
            | refine T_draw ?_
            | refine T_skip ?_
            | refine T_exit ?_
            | refine T_block ?_
            | refine T_cond_t rfl ?_
            | refine T_cond_f rfl ?_
            | refine wdW_cons rfl ?_
            | (show wcall _ false (.lit (.func (.func 64) _ _)) _ _ _ _; refine wcall_fn (h64) rfl (by simp [plainL, plain]) ?_)
            | (show wcallX _ false (.lit (.func (.func 64) _ _)) _ _ _ _; refine wcallX_fn (h64) rfl (by simp [plainL, plain, plainR, Int.toNat_natCast]) ?_)
            | ((first | refine T_cond rfl (fun hc => ?_) (fun hc => ?_) | refine wguard_split (fun hc => ?_) (fun hc => ?_) | refine wguardX_split (fun hc => ?_) (fun hc => ?_)) <;> have hd := hc <;> (try simp (disch := omega) only [wrapI] at hd) <;> have hs := hd <;> (try simp only [decide_eq_true_eq, decide_eq_false_iff_not, Int.not_lt] at hd) <;> (try simp at hs))
            | refine T_ret ?_
            | refine leave_of (.inr rfl) _ rfl ?_
            | refine leave_of (.inl rfl) _ rfl ?_
            | refine leaveA_of (.inr rfl) _ rfl ?_
            | refine leaveA_of (.inl rfl) _ rfl ?_
            | refine wif_intro ?_ (fun hc => ?_)
            | refine And.intro ?_ ?_
            | intro hc
          | simp (maxSteps := 4000000) only [wops_nil, wops_cons, wstep_none, wstep_some, wguard_true, wrun_call, wrun_mv, wrun_pick, wrun_bin, wrun_not, wrun_ext, wrun_load, wrun_iaddrS, wrun_len, wop, aop, ev, look, put_some, writes, ores_some, ores_ite_none, ores_map, ores_bind, binV, thenK, blockK, boolV, intV, lenOf, value, cut, hget, toLits, mkAgg, List.map_cons, List.map_nil, List.length_cons, List.length_nil, List.getElem?_cons_zero, List.getElem?_cons_succ, List.take_succ_cons, List.take_nil, List.drop_zero, List.append_nil, List.replicate_zero, List.getD_cons_zero, Option.pure_def, Option.bind_eq_bind, Option.getD_some, Option.map_some, Option.map_none, if_true, if_false, Nat.reduceEqDiff, Nat.reduceAdd, Nat.zero_add, reduceCtorEq, Bool.not_false, Bool.false_eq_true, eq_self, and_true, and_self, decide_true, freeze, lidsL, lids, List.flatMap_cons, List.flatMap_nil, ren, renL, Int.toNat_natCast, *]
          | simp (disch := omega) only [wrapI]
          | (with_reducible show wcall _ false (.lit (.func (.func 64) _ _)) _ _ _ _; refine wcall_fn (h64) ?_ ?_ ?_; (next => simp [rfyL, rfy, hget, ints, take_rfy, Int.toNat_natCast]); (next => simp [plainL, plain, plainR, Int.toNat_natCast]))
          | (with_reducible show wcallX _ false (.lit (.func (.func 64) _ _)) _ _ _ _; refine wcallX_fn (h64) ?_ ?_ ?_; (next => simp [rfyL, rfy, hget, ints, take_rfy, Int.toNat_natCast]); (next => simp [plainL, plain, plainR, Int.toNat_natCast]))
          | omega)
        all_goals first | (simp [St.only, get_mk, look]; done)
end Go.Abs
