import Derived.Test.YtpfmamngjefohaaK6x
import Derived.Test.YtpfmamngjefohaaK5x
set_option linter.all false
set_option linter.unusedVariables false
set_option linter.unusedSimpArgs false
set_option linter.unusedSectionVars false
namespace Go.Abs
open Go.Proofs
/-! the program's CheckGrits -/
structure J45 (l : List Gr) (k : Nat) (H : List Blk) : Prop where
  m : ∃ es, H[0]? = some (.obj (.smap .str es)) ∧ Seen (fun b => ∃ j, j < k ∧ eqT (l.getD j gr0).nm b = true) es
abbrev SL45 (nil : Bool) (l : List Gr) (k : Nat) : List (Nat × AV) := [(3, .mp 0), (10, gts nil l), (11, i64 l.length), (12, i64 k)]
set_option maxHeartbeats 8000000 in
theorem k45l0 {nil : Bool} {l : List Gr} (hl : l.length < 1000000) (hsz : ∀ k, k < l.length → (l.getD k gr0).nm.size ≤ 30) {k : Nat} (hk : k < l.length) {H : List Blk} (hJ : J45 l k H) (K : Exit → St → Prop)
    (hE : gErr l k ≠ 0 → ∀ τ : St, τ.get 2 = i64 (gErr l k) → K .ret τ) :
    T none Try.prog muts 38 0 c45l0 ⟨SL45 nil l k, H⟩ (thenK (fun s' => gErr l k = 0 ∧ J45 l (k + 1) s'.heap ∧ (s'.only [3, 10, 11, 12]).slots = SL45 nil l (k + 1)) K) := by
  have hll := gR_len l
  have g1 := gR_get hk
  obtain ⟨es, hm, hs⟩ := hJ
  have h86 := k86 (l.getD k gr0).nm (by have := hsz k hk; omega)
  have h80a := k80 (l.getD k gr0).dm 0 1000000
  have h80b := k80 (l.getD k gr0).rt 1 100000
  have hkc : ((k : Int) < (l.length : Int)) := by omega
  obtain ⟨u1, u2, u3, u4⟩ := cells_sub (X := []) (H := H) rfl
  have a0 := at_in hm
  have l0 := (List.getElem?_eq_some_iff.1 hm).1
  have h87 := fun Y => k87 (b := (l.getD k gr0).nm) (a0 Y) hs
  have hseen : ∀ Bk, J45 l (k + 1) ((H ++ [Bk]).set 0 (.obj (.smap .str (mput (.string (l.getD k gr0).nm) (.bool true) es)))) := fun Bk =>
    ⟨_, List.getElem?_set_self (by rw [List.length_append]; omega), hs.put _ fun b' => by
      constructor
      · rintro ⟨j, hj, he⟩
        rcases Nat.lt_succ_iff_lt_or_eq.1 hj with h | rfl
        · exact .inl ⟨j, h, he⟩
        · exact .inr he
      · rintro (⟨j, hj, he⟩ | he)
        · exact ⟨j, by omega, he⟩
        · exact ⟨k, by omega, he⟩⟩
  have hd1 : mfind (.string (l.getD k gr0).nm) es = some (.bool true) → gDup l k = true := fun h => by
    rcases hs (l.getD k gr0).nm with ⟨_, h2⟩ | ⟨h1, _⟩
    · exact decide_eq_true h2
    · rw [h] at h1; simp at h1
  have hd2 : mfind (.string (l.getD k gr0).nm) es = none → gDup l k = false := fun h => by
    rcases hs (l.getD k gr0).nm with ⟨h1, _⟩ | ⟨_, h2⟩
    · rw [h] at h1; simp at h1
    · exact decide_eq_false h2
  have hre : gErr l k = if nmB (l.getD k gr0).nm = false then 4 else if gDup l k = true then 5 else if ((decide (0 ≤ (l.getD k gr0).dm) && decide ((l.getD k gr0).dm ≤ 1000000)) && (decide (1 ≤ (l.getD k gr0).rt) && decide ((l.getD k gr0).rt ≤ 100000))) = false then 2 else 0 := rfl
  replace h87 := PLift.up h87
  replace hseen := PLift.up hseen
  replace hd1 := PLift.up hd1
  replace hd2 := PLift.up hd2
  generalize gErr l k = E at *
  clear hm hs hsz
  cases a1 : nmB (l.getD k gr0).nm with
  | false =>
    rw [a1] at h86 hre
    rw [if_pos rfl] at hre
    subst hre
    have f := PLift.up (hE (by simp))
    clear hE h80a h80b hseen hd1 hd2 h87 a1
    unfold c45l0
    repeat' (first
      | with_reducible first
        | refine T_seq ?_
        | refine T_reg ?_
        | refine T_skip ?_
        | refine T_exit ?_
        | refine T_block ?_
        | refine T_cond_t rfl ?_
        | refine T_cond_f rfl ?_
        | (show wcall _ false (.lit (.func (.func 86) _ _)) _ _ _ _; refine wcall_fn (h86) rfl (by simp [plainL, plain]) ?_)
        | ((first | refine T_cond rfl (fun hc => ?_) (fun hc => ?_) | refine wguard_split (fun hc => ?_) (fun hc => ?_)) <;> have hd := hc <;> (try simp (disch := omega) only [wrapI] at hd) <;> have hs := hd <;> (try simp only [Bool.not_eq_true', Bool.not_eq_false', Bool.and_eq_true, Bool.and_eq_false_iff, Bool.or_eq_true, Bool.or_eq_false_iff, decide_eq_true_eq, decide_eq_false_iff_not, beq_iff_eq, bne_iff_ne, beq_eq_false_iff_ne, bne_eq_false_iff_eq, Bool.not_true, Bool.not_false, gt_iff_lt, ge_iff_le, Int.not_lt, Int.not_le, ne_eq, Decidable.not_not] at hd) <;> (try simp at hs))
        | refine T_ret ?_
        | refine wif_intro ?_ (fun hc => ?_)
        | refine And.intro ?_ ?_
        | intro hc
      | simp (maxSteps := 4000000) only [wops_nil, wops_cons, wstep_none, wrun_call, wrun_mv, wrun_bin, wrun_not, wrun_load, wrun_store, wrun_faddr, wrun_iaddrS, wrun_alloc, wop, aop, ev, look, put_some, put_none, writes, ores_some, ores_ite_none, binV, thenK, blockK, boolV, value, cut, hget, putCells, AV.parts, isOne, toLits, mkAgg, ofValue_int, ofValue_str, List.map_cons, List.map_nil, List.length_cons, List.length_nil, List.getElem?_cons_zero, List.set_cons_zero, List.take_succ_cons, List.take_zero, List.take_nil, List.drop_succ_cons, List.drop_zero, List.drop_nil, List.nil_append, List.append_nil, List.append_assoc, List.replicate_zero, List.replicate_succ, List.getD_cons_zero, List.all_cons, List.all_nil, List.length_append, Option.getD_some, Option.map_some, if_true, if_false, Nat.reduceEqDiff, Nat.reduceAdd, Nat.reduceLT, Nat.add_zero, Nat.zero_add, Nat.le_refl, reduceCtorEq, Bool.not_false, Bool.and_true, Bool.false_eq_true, eq_self, true_and, and_true, and_self, decide_true, freeze, lidsL, lids, List.flatMap_cons, List.flatMap_nil, List.all_cons, ren, Int.toNat_natCast, *]
      | simp (disch := omega) only [getD_ints, wrapI]
      | (with_reducible show wcall _ false (.lit (.func (.func 86) _ _)) _ _ _ _; refine wcall_fn (h86) ?_ ?_ ?_; (next => simp [rfyL, rfy, hget, ints, take_rfy, Int.toNat_natCast]); (next => simp [plainL, plain, plainR, Int.toNat_natCast]))
      | omega)
    all_goals first | exact f.down _ rfl
  | true =>
    rw [a1] at h86 hre
    rw [if_neg (by simp)] at hre
    replace hE := PLift.up hE
    replace hre := PLift.up hre
    clear a1
    unfold c45l0
    repeat' (first
      | with_reducible first
        | refine T_seq ?_
        | refine T_reg ?_
        | refine T_skip ?_
        | refine T_exit ?_
        | refine T_block ?_
        | refine T_cond_t rfl ?_
        | refine T_cond_f rfl ?_
        | (show wcall _ false (.lit (.func (.func 86) _ _)) _ _ _ _; refine wcall_fn (h86) rfl (by simp [plainL, plain]) ?_)
        | ((first | refine T_cond rfl (fun hc => ?_) (fun hc => ?_) | refine wguard_split (fun hc => ?_) (fun hc => ?_)) <;> have hd := hc <;> (try simp (disch := omega) only [wrapI] at hd) <;> have hs := hd <;> (try simp only [Bool.not_eq_true', Bool.not_eq_false', Bool.and_eq_true, Bool.and_eq_false_iff, Bool.or_eq_true, Bool.or_eq_false_iff, decide_eq_true_eq, decide_eq_false_iff_not, beq_iff_eq, bne_iff_ne, beq_eq_false_iff_ne, bne_eq_false_iff_eq, Bool.not_true, Bool.not_false, gt_iff_lt, ge_iff_le, Int.not_lt, Int.not_le, ne_eq, Decidable.not_not] at hd) <;> (try simp at hs))
        | refine T_ret ?_
        | refine wif_intro ?_ (fun hc => ?_)
        | refine And.intro ?_ ?_
        | intro hc
      | simp (maxSteps := 4000000) only [wops_nil, wops_cons, wstep_none, wrun_call, wrun_mv, wrun_bin, wrun_not, wrun_load, wrun_store, wrun_faddr, wrun_iaddrS, wrun_alloc, wop, aop, ev, look, put_some, put_none, writes, ores_some, ores_ite_none, binV, thenK, boolV, value, cut, hget, putCells, AV.parts, isOne, toLits, mkAgg, ofValue_int, ofValue_str, List.map_cons, List.map_nil, List.length_cons, List.length_nil, List.getElem?_cons_zero, List.set_cons_zero, List.take_succ_cons, List.take_zero, List.take_nil, List.drop_succ_cons, List.drop_zero, List.drop_nil, List.nil_append, List.append_nil, List.append_assoc, List.replicate_zero, List.replicate_succ, List.getD_cons_zero, List.all_cons, List.all_nil, List.length_append, Option.getD_some, Option.map_some, if_true, if_false, Nat.reduceEqDiff, Nat.reduceAdd, Nat.reduceLT, Nat.add_zero, Nat.zero_add, Nat.le_refl, reduceCtorEq, Bool.not_true, Bool.and_true, Bool.false_eq_true, eq_self, true_and, and_true, and_self, decide_true, freeze, lidsL, lids, List.flatMap_cons, List.flatMap_nil, List.all_cons, ren, Int.toNat_natCast, *]
      | simp (disch := omega) only [getD_ints, wrapI]
      | (with_reducible show wcall _ false (.lit (.func (.func 86) _ _)) _ _ _ _; refine wcall_fn (h86) ?_ ?_ ?_; (next => simp [rfyL, rfy, hget, ints, take_rfy, Int.toNat_natCast]); (next => simp [plainL, plain, plainR, Int.toNat_natCast]))
      | omega)
    refine wcall_raw ((h87.down _).mono fun r H' hQ => ?_)
    rcases hQ with ⟨hf, rfl, rfl⟩ | ⟨hf, rfl, rfl⟩
    · have h5 := hre.down
      rw [hd1.down hf, if_pos rfl] at h5
      subst h5
      have f := PLift.up (hE.down (by simp))
      clear hE hre hseen hd1 hd2 h87 hf h80a h80b
      repeat' (first
        | with_reducible first
          | refine T_seq ?_
          | refine T_reg ?_
          | refine T_skip ?_
          | refine T_exit ?_
          | refine T_block ?_
          | refine T_cond_t rfl ?_
          | refine T_cond_f rfl ?_
          | ((first | refine T_cond rfl (fun hc => ?_) (fun hc => ?_) | refine wguard_split (fun hc => ?_) (fun hc => ?_)) <;> have hd := hc <;> (try simp (disch := omega) only [wrapI] at hd) <;> have hs := hd <;> (try simp only [Bool.not_eq_true', Bool.not_eq_false', Bool.and_eq_true, Bool.and_eq_false_iff, Bool.or_eq_true, Bool.or_eq_false_iff, decide_eq_true_eq, decide_eq_false_iff_not, beq_iff_eq, bne_iff_ne, beq_eq_false_iff_ne, bne_eq_false_iff_eq, Bool.not_true, Bool.not_false, gt_iff_lt, ge_iff_le, Int.not_lt, Int.not_le, ne_eq, Decidable.not_not] at hd) <;> (try simp at hs))
          | refine T_ret ?_
          | refine wif_intro ?_ (fun hc => ?_)
          | refine And.intro ?_ ?_
          | intro hc
        | simp (maxSteps := 4000000) only [wops_nil, wops_cons, wstep_none, wrun_mv, wop, aop, ev, look, put_some, writes, ores_some, thenK, blockK, List.length_cons, List.length_nil, List.append_nil, List.replicate_zero, List.length_append, if_true, if_false, Nat.reduceEqDiff, Nat.zero_add, eq_self, *]
        | simp (disch := omega) only [getD_ints, wrapI]
        | omega)
      all_goals first | exact f.down _ rfl
    · have h5 := hre.down
      rw [hd2.down hf, if_neg (by simp)] at h5
      have hJ2 := PLift.up (hseen.down (.cells true false 3 [[tx (l.getD k gr0).nm, i64 (l.getD k gr0).dm, i64 (l.getD k gr0).rt]]))
      have c1 : ∀ v, ((H ++ [Blk.cells true false 3 [[tx (l.getD k gr0).nm, i64 (l.getD k gr0).dm, i64 (l.getD k gr0).rt]]]).set 0 v)[H.length]? = some (.cells true false 3 [[tx (l.getD k gr0).nm, i64 (l.getD k gr0).dm, i64 (l.getD k gr0).rt]]) := fun v => by
        rw [List.getElem?_set_ne (by omega), u1]; rfl
      clear hre hseen hd1 hd2 h87 hf
      cases a3 : (decide (0 ≤ (l.getD k gr0).dm) && decide ((l.getD k gr0).dm ≤ 1000000)) with
      | false =>
        rw [a3] at h80a h5
        rw [if_pos (by simp)] at h5
        subst h5
        have f := PLift.up (hE.down (by simp))
        clear hE h80b a3
        repeat' (first
          | with_reducible first
            | refine T_seq ?_
            | refine T_reg ?_
            | refine T_skip ?_
            | refine T_exit ?_
            | refine T_block ?_
            | refine T_cond_t rfl ?_
            | refine T_cond_f rfl ?_
            | (show wcall _ false (.lit (.func (.func 80) _ _)) _ _ _ _; refine wcall_fn (h80a) rfl (by simp [plainL, plain]) ?_)
            | ((first | refine T_cond rfl (fun hc => ?_) (fun hc => ?_) | refine wguard_split (fun hc => ?_) (fun hc => ?_)) <;> have hd := hc <;> (try simp (disch := omega) only [wrapI] at hd) <;> have hs := hd <;> (try simp only [Bool.not_eq_true', Bool.not_eq_false', Bool.and_eq_true, Bool.and_eq_false_iff, Bool.or_eq_true, Bool.or_eq_false_iff, decide_eq_true_eq, decide_eq_false_iff_not, beq_iff_eq, bne_iff_ne, beq_eq_false_iff_ne, bne_eq_false_iff_eq, Bool.not_true, Bool.not_false, gt_iff_lt, ge_iff_le, Int.not_lt, Int.not_le, ne_eq, Decidable.not_not] at hd) <;> (try simp at hs))
            | refine T_ret ?_
            | refine wif_intro ?_ (fun hc => ?_)
            | refine And.intro ?_ ?_
            | intro hc
          | simp (maxSteps := 4000000) only [wops_nil, wops_cons, wstep_none, wstep_some, wguard_tf, wrun_call, wrun_mv, wrun_pick, wrun_not, wrun_load, wrun_faddr, wop, aop, ev, look, put_some, writes, ores_some, thenK, blockK, boolV, value, cut, hget, mkAgg, List.map_cons, List.map_nil, List.length_cons, List.length_nil, List.take_succ_cons, List.take_zero, List.drop_succ_cons, List.drop_zero, List.append_nil, List.replicate_zero, List.getD_cons_zero, Option.getD_some, Option.map_some, if_true, if_false, Nat.reduceEqDiff, Nat.zero_add, Bool.not_false, Bool.false_eq_true, eq_self, freeze, lidsL, lids, List.flatMap_cons, List.flatMap_nil, ren, *]
          | simp (disch := omega) only [getD_ints, wrapI]
          | (with_reducible show wcall _ false (.lit (.func (.func 80) _ _)) _ _ _ _; refine wcall_fn (h80a) ?_ ?_ ?_; (next => simp [rfyL, rfy, hget, ints, take_rfy, Int.toNat_natCast]); (next => simp [plainL, plain, plainR, Int.toNat_natCast]))
          | omega)
        all_goals first | exact f.down _ rfl
      | true =>
        rw [a3] at h80a h5
        cases a4 : (decide (1 ≤ (l.getD k gr0).rt) && decide ((l.getD k gr0).rt ≤ 100000)) with
        | false =>
          rw [a4] at h80b h5
          rw [if_pos (by simp)] at h5
          subst h5
          have f := PLift.up (hE.down (by simp))
          clear hE a3 a4
          repeat' (first
            | with_reducible first
              | refine T_seq ?_
              | refine T_reg ?_
              | refine T_skip ?_
              | refine T_exit ?_
              | refine T_block ?_
              | refine T_cond_t rfl ?_
              | refine T_cond_f rfl ?_
              | (show wcall _ false (.lit (.func (.func 80) _ _)) _ _ _ _; refine wcall_fn (h80a) rfl (by simp [plainL, plain]) ?_)
              | (show wcall _ false (.lit (.func (.func 80) _ _)) _ _ _ _; refine wcall_fn (h80b) rfl (by simp [plainL, plain]) ?_)
              | ((first | refine T_cond rfl (fun hc => ?_) (fun hc => ?_) | refine wguard_split (fun hc => ?_) (fun hc => ?_)) <;> have hd := hc <;> (try simp (disch := omega) only [wrapI] at hd) <;> have hs := hd <;> (try simp only [Bool.not_eq_true', Bool.not_eq_false', Bool.and_eq_true, Bool.and_eq_false_iff, Bool.or_eq_true, Bool.or_eq_false_iff, decide_eq_true_eq, decide_eq_false_iff_not, beq_iff_eq, bne_iff_ne, beq_eq_false_iff_ne, bne_eq_false_iff_eq, Bool.not_true, Bool.not_false, gt_iff_lt, ge_iff_le, Int.not_lt, Int.not_le, ne_eq, Decidable.not_not] at hd) <;> (try simp at hs))
              | refine T_ret ?_
              | refine wif_intro ?_ (fun hc => ?_)
              | refine And.intro ?_ ?_
              | intro hc
            | simp (maxSteps := 4000000) only [wops_nil, wops_cons, wstep_none, wstep_some, wguard_ff, wrun_call, wrun_mv, wrun_pick, wrun_not, wrun_load, wrun_faddr, wop, aop, ev, look, put_some, writes, ores_some, thenK, blockK, boolV, value, cut, hget, mkAgg, List.map_cons, List.map_nil, List.length_cons, List.length_nil, List.take_succ_cons, List.take_zero, List.take_nil, List.drop_succ_cons, List.drop_zero, List.append_nil, List.replicate_zero, List.getD_cons_zero, Option.getD_some, Option.map_some, if_true, if_false, Nat.reduceEqDiff, Nat.zero_add, Bool.not_true, Bool.not_false, Bool.false_eq_true, eq_self, freeze, lidsL, lids, List.flatMap_cons, List.flatMap_nil, ren, *]
            | simp (disch := omega) only [getD_ints, wrapI]
            | (with_reducible show wcall _ false (.lit (.func (.func 80) _ _)) _ _ _ _; refine wcall_fn (h80a) ?_ ?_ ?_; (next => simp [rfyL, rfy, hget, ints, take_rfy, Int.toNat_natCast]); (next => simp [plainL, plain, plainR, Int.toNat_natCast]))
            | (with_reducible show wcall _ false (.lit (.func (.func 80) _ _)) _ _ _ _; refine wcall_fn (h80b) ?_ ?_ ?_; (next => simp [rfyL, rfy, hget, ints, take_rfy, Int.toNat_natCast]); (next => simp [plainL, plain, plainR, Int.toNat_natCast]))
            | omega)
          all_goals first | exact f.down _ rfl
        | true =>
          rw [a4] at h80b h5
          rw [if_neg (by simp)] at h5
          subst h5
          clear hE a3 a4
          repeat' (first
            | with_reducible first
              | refine T_seq ?_
              | refine T_reg ?_
              | refine T_skip ?_
              | refine T_exit ?_
              | refine T_block ?_
              | refine T_cond_t rfl ?_
              | refine T_cond_f rfl ?_
              | (show wcall _ false (.lit (.func (.func 80) _ _)) _ _ _ _; refine wcall_fn (h80a) rfl (by simp [plainL, plain]) ?_)
              | (show wcall _ false (.lit (.func (.func 80) _ _)) _ _ _ _; refine wcall_fn (h80b) rfl (by simp [plainL, plain]) ?_)
              | ((first | refine T_cond rfl (fun hc => ?_) (fun hc => ?_) | refine wguard_split (fun hc => ?_) (fun hc => ?_)) <;> have hd := hc <;> (try simp (disch := omega) only [wrapI] at hd) <;> have hs := hd <;> (try simp only [Bool.not_eq_true', Bool.not_eq_false', Bool.and_eq_true, Bool.and_eq_false_iff, Bool.or_eq_true, Bool.or_eq_false_iff, decide_eq_true_eq, decide_eq_false_iff_not, beq_iff_eq, bne_iff_ne, beq_eq_false_iff_ne, bne_eq_false_iff_eq, Bool.not_true, Bool.not_false, gt_iff_lt, ge_iff_le, Int.not_lt, Int.not_le, ne_eq, Decidable.not_not] at hd) <;> (try simp at hs))
              | refine T_ret ?_
              | refine wif_intro ?_ (fun hc => ?_)
              | refine And.intro ?_ ?_
              | intro hc
            | simp (maxSteps := 4000000) only [wops_nil, wops_cons, wstep_none, wstep_some, wguard_ff, wrun_call, wrun_mv, wrun_pick, wrun_bin, wrun_not, wrun_load, wrun_faddr, wop, aop, ev, look, put_some, writes, ores_some, binV, thenK, blockK, boolV, value, cut, hget, mkAgg, List.map_cons, List.map_nil, List.length_cons, List.length_nil, List.take_succ_cons, List.take_zero, List.take_nil, List.drop_succ_cons, List.drop_zero, List.append_nil, List.replicate_zero, List.getD_cons_zero, Option.getD_some, Option.map_some, if_true, if_false, Nat.reduceEqDiff, Nat.zero_add, reduceCtorEq, Bool.not_true, Bool.false_eq_true, eq_self, true_and, freeze, lidsL, lids, List.flatMap_cons, List.flatMap_nil, ren, *]
            | simp (disch := omega) only [wrapI]
            | (with_reducible show wcall _ false (.lit (.func (.func 80) _ _)) _ _ _ _; refine wcall_fn (h80a) ?_ ?_ ?_; (next => simp [rfyL, rfy, hget, ints, take_rfy, Int.toNat_natCast]); (next => simp [plainL, plain, plainR, Int.toNat_natCast]))
            | (with_reducible show wcall _ false (.lit (.func (.func 80) _ _)) _ _ _ _; refine wcall_fn (h80b) ?_ ?_ ?_; (next => simp [rfyL, rfy, hget, ints, take_rfy, Int.toNat_natCast]); (next => simp [plainL, plain, plainR, Int.toNat_natCast]))
            | omega)
          all_goals first | exact hJ2.down | (simp [St.only, get_mk, look]; done)
end Go.Abs
