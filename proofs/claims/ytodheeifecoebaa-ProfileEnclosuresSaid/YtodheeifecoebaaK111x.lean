import Derived.Test.YtodheeifecoebaaK110x
import Derived.Test.YtodheeifecoebaaK108x
import Derived.Test.YtodheeifecoebaaK82x
import Derived.Test.YtodheeifecoebaaK55x
import Derived.Test.YtodheeifecoebaaK9
set_option linter.all false
set_option linter.unusedVariables false
set_option linter.unusedSimpArgs false
set_option linter.unusedSectionVars false
namespace Go.Abs
open Go.Proofs
theorem checkR_ne {z : Int} : ∀ l : List Rd, rdErr z l ≠ 13
  | [] => by simp [rdErr]
  | r :: rs => by
    unfold rdErr
    split
    · simp
    · split
      · simp
      · split
        · simp
        · split
          · simp
          · exact checkR_ne rs
theorem checkR_13 (z : Int) (l : List Rd) : checkR z l ≠ 13 := by
  unfold checkR
  split
  · simp
  · split
    · simp
    · exact checkR_ne l
theorem enc_encD {z : Nat} {M : List (List Int)} (hM : Sq z M) (h : ∀ k, k < z → mget M k 0 < far ∧ mget M 0 k < far) : ∀ n, n ≤ z → encD (toR M) n = enc M n
  | 0, _ => rfl
  | n + 1, hn => by
    obtain ⟨h1, h2⟩ := h n (by omega)
    unfold encD enc
    rw [enc_encD hM h n (by omega), toR_get hM (by omega) (by omega), toR_get hM (by omega) (by omega)]
    unfold rv
    rw [if_pos h1, if_pos h2]
theorem to_re1 {o z : Nat} {M : List (List Int)} {H : List Blk} (h : IsTo o z M H) (hM : Sq z M) : rfyL (hget H) [.lsl o 0 z] = [tblV M] := by
  simp only [rfyL, List.map_cons, List.map_nil, to_rfy h hM]
theorem to_frz1 {o z : Nat} {M : List (List Int)} {H : List Blk} (h : IsTo o z M H) : IsTo o z M (freeze H (lidsL (hget H) [.lsl o 0 z])) ∧ ∀ j, (j < o ∨ o + z < j) → (freeze H (lidsL (hget H) [.lsl o 0 z]))[j]? = H[j]? := by
  refine ⟨h.freeze _, fun j hj => freeze_ne _ _ fun hm => ?_⟩
  simp only [lidsL, List.flatMap_cons, List.flatMap_nil, List.append_nil] at hm
  have := to_lids h j hm; omega
theorem plainR_erD (xs : List (Int × Int)) : plainR (erD xs) = true := plainR_map _ (fun _ => rfl) xs
theorem rfy_er {H : List Blk} {id n : Nat} {o : Bool} {xs : List (Int × Int)} (h : H[id]? = some (.cells o false 2 (erD xs))) (hn : xs.length = n) : rfy (hget H) 6 (.lsl id 0 n) = .sl false 2 (erD xs) := by
  have e : hget H id = .cells o false 2 (erD xs) := by unfold hget; rw [h]; rfl
  have hl := erD_len xs
  unfold rfy
  rw [e]
  dsimp only
  rw [if_pos (by omega), List.drop_zero, List.take_of_length_le (by omega)]
  refine congrArg (AV.sl false 2) ?_
  unfold erD
  rw [List.map_map]
  exact List.map_congr_left fun _ _ => rfl
theorem flat_ints6 (h : Nat → Blk) (n : Nat) (xs : List Int) : (List.take n (List.map (fun x => [i64 x]) xs)).flatMap (fun r => r.flatMap (lids h 5)) = [] := by
  rw [List.flatMap_eq_nil_iff]
  intro r hr
  obtain ⟨x, _, rfl⟩ := List.mem_map.1 (List.mem_of_mem_take hr)
  rfl
theorem two_er {H : List Blk} {i j n : Nat} {o1 o2 : Bool} {xs : List (Int × Int)} (h1 : H[i]? = some (.cells o1 false 2 (erD xs))) (h2 : H[j]? = some (.cells o2 false 2 (erD xs))) (hn : xs.length = n) : rfyL (hget H) [.lsl i 0 n, .lsl j 0 n] = [.sl false 2 (erD xs), .sl false 2 (erD xs)] := by
  simp only [rfyL, List.map_cons, List.map_nil, rfy_er h1 hn, rfy_er h2 hn]
theorem erows_erD (xs : List (Int × Int)) : erows xs = erD xs := rfl
set_option maxHeartbeats 8000000 in
theorem k9 (zi : Int) (nil : Bool) (l : List Rd) : Fn Try.prog 9 [i64 zi, rdgs nil l] (bl true) [] := by
  refine fn_of e9 ?_
  unfold c9
  have h19 := k19
  have h25 := k25 nil l 12
  have e00 : Int.toNat 0 = 0 := rfl
  cases hf : fewB l.length 12 with
  | false =>
    rw [hf] at h25
    clear hf
    repeat' (first
      | with_reducible first
        | refine T_seq ?_
        | refine T_reg ?_
        | refine T_skip ?_
        | refine T_exit ?_
        | refine T_block ?_
        | refine T_cond_t rfl ?_
        | refine T_cond_f rfl ?_
        | (show wcall _ false (.lit (.func (.func 19) _ _)) _ _ _ _; refine wcall_fn (h19) rfl (by simp [plainL]) ?_)
        | (show wcall _ false (.lit (.func (.func 25) _ _)) _ _ _ _; refine wcall_fn (h25) rfl (by simp [plainL, plain]) ?_)
        | ((first | refine T_cond rfl (fun hc => ?_) (fun hc => ?_) | refine wguard_split (fun hc => ?_) (fun hc => ?_)) <;> have hd := hc <;> (try simp (disch := omega) only [wrapI] at hd) <;> have hs := hd <;> (try simp only [Bool.not_eq_true', Bool.not_eq_false', Bool.and_eq_true, Bool.and_eq_false_iff, Bool.or_eq_true, Bool.or_eq_false_iff, decide_eq_true_eq, decide_eq_false_iff_not, beq_iff_eq, bne_iff_ne, beq_eq_false_iff_ne, bne_eq_false_iff_eq, Bool.not_true, Bool.not_false, gt_iff_lt, ge_iff_le, Int.not_lt, Int.not_le, ne_eq, Decidable.not_not] at hd) <;> (try simp at hs))
        | refine T_ret ?_
        | refine leave_of (.inr rfl) _ rfl ?_
        | refine leave_of (.inl rfl) _ rfl ?_
        | refine leaveA_of (.inr rfl) _ rfl ?_
        | refine leaveA_of (.inl rfl) _ rfl ?_
        | refine wif_intro ?_ (fun hc => ?_)
        | refine And.intro ?_ ?_
        | intro hc
      | simp (maxSteps := 4000000) only [wops_nil, wops_cons, wstep_none, wrun_call, wrun_mv, wrun_not, get_mk, wop, aop, ev, look, put_some, writes, ores_some, thenK, boolV, tupOf, List.map_cons, List.map_nil, List.length_nil, List.append_nil, List.replicate_zero, List.zipIdx_cons, List.zipIdx_nil, if_true, if_false, Nat.reduceEqDiff, Nat.reduceAdd, Nat.zero_add, Nat.zero_ne_one, reduceCtorEq, Bool.not_true, Bool.not_false, eq_self, freeze, lidsL, lids, List.flatMap_cons, List.flatMap_nil, ren, *]
      | simp (disch := omega) only [getD_ints, wrapI]
      | (with_reducible show wcall _ false (.lit (.func (.func 19) _ _)) _ _ _ _; refine wcall_fn (h19) ?_ ?_ ?_; (next => simp [rfyL, rfy, hget, ints, take_rfy]); (next => simp [plainL, plain, plainR]))
      | (with_reducible show wcall _ false (.lit (.func (.func 25) _ _)) _ _ _ _; refine wcall_fn (h25) ?_ ?_ ?_; (next => simp [rfyL, rfy, hget, ints, take_rfy]); (next => simp [plainL, plain, plainR]))
      | omega)
  | true =>
    rw [hf] at h25
    have hl : l.length < 1000000 := by unfold fewB at hf; simp at hf; omega
    clear hf
    have h27 := k27 nil l hl
    have hrl := rows4_len l
    by_cases hc : checkR zi l = 0
    · obtain ⟨hz, hl2, hrd⟩ := checkR_ok hc
      obtain ⟨z, rfl⟩ : ∃ z : Nat, zi = z := ⟨zi.toNat, by omega⟩
      by_cases hcy : ∀ r, r ≤ z → 0 ≤ (rnds (arcsL l l.length) z (r + 1)).at_
      · obtain ⟨p, xs, hxp, hp1, hpz, hacc, h31⟩ := k31d (nil := false) hc hcy
        have h49 := k49c (nil := nil) hc hcy
        have h28 := k28 false xs (by omega)
        have h52 := k52 (z := z) (nil := nil) (ny := false) (l := l) (ys := xs) (by omega) hc
        have h53 := k53 (z := z) (nil := false) (ny := false) (l := l) (ys := xs) (by omega) hc
        rw [hacc] at h52 h53
        generalize (checkCl l xs).1 = s1 at h52 h53
        have hdz : decide ((p : Int) ≤ z) = true := by simp only [decide_eq_true_eq]; omega
        subst hxp
        clear hcy hrd hacc hc
        repeat' (first
          | with_reducible first
            | refine T_seq ?_
            | refine T_reg ?_
            | refine T_skip ?_
            | refine T_exit ?_
            | refine T_block ?_
            | refine T_cond_t rfl ?_
            | refine T_cond_f rfl ?_
            | (show wcall _ false (.lit (.func (.func 19) _ _)) _ _ _ _; refine wcall_fn (h19) rfl (by simp [plainL]) ?_)
            | (show wcall _ false (.lit (.func (.func 25) _ _)) _ _ _ _; refine wcall_fn (h25) rfl (by simp [plainL, plain]) ?_)
            | (show wcall _ false (.lit (.func (.func 27) _ _)) _ _ _ _; refine wcall_fn (h27) rfl (by simp [plainL, plain]) ?_)
            | (show wcall _ false (.lit (.func (.func 31) _ _)) _ _ _ _; refine wcall_fn (h31) rfl (by simp [plainL, plain]) ?_)
            | (show wcall _ false (.lit (.func (.func 49) _ _)) _ _ _ _; refine wcall_fn (h49) rfl (by simp [plainL, plain]) ?_)
            | (show wcall _ false (.lit (.func (.func 52) _ _)) _ _ _ _; refine wcall_fn (h52) rfl (by simp [plainL, plain]) ?_)
            | (show wcall _ false (.lit (.func (.func 28) _ _)) _ _ _ _; refine wcall_fn (h28) rfl (by simp [plainL, plain]) ?_)
            | (show wcall _ false (.lit (.func (.func 53) _ _)) _ _ _ _; refine wcall_fn (h53) rfl (by simp [plainL, plain]) ?_)
            | ((first | refine T_cond rfl (fun hc => ?_) (fun hc => ?_) | refine wguard_split (fun hc => ?_) (fun hc => ?_)) <;> have hd := hc <;> (try simp (disch := omega) only [wrapI] at hd) <;> have hs := hd <;> (try simp only [bne_iff_ne, bne_eq_false_iff_eq, Bool.not_false, ne_eq] at hd) <;> (try simp at hs))
            | refine T_ret ?_
            | refine leave_of (.inr rfl) _ rfl ?_
            | refine leave_of (.inl rfl) _ rfl ?_
            | refine leaveA_of (.inr rfl) _ rfl ?_
            | refine leaveA_of (.inl rfl) _ rfl ?_
            | refine wif_intro ?_ (fun hc => ?_)
            | refine And.intro ?_ ?_
            | intro hc
          | simp (maxSteps := 4000000) only [wops_nil, wops_cons, wstep_none, wstep_some, wguard_true, wguard_ff, wrun_call, wrun_mv, wrun_pick, wrun_bin, wrun_not, wrun_ext, wrun_len, get_mk, wop, aop, ev, look, put_some, writes, ores_some, ores_map, ores_bind, binV, thenK, boolV, intV, lenOf, hget, tupOf, List.map_cons, List.map_nil, List.length_cons, List.length_nil, List.getElem?_cons_zero, List.getElem?_cons_succ, List.set_cons_zero, List.set_cons_succ, List.drop_zero, List.cons_append, List.nil_append, List.append_nil, List.replicate_zero, List.zipIdx_cons, List.zipIdx_nil, Option.pure_def, Option.bind_eq_bind, Option.getD_some, Option.map_some, if_true, if_false, Nat.reduceEqDiff, Nat.reduceAdd, Nat.add_zero, Nat.zero_add, Nat.zero_ne_one, reduceCtorEq, Bool.not_true, Bool.false_eq_true, eq_self, beq_self_eq_true, freeze, lidsL, lids, List.flatMap_cons, List.flatMap_nil, ren, renL, renR, renB, shiftρ, renR_ints, flat_rows4', freeze1, flat_ints6, renR_rows4, renR_ints, *]
          | simp (disch := omega) only [getD_ints, wrapI]
          | (with_reducible show wcall _ false (.lit (.func (.func 19) _ _)) _ _ _ _; refine wcall_fn (h19) ?_ ?_ ?_; (next => simp [rfyL, rfy, hget, ints, take_rfy, take_rows4', flat_rows4', freeze1, take_rfy, flat_ints6, renR_rows4, rows4_len, renR_ints]); (next => simp [plainL, plain, plainR, take_rows4', flat_rows4', freeze1, take_rfy, flat_ints6, renR_rows4, rows4_len, renR_ints]))
          | (with_reducible show wcall _ false (.lit (.func (.func 25) _ _)) _ _ _ _; refine wcall_fn (h25) ?_ ?_ ?_; (next => simp [rfyL, rfy, hget, ints, take_rfy, take_rows4', flat_rows4', freeze1, take_rfy, flat_ints6, renR_rows4, rows4_len, renR_ints]); (next => simp [plainL, plain, plainR, take_rows4', flat_rows4', freeze1, take_rfy, flat_ints6, renR_rows4, rows4_len, renR_ints]))
          | (with_reducible show wcall _ false (.lit (.func (.func 27) _ _)) _ _ _ _; refine wcall_fn (h27) ?_ ?_ ?_; (next => simp [rfyL, rfy, hget, ints, take_rfy, take_rows4', flat_rows4', freeze1, take_rfy, flat_ints6, renR_rows4, rows4_len, renR_ints]); (next => simp [plainL, plain, plainR, take_rows4', flat_rows4', freeze1, take_rfy, flat_ints6, renR_rows4, rows4_len, renR_ints]))
          | (with_reducible show wcall _ false (.lit (.func (.func 31) _ _)) _ _ _ _; refine wcall_fn (h31) ?_ ?_ ?_; (next => simp [rfyL, rfy, hget, take_rows4', rows4_len]); (next => simp [plainL, plain]))
          | (with_reducible show wcall _ false (.lit (.func (.func 49) _ _)) _ _ _ _; refine wcall_fn (h49) ?_ ?_ ?_; (next => simp [rfyL, rfy, hget, ints, take_rfy, take_rows4', flat_rows4', freeze1, take_rfy, flat_ints6, renR_rows4, rows4_len, renR_ints]); (next => simp [plainL, plain, plainR, take_rows4', flat_rows4', freeze1, take_rfy, flat_ints6, renR_rows4, rows4_len, renR_ints]))
          | (with_reducible show wcall _ false (.lit (.func (.func 52) _ _)) _ _ _ _; refine wcall_fn (h52) ?_ ?_ ?_; (next => simp [rfyL, rfy, hget, ints, take_rfy, take_rfy]); (next => simp [plainL, plain]))
          | (with_reducible show wcall _ false (.lit (.func (.func 28) _ _)) _ _ _ _; refine wcall_fn (h28) ?_ ?_ ?_; (next => simp [rfyL, rfy, hget, ints, take_rfy, take_rfy]); (next => simp [plainL, plain]))
          | (with_reducible show wcall _ false (.lit (.func (.func 53) _ _)) _ _ _ _; refine wcall_fn (h53) ?_ ?_ ?_; (next => simp [rfyL, rfy, hget, ints, take_rfy, take_rows4', take_rfy, rows4_len]); (next => simp [plainL, plain]))
          | omega)
        all_goals first | rfl | trace_state
      · have hr : ∃ r, r ≤ z ∧ (rnds (arcsL l l.length) z (r + 1)).at_ < 0 := by
          rcases Classical.em (∃ r, r ≤ z ∧ (rnds (arcsL l l.length) z (r + 1)).at_ < 0) with h | h
          · exact h
          · exact (hcy fun r hr => by
              rcases Int.lt_or_le (rnds (arcsL l l.length) z (r + 1)).at_ 0 with h2 | h2
              · exact (h ⟨r, hr, h2⟩).elim
              · exact h2).elim
        obtain ⟨k31a, k31b⟩ := k31 (nil := false) hc rfl hr
        obtain ⟨k49a, k49b⟩ := k49n (nil := nil) hc hr
        cases hw : ((tabM (arcsL l l.length) z).getD 0 []).any isFar with
        | true =>
          have h31 := k31a hw
          have h49 := k49a hw
          clear k31a k31b k49a k49b hw hr hcy hrd hc
          repeat' (first
            | with_reducible first
              | refine T_seq ?_
              | refine T_reg ?_
              | refine T_skip ?_
              | refine T_exit ?_
              | refine T_block ?_
              | refine T_cond_t rfl ?_
              | refine T_cond_f rfl ?_
              | (show wcall _ false (.lit (.func (.func 19) _ _)) _ _ _ _; refine wcall_fn (h19) rfl (by simp [plainL]) ?_)
              | (show wcall _ false (.lit (.func (.func 25) _ _)) _ _ _ _; refine wcall_fn (h25) rfl (by simp [plainL, plain]) ?_)
              | (show wcall _ false (.lit (.func (.func 27) _ _)) _ _ _ _; refine wcall_fn (h27) rfl (by simp [plainL, plain]) ?_)
              | (show wcall _ false (.lit (.func (.func 31) _ _)) _ _ _ _; refine wcall_fn (h31) rfl (by simp [plainL, plain]) ?_)
              | (show wcall _ false (.lit (.func (.func 49) _ _)) _ _ _ _; refine wcall_fn (h49) rfl (by simp [plainL, plain]) ?_)
              | ((first | refine T_cond rfl (fun hc => ?_) (fun hc => ?_) | refine wguard_split (fun hc => ?_) (fun hc => ?_)) <;> have hd := hc <;> (try simp (disch := omega) only [wrapI] at hd) <;> have hs := hd <;> (try simp only [bne_iff_ne, bne_eq_false_iff_eq, Bool.not_false, ne_eq] at hd) <;> (try simp at hs))
              | refine T_ret ?_
              | refine leave_of (.inr rfl) _ rfl ?_
              | refine leave_of (.inl rfl) _ rfl ?_
              | refine leaveA_of (.inr rfl) _ rfl ?_
              | refine leaveA_of (.inl rfl) _ rfl ?_
              | refine wif_intro ?_ (fun hc => ?_)
              | refine And.intro ?_ ?_
              | intro hc
            | simp (maxSteps := 4000000) only [wops_nil, wops_cons, wstep_none, wstep_some, wguard_ff, wrun_call, wrun_mv, wrun_pick, wrun_bin, wrun_not, wrun_ext, wrun_len, get_mk, wop, aop, ev, look, put_some, writes, ores_some, ores_map, ores_bind, binV, thenK, boolV, intV, lenOf, hget, tupOf, List.map_cons, List.map_nil, List.length_cons, List.length_nil, List.getElem?_cons_zero, List.getElem?_cons_succ, List.set_cons_zero, List.drop_zero, List.nil_append, List.append_nil, List.replicate_zero, List.zipIdx_cons, List.zipIdx_nil, Option.pure_def, Option.bind_eq_bind, Option.getD_some, Option.map_some, if_true, if_false, Nat.reduceEqDiff, Nat.reduceAdd, Nat.add_zero, Nat.zero_add, Nat.zero_ne_one, reduceCtorEq, Bool.not_true, Bool.false_eq_true, eq_self, freeze, lidsL, lids, List.flatMap_cons, List.flatMap_nil, ren, renL, renR, renB, shiftρ, flat_rows4', freeze1, renR_rows4, *]
            | simp (disch := omega) only [getD_ints, wrapI]
            | (with_reducible show wcall _ false (.lit (.func (.func 19) _ _)) _ _ _ _; refine wcall_fn (h19) ?_ ?_ ?_; (next => simp [rfyL, rfy, hget, ints, take_rfy, take_rows4', flat_rows4', freeze1, renR_rows4, rows4_len]); (next => simp [plainL, plain, plainR, take_rows4', flat_rows4', freeze1, renR_rows4, rows4_len]))
            | (with_reducible show wcall _ false (.lit (.func (.func 25) _ _)) _ _ _ _; refine wcall_fn (h25) ?_ ?_ ?_; (next => simp [rfyL, rfy, hget, ints, take_rfy, take_rows4', flat_rows4', freeze1, renR_rows4, rows4_len]); (next => simp [plainL, plain, plainR, take_rows4', flat_rows4', freeze1, renR_rows4, rows4_len]))
            | (with_reducible show wcall _ false (.lit (.func (.func 27) _ _)) _ _ _ _; refine wcall_fn (h27) ?_ ?_ ?_; (next => simp [rfyL, rfy, hget, ints, take_rfy, take_rows4', flat_rows4', freeze1, renR_rows4, rows4_len]); (next => simp [plainL, plain, plainR, take_rows4', flat_rows4', freeze1, renR_rows4, rows4_len]))
            | (with_reducible show wcall _ false (.lit (.func (.func 31) _ _)) _ _ _ _; refine wcall_fn (h31) ?_ ?_ ?_; (next => simp [rfyL, rfy, hget, take_rows4', rows4_len]); (next => simp [plainL, plain]))
            | (with_reducible show wcall _ false (.lit (.func (.func 49) _ _)) _ _ _ _; refine wcall_fn (h49) ?_ ?_ ?_; (next => simp [rfyL, rfy, hget, ints, take_rfy, take_rows4', flat_rows4', freeze1, renR_rows4, rows4_len]); (next => simp [plainL, plain, plainR, take_rows4', flat_rows4', freeze1, renR_rows4, rows4_len]))
            | omega)
          all_goals first | rfl | trace_state
        | false =>
          have h31 := k31b hw
          have h49 := k49b hw
          clear k31a k31b k49a k49b
          obtain ⟨hA, hN, hok⟩ := arcs_ok hrd
          have hn : (arcsL l l.length).length ≤ 200 := by have := arcsL_len l l.length; omega
          obtain ⟨P, hP1, hP2⟩ := rest_bound hA hn hr (by omega)
          have hS := tab_stt hA hN (by omega) hP1 hP2
          have hM := hS.sq
          have hbd := fun i j (hi : i < z) (hj : j < z) => hS.bd hA (Nat.le_refl _) (by omega) (i := i) (j := j) hi hj
          have hback := fun i j (hi : i < z) (hj : j < z) h => hS.back hA (arcs_two l) (by omega) (i := i) (j := j) hi hj h
          generalize tabM (arcsL l l.length) z = M at *
          have hfar : far = 1099511627776 := rfl
          have hF : FAR = 1000000000000 := rfl
          have hrow0 : ∀ k, k < z → mget M 0 k < far := fun k hk => by
            rw [List.any_eq_false] at hw
            have hk2 : k < (M.getD 0 []).length := by rw [hM.hr 0 (by omega)]; exact hk
            have h1 := hw (mget M 0 k) (by
              unfold mget
              rw [List.getD_eq_getElem?_getD (l := M.getD 0 []), List.getElem?_eq_getElem hk2]
              exact List.getElem_mem hk2)
            have h2 := hbd 0 k (by omega) hk
            rcases h2 with h2 | h2
            · exfalso; apply h1; unfold isFar; rw [h2]; rfl
            · omega
          have hee : enc M z = encD (toR M) z := (enc_encD hM (fun k hk => ⟨hback 0 k (by omega) hk (hrow0 k hk), hrow0 k hk⟩) z (Nat.le_refl _)).symm
          rw [hee, erows_erD] at h31
          have hD := toR_sq hM
          have hDb : ∀ i j, i < z → j < z → -10000000000000 ≤ mget (toR M) i j ∧ mget (toR M) i j ≤ 10000000000000 := fun i j hi hj => by
            rw [toR_get hM hi hj]
            have := hbd i j hi hj
            unfold rv
            split <;> omega
          have h51 := k51 (z := z) (by omega) hD hDb
          have hel := encD_len (toR M) z
          have h50 := k50 false false (encD (toR M) z) (by omega)
          have hpl1 : plainL [tblV (toR M)] = true := by simp only [plainL, plain_tbl]; rfl
          have hpl2 : plainL [.sl false 2 (erD (encD (toR M) z)), .sl false 2 (erD (encD (toR M) z))] = true := by simp [plainL, plain, plainR_erD]
          have hx : ([Blk.cells false false 4 (rows4 l), .cells true false 2 (erD (encD (toR M) z))] : List Blk).length = 2 := rfl
          have htab := tab_at (M := toR M) hD.hl [.cells false false 4 (rows4 l), .cells true false 2 (erD (encD (toR M) z))]
          clear hw hr hcy hrd hc hA hN hok hP1 hP2 hS hbd hback hrow0 hee hDb
          replace hD := And.intro hD trivial
          replace htab := And.intro htab trivial
          generalize encD (toR M) z = E at *
          generalize toR M = D at *
          repeat' (first
            | with_reducible first
              | refine T_seq ?_
              | refine T_reg ?_
              | refine T_skip ?_
              | refine T_exit ?_
              | refine T_block ?_
              | refine T_cond_t rfl ?_
              | refine T_cond_f rfl ?_
              | (show wcall _ false (.lit (.func (.func 19) _ _)) _ _ _ _; refine wcall_fn (h19) rfl (by simp [plainL]) ?_)
              | (show wcall _ false (.lit (.func (.func 25) _ _)) _ _ _ _; refine wcall_fn (h25) rfl (by simp [plainL, plain]) ?_)
              | (show wcall _ false (.lit (.func (.func 27) _ _)) _ _ _ _; refine wcall_fn (h27) rfl (by simp [plainL, plain]) ?_)
              | (show wcall _ false (.lit (.func (.func 31) _ _)) _ _ _ _; refine wcall_fn (h31) rfl (by simp [plainL, plain]) ?_)
              | (show wcall _ false (.lit (.func (.func 49) _ _)) _ _ _ _; refine wcall_fn (h49) rfl (by simp [plainL, plain]) ?_)
              | ((first | refine T_cond rfl (fun hc => ?_) (fun hc => ?_) | refine wguard_split (fun hc => ?_) (fun hc => ?_)) <;> have hd := hc <;> (try simp (disch := omega) only [wrapI] at hd) <;> have hs := hd <;> (try simp only [beq_iff_eq, beq_eq_false_iff_ne, Bool.not_true, ne_eq] at hd) <;> (try simp at hs))
              | refine T_ret ?_
              | refine leave_of (.inr rfl) _ rfl ?_
              | refine leave_of (.inl rfl) _ rfl ?_
              | refine leaveA_of (.inr rfl) _ rfl ?_
              | refine leaveA_of (.inl rfl) _ rfl ?_
              | refine wif_intro ?_ (fun hc => ?_)
              | refine And.intro ?_ ?_
              | intro hc
            | simp (maxSteps := 4000000) only [wops_nil, wops_cons, wstep_none, wstep_some, wguard_true, wrun_call, wrun_mv, wrun_pick, wrun_bin, wrun_not, wrun_ext, wrun_len, wop, aop, ev, look, put_some, writes, ores_some, ores_map, ores_bind, binV, thenK, boolV, intV, lenOf, hget, List.map_cons, List.map_nil, List.length_cons, List.length_nil, List.getElem?_cons_zero, List.getElem?_cons_succ, List.set_cons_zero, List.drop_zero, List.cons_append, List.nil_append, List.append_nil, List.replicate_zero, List.zipIdx_cons, List.zipIdx_nil, List.length_map, Option.pure_def, Option.bind_eq_bind, Option.getD_some, Option.map_some, if_true, if_false, Nat.reduceEqDiff, Nat.reduceAdd, Nat.add_zero, Nat.zero_add, Nat.zero_ne_one, reduceCtorEq, Bool.not_true, eq_self, beq_self_eq_true, freeze, lidsL, lids, List.flatMap_cons, List.flatMap_nil, ren, renL, renR, renB, shiftρ, flat_rows4', freeze1, renR_rows4, renR_erD, *]
            | simp (disch := omega) only [getD_ints, wrapI]
            | (with_reducible show wcall _ false (.lit (.func (.func 19) _ _)) _ _ _ _; refine wcall_fn (h19) ?_ ?_ ?_; (next => simp [rfyL, rfy, hget, ints, take_rfy, take_rows4', flat_rows4', freeze1, renR_rows4, rows4_len, renR_erD]); (next => simp [plainL, plain, plainR, take_rows4', flat_rows4', freeze1, renR_rows4, rows4_len, renR_erD]))
            | (with_reducible show wcall _ false (.lit (.func (.func 25) _ _)) _ _ _ _; refine wcall_fn (h25) ?_ ?_ ?_; (next => simp [rfyL, rfy, hget, ints, take_rfy, take_rows4', flat_rows4', freeze1, renR_rows4, rows4_len, renR_erD]); (next => simp [plainL, plain, plainR, take_rows4', flat_rows4', freeze1, renR_rows4, rows4_len, renR_erD]))
            | (with_reducible show wcall _ false (.lit (.func (.func 27) _ _)) _ _ _ _; refine wcall_fn (h27) ?_ ?_ ?_; (next => simp [rfyL, rfy, hget, ints, take_rfy, take_rows4', flat_rows4', freeze1, renR_rows4, rows4_len, renR_erD]); (next => simp [plainL, plain, plainR, take_rows4', flat_rows4', freeze1, renR_rows4, rows4_len, renR_erD]))
            | (with_reducible show wcall _ false (.lit (.func (.func 31) _ _)) _ _ _ _; refine wcall_fn (h31) ?_ ?_ ?_; (next => simp [rfyL, rfy, hget, take_rows4', rows4_len]); (next => simp [plainL, plain]))
            | (with_reducible show wcall _ false (.lit (.func (.func 49) _ _)) _ _ _ _; refine wcall_fn (h49) ?_ ?_ ?_; (next => simp [rfyL, rfy, hget, ints, take_rfy, take_rows4', flat_rows4', freeze1, renR_rows4, rows4_len, renR_erD]); (next => simp [plainL, plain, plainR, take_rows4', flat_rows4', freeze1, renR_rows4, rows4_len, renR_erD]))
            | omega)
          have hT : IsTo 2 z D (Blk.cells false false 4 (rows4 l) :: Blk.cells true false 2 (erD E) :: List.map (renB (shiftρ 2)) (tabB D z)) := htab.1
          have hp1 : (Blk.cells false false 4 (rows4 l) :: Blk.cells true false 2 (erD E) :: List.map (renB (shiftρ 2)) (tabB D z))[1]? = some (Blk.cells true false 2 (erD E)) := rfl
          generalize (Blk.cells false false 4 (rows4 l) :: Blk.cells true false 2 (erD E) :: List.map (renB (shiftρ 2)) (tabB D z)) = H at hT hp1 ⊢
          refine wcall_fn h51 (to_re1 hT hD.1) hpl1 ?_
          obtain ⟨hF, hFj⟩ := to_frz1 hT
          have hf1 := (hFj 1 (by omega)).trans hp1
          have hlen := freeze_len (lidsL (hget H) [.lsl 2 0 z]) H
          generalize freeze H (lidsL (hget H) [.lsl 2 0 z]) = F at *
          have hq1 : (F ++ [.cells true false 2 (erD E)])[1]? = some (.cells true false 2 (erD E)) := at_app hf1 _
          have hq2 : (F ++ [.cells true false 2 (erD E)])[H.length]? = some (.cells true false 2 (erD E)) := by rw [← hlen, List.getElem?_append_right (Nat.le_refl _), Nat.sub_self]; rfl
          have hre2 := two_er hq1 hq2 hel
          replace hre2 := And.intro hre2 trivial
          clear hT hp1 hF hFj hf1 hq1 hq2 hlen
          repeat' (first
            | with_reducible first
              | refine T_seq ?_
              | refine T_reg ?_
              | refine T_skip ?_
              | refine T_exit ?_
              | refine T_block ?_
              | refine T_cond_t rfl ?_
              | refine T_cond_f rfl ?_
              | ((first | refine T_cond rfl (fun hc => ?_) (fun hc => ?_) | refine wguard_split (fun hc => ?_) (fun hc => ?_)) <;> have hd := hc <;> (try simp (disch := omega) only [wrapI] at hd) <;> have hs := hd <;> (try simp only [Bool.not_eq_true', Bool.not_eq_false', Bool.and_eq_true, Bool.and_eq_false_iff, Bool.or_eq_true, Bool.or_eq_false_iff, decide_eq_true_eq, decide_eq_false_iff_not, beq_iff_eq, bne_iff_ne, beq_eq_false_iff_ne, bne_eq_false_iff_eq, Bool.not_true, Bool.not_false, gt_iff_lt, ge_iff_le, Int.not_lt, Int.not_le, ne_eq, Decidable.not_not] at hd) <;> (try simp at hs))
              | refine T_ret ?_
              | refine leave_of (.inr rfl) _ rfl ?_
              | refine leave_of (.inl rfl) _ rfl ?_
              | refine leaveA_of (.inr rfl) _ rfl ?_
              | refine leaveA_of (.inl rfl) _ rfl ?_
              | refine wif_intro ?_ (fun hc => ?_)
              | refine And.intro ?_ ?_
              | intro hc
            | simp (maxSteps := 4000000) only [wops_cons, wstep_some, wguard_true, wrun_call, ev, look, put_some, List.map_cons, List.map_nil, if_true, if_false, Nat.reduceEqDiff, Nat.zero_add, reduceCtorEq, eq_self, ren, renB, shiftρ, renR_erD, *]
            | simp (disch := omega) only [getD_ints, wrapI]
            | omega)
          refine wcall_fn h50 hre2.1 hpl2 ?_
          repeat' (first
            | with_reducible first
              | refine T_seq ?_
              | refine T_reg ?_
              | refine T_skip ?_
              | refine T_exit ?_
              | refine T_block ?_
              | refine T_cond_t rfl ?_
              | refine T_cond_f rfl ?_
              | ((first | refine T_cond rfl (fun hc => ?_) (fun hc => ?_) | refine wguard_split (fun hc => ?_) (fun hc => ?_)) <;> have hd := hc <;> (try simp (disch := omega) only [wrapI] at hd) <;> have hs := hd <;> (try simp only [Bool.not_eq_true', Bool.not_eq_false', Bool.and_eq_true, Bool.and_eq_false_iff, Bool.or_eq_true, Bool.or_eq_false_iff, decide_eq_true_eq, decide_eq_false_iff_not, beq_iff_eq, bne_iff_ne, beq_eq_false_iff_ne, bne_eq_false_iff_eq, Bool.not_true, Bool.not_false, gt_iff_lt, ge_iff_le, Int.not_lt, Int.not_le, ne_eq, Decidable.not_not] at hd) <;> (try simp at hs))
              | refine T_ret ?_
              | refine leave_of (.inr rfl) _ rfl ?_
              | refine leave_of (.inl rfl) _ rfl ?_
              | refine leaveA_of (.inr rfl) _ rfl ?_
              | refine leaveA_of (.inl rfl) _ rfl ?_
              | refine wif_intro ?_ (fun hc => ?_)
              | refine And.intro ?_ ?_
              | intro hc
            | simp (maxSteps := 4000000) only [wops_nil, wops_cons, wstep_none, wrun_mv, wrun_pick, get_mk, wop, aop, ev, look, put_some, writes, ores_some, thenK, hget, tupOf, List.map_nil, List.length_cons, List.length_nil, List.drop_zero, List.cons_append, List.append_nil, List.length_append, if_true, if_false, Nat.reduceEqDiff, Nat.zero_add, reduceCtorEq, eq_self, freeze, lidsL, lids, List.flatMap_cons, List.flatMap_nil, ren, *]
            | simp (disch := omega) only [getD_ints, wrapI]
            | omega)
          all_goals first | rfl | trace_state
    · have h31 := k31e (nil := false) (zi := zi) (l := l) hl hc
      have h49 := k49e (nil := nil) (zi := zi) (l := l) hl hc
      have h13 := checkR_13 zi l
      generalize checkR zi l = d at *
      have hd0 : (d == 0) = false := by simp only [beq_eq_false_iff_ne]; exact hc
      have hd1 : (d != 13) = true := by simp only [bne_iff_ne]; exact h13
      repeat' (first
        | with_reducible first
          | refine T_seq ?_
          | refine T_reg ?_
          | refine T_skip ?_
          | refine T_exit ?_
          | refine T_block ?_
          | refine T_cond_t rfl ?_
          | refine T_cond_f rfl ?_
          | (show wcall _ false (.lit (.func (.func 19) _ _)) _ _ _ _; refine wcall_fn (h19) rfl (by simp [plainL]) ?_)
          | (show wcall _ false (.lit (.func (.func 25) _ _)) _ _ _ _; refine wcall_fn (h25) rfl (by simp [plainL, plain]) ?_)
          | (show wcall _ false (.lit (.func (.func 27) _ _)) _ _ _ _; refine wcall_fn (h27) rfl (by simp [plainL, plain]) ?_)
          | (show wcall _ false (.lit (.func (.func 31) _ _)) _ _ _ _; refine wcall_fn (h31) rfl (by simp [plainL, plain]) ?_)
          | (show wcall _ false (.lit (.func (.func 49) _ _)) _ _ _ _; refine wcall_fn (h49) rfl (by simp [plainL, plain]) ?_)
          | ((first | refine T_cond rfl (fun hc => ?_) (fun hc => ?_) | refine wguard_split (fun hc => ?_) (fun hc => ?_)) <;> have hd := hc <;> (try simp (disch := omega) only [wrapI] at hd) <;> have hs := hd <;> (try simp only [bne_iff_ne, bne_eq_false_iff_eq, Bool.not_false, ne_eq] at hd) <;> (try simp at hs))
          | refine T_ret ?_
          | refine leave_of (.inr rfl) _ rfl ?_
          | refine leave_of (.inl rfl) _ rfl ?_
          | refine leaveA_of (.inr rfl) _ rfl ?_
          | refine leaveA_of (.inl rfl) _ rfl ?_
          | refine wif_intro ?_ (fun hc => ?_)
          | refine And.intro ?_ ?_
          | intro hc
        | simp (maxSteps := 4000000) only [wops_nil, wops_cons, wstep_none, wstep_some, wguard_ff, wrun_call, wrun_mv, wrun_pick, wrun_bin, wrun_not, wrun_ext, wrun_len, get_mk, wop, aop, ev, look, put_some, writes, ores_some, ores_map, ores_bind, binV, thenK, boolV, intV, lenOf, hget, tupOf, List.map_cons, List.map_nil, List.length_cons, List.length_nil, List.getElem?_cons_zero, List.getElem?_cons_succ, List.set_cons_zero, List.drop_zero, List.nil_append, List.append_nil, List.replicate_zero, List.zipIdx_cons, List.zipIdx_nil, Option.pure_def, Option.bind_eq_bind, Option.getD_some, Option.map_some, if_true, if_false, Nat.reduceEqDiff, Nat.reduceAdd, Nat.add_zero, Nat.zero_add, Nat.zero_ne_one, reduceCtorEq, Bool.not_true, Bool.false_eq_true, eq_self, freeze, lidsL, lids, List.flatMap_cons, List.flatMap_nil, ren, renL, renR, renB, shiftρ, flat_rows4', freeze1, renR_rows4, *]
        | simp (disch := omega) only [getD_ints, wrapI]
        | (with_reducible show wcall _ false (.lit (.func (.func 19) _ _)) _ _ _ _; refine wcall_fn (h19) ?_ ?_ ?_; (next => simp [rfyL, rfy, hget, ints, take_rfy, take_rows4', flat_rows4', freeze1, renR_rows4, rows4_len]); (next => simp [plainL, plain, plainR, take_rows4', flat_rows4', freeze1, renR_rows4, rows4_len]))
        | (with_reducible show wcall _ false (.lit (.func (.func 25) _ _)) _ _ _ _; refine wcall_fn (h25) ?_ ?_ ?_; (next => simp [rfyL, rfy, hget, ints, take_rfy, take_rows4', flat_rows4', freeze1, renR_rows4, rows4_len]); (next => simp [plainL, plain, plainR, take_rows4', flat_rows4', freeze1, renR_rows4, rows4_len]))
        | (with_reducible show wcall _ false (.lit (.func (.func 27) _ _)) _ _ _ _; refine wcall_fn (h27) ?_ ?_ ?_; (next => simp [rfyL, rfy, hget, ints, take_rfy, take_rows4', flat_rows4', freeze1, renR_rows4, rows4_len]); (next => simp [plainL, plain, plainR, take_rows4', flat_rows4', freeze1, renR_rows4, rows4_len]))
        | (with_reducible show wcall _ false (.lit (.func (.func 31) _ _)) _ _ _ _; refine wcall_fn (h31) ?_ ?_ ?_; (next => simp [rfyL, rfy, hget, take_rows4', rows4_len]); (next => simp [plainL, plain]))
        | (with_reducible show wcall _ false (.lit (.func (.func 49) _ _)) _ _ _ _; refine wcall_fn (h49) ?_ ?_ ?_; (next => simp [rfyL, rfy, hget, ints, take_rfy, take_rows4', flat_rows4', freeze1, renR_rows4, rows4_len]); (next => simp [plainL, plain, plainR, take_rows4', flat_rows4', freeze1, renR_rows4, rows4_len]))
        | omega)
      all_goals first | rfl | trace_state
end Go.Abs
