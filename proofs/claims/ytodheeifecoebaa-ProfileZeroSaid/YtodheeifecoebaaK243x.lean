import Derived.Test.YtodheeifecoebaaK242
import Derived.Test.YtodheeifecoebaaK224x
set_option linter.all false
set_option linter.unusedVariables false
set_option linter.unusedSimpArgs false
set_option linter.unusedSectionVars false
namespace Go.Abs
open Go.Proofs
/-! Maps -/
abbrev bM (b1 b2 : Bool) (ml il : List Int) (k : Int) : Blk := .cells true false 3 [[ints b1 ml, ints b2 il, i64 k]]
abbrev fZ (ml il : List Int) (s n t : Nat) : Nat → Int := mv (fun j => ml.getD j 0) (fun j => il.getD j 0) s n t
structure J20 (N0 : Nat) (H0 : List Blk) (f : Nat → Int) (i : Nat) (H : List Blk) : Prop where
  l : H.length = N0 + 2 * i
  r : i ≠ 0 → H[N0 + 2 * i - 1]? = some (.cells true false 1 ((mk i f).map fun x => [i64 x]))
  o : ∀ id, id < N0 → H[id]? = H0[id]?
abbrev SLi (n t i N0 : Nat) : List (Nat × AV) := [(1, .loc 0 0 0), (2, .loc 1 0 0), (4, i64 n), (5, .loc 2 0 0), (6, i64 t), (7, if i = 0 then .sl true 0 [] else .lsl (N0 + 2 * i - 1) 0 i), (8, i64 i)]
section
variable {b1 b2 : Bool} {ml il : List Int} {k s n : Nat}
structure MdOk (ml il : List Int) (k s n : Nat) : Prop where
  hn : 1 ≤ n ∧ n ≤ 24
  h1 : ml.length = n
  h2 : il.length = n
  hk : 1 ≤ k ∧ k ≤ 12
  hks : k * s = n
set_option maxHeartbeats 8000000 in
theorem k20l0 (m : MdOk ml il k s n) {t N0 : Nat} {H0 : List Blk} (hN0 : 3 ≤ N0) (hbox : H0[0]? = some (bM b1 b2 ml il k)) (ht : t < k) (K : Exit → St → Prop) (i : Nat) (hi : i < n)
    (hm : -50000 ≤ ml.getD i 0 ∧ ml.getD i 0 ≤ 50000) (hmt : -50000 ≤ ml.getD ((i + n - t * s) % n) 0 ∧ ml.getD ((i + n - t * s) % n) 0 ≤ 50000) (hil : -50000 ≤ il.getD i 0 ∧ il.getD i 0 ≤ 50000) (H : List Blk) (hH : J20 N0 H0 (fZ ml il s n t) i H) :
    T none Try.prog muts 96 0 c20l0 ⟨SLi n t i N0, H⟩ (thenK (fun s' => i < n ∧ J20 N0 H0 (fZ ml il s n t) (i + 1) s'.heap ∧ (s'.only [1, 2, 4, 5, 6, 7, 8]).slots = SLi n t (i + 1) N0) K) := by
  obtain ⟨hn, h1, h2, hk, hks⟩ := m
  have hts : t * s ≤ n := by have := Nat.mul_le_mul_right s (Nat.le_of_lt ht); omega
  have hs24 : s ≤ 24 := by
    rcases Nat.lt_or_ge 24 s with h | h
    · have := Nat.mul_le_mul hk.1 (Nat.succ_le_of_lt h); omega
    · exact h
  have hq : ((n : Nat) : Int).tdiv ((k : Nat) : Int) = (s : Nat) := by
    rw [← hks, Int.natCast_mul]; exact Int.mul_tdiv_cancel_left _ (by omega)
  have ets : (t : Int) * (s : Int) = ((t * s : Nat) : Int) := by rw [Int.natCast_mul]
  have hat : (i + n - t * s) % n < n := Nat.mod_lt _ (by omega)
  have emod : ((i : Int) - ((t * s : Nat) : Int)) % (n : Int) = (((i + n - t * s) % n : Nat) : Int) := by
    rw [← Int.add_emod_right, show (i : Int) - ((t * s : Nat) : Int) + (n : Int) = ((i + n - t * s : Nat) : Int) by omega]; rfl
  have h24 := k24 ((i : Int) - ((t * s : Nat) : Int)) n (by omega) (by omega)
  rw [emod] at h24
  have h32a := k32 (ml.getD i 0) (-50000) 50000
  rw [show (decide (-50000 ≤ ml.getD i 0) && decide (ml.getD i 0 ≤ 50000)) = true by rw [decide_eq_true hm.1, decide_eq_true hm.2]; rfl] at h32a
  have h32b := k32 (il.getD i 0) (-50000) 50000
  rw [show (decide (-50000 ≤ il.getD i 0) && decide (il.getD i 0 ≤ 50000)) = true by rw [decide_eq_true hil.1, decide_eq_true hil.2]; rfl] at h32b
  have g1 : (ml.map fun x => [i64 x]).getD i [] = [i64 (ml.getD i 0)] := getD_ints (by omega)
  have g2 : (il.map fun x => [i64 x]).getD i [] = [i64 (il.getD i 0)] := getD_ints (by omega)
  have g3 : (ml.map fun x => [i64 x]).getD ((i + n - t * s) % n) [] = [i64 (ml.getD ((i + n - t * s) % n) 0)] := getD_ints (by omega)
  have ef : fZ ml il s n t i = ml.getD ((i + n - t * s) % n) 0 + il.getD i 0 := rfl
  have esn := mk_snoc i (fZ ml il s n t)
  rw [ef] at esn
  have hLl := mk_len i (fZ ml il s n t)
  obtain ⟨hN, hR, hO⟩ := hH
  have hb := (hO 0 (by omega)).trans hbox
  have hbl : 0 < H.length := (List.getElem?_eq_some_iff.1 hb).1
  have fin : ∀ F : List Blk, F.length = N0 + 2 * i → (∀ id, id < N0 → F[id]? = H0[id]?) → ∀ a : Blk,
      J20 N0 H0 (fZ ml il s n t) (i + 1) (F ++ [a, .cells true false 1 ((mk (i + 1) (fZ ml il s n t)).map fun x => [i64 x])]) := fun F hF hFo a => by
    refine ⟨by simp [hF]; omega, fun _ => ?_, fun id hid => ?_⟩
    · rw [List.getElem?_append_right (by omega), show N0 + 2 * (i + 1) - 1 - F.length = 1 by omega]; rfl
    · rw [List.getElem?_append_left (by omega)]; exact hFo id hid
  rw [esn] at fin
  generalize mk i (fZ ml il s n t) = L at *
  clear esn ef
  have q1 : -50000 ≤ ml.getD ((i + n - t * s) % n) 0 ∧ ml.getD ((i + n - t * s) % n) 0 ≤ 50000 := hmt
  generalize ml.getD ((i + n - t * s) % n) 0 = x at *
  generalize (i + n - t * s) % n = a at *
  generalize ml.getD i 0 = y at *
  generalize il.getD i 0 = z at *
  have ew0 : IntKind.i64.wrap ((s : Nat) : Int) = (s : Nat) := wrapI (by omega) (by omega)
  have ew1 : IntKind.i64.wrap ((t * s : Nat) : Int) = ((t * s : Nat) : Int) := wrapI (by omega) (by omega)
  have ew2 : IntKind.i64.wrap ((i : Int) - ((t * s : Nat) : Int)) = (i : Int) - ((t * s : Nat) : Int) := wrapI (by omega) (by omega)
  have ew3 : IntKind.i64.wrap (x + z) = x + z := wrapI (by omega) (by omega)
  have hmap : ∀ l : List Int, (l ++ [x + z]).map (fun x => [i64 x]) = l.map (fun x => [i64 x]) ++ [[i64 (x + z)]] := fun l => by simp
  obtain ⟨u1, u2, u3, u4⟩ := cells_sub (X := []) hN
  have hb0 := at_ap hb
  by_cases hi0 : i = 0
  · subst hi0
    have hL0 : L = [] := List.eq_nil_of_length_eq_zero hLl
    subst hL0
    have f0 := fin H hN hO
    clear fin hR hO
    rw [hmap] at f0
    replace f0 := And.intro f0 trivial
    unfold c20l0
    simp only [SLi, if_true]
    generalize hNe : N0 + 2 * 0 = N at *
    replace hNe : id (N0 + 2 * 0 = N) := hNe
    repeat' (first
      | ((with_reducible refine T_calm ?_ ?_); rfl)
      | with_reducible first
        | refine T_seq ?_
        | refine T_reg ?_
        | refine T_draw ?_
        | refine T_skip ?_
        | refine T_exit ?_
        | refine T_block ?_
        | refine T_cond_t rfl ?_
        | refine T_cond_f rfl ?_
        | refine wdW_cons rfl ?_
        | (show wcall _ false (.lit (.func (.func 24) _ _)) _ _ _ _; refine wcall_fn (h24) rfl (by simp [plainL, plain, plainR, Int.toNat_natCast, hbl]) ?_)
        | (show wcallX _ false (.lit (.func (.func 24) _ _)) _ _ _ _; refine wcallX_fn (h24) rfl (by simp [plainL, plain]) ?_)
        | (show wcall _ false (.lit (.func (.func 32) _ _)) _ _ _ _; refine wcall_fn (h32a) rfl (by simp [plainL, plain]) ?_)
        | (show wcallX _ false (.lit (.func (.func 32) _ _)) _ _ _ _; refine wcallX_fn (h32a) rfl (by simp [plainL, plain, plainR, Int.toNat_natCast, hbl]) ?_)
        | (show wcall _ false (.lit (.func (.func 32) _ _)) _ _ _ _; refine wcall_fn (h32b) rfl (by simp [plainL, plain]) ?_)
        | (show wcallX _ false (.lit (.func (.func 32) _ _)) _ _ _ _; refine wcallX_fn (h32b) rfl (by simp [plainL, plain, plainR, Int.toNat_natCast, hbl]) ?_)
        | ((first | refine T_cond rfl (fun hc => ?_) (fun hc => ?_) | refine wguard_split (fun hc => ?_) (fun hc => ?_) | refine wguardX_split (fun hc => ?_) (fun hc => ?_)) <;> have hd := hc <;> (try simp (disch := omega) only [wrapI] at hd) <;> have hs := hd <;> (try simp only [decide_eq_true_eq, decide_eq_false_iff_not, Int.not_lt] at hd) <;> (try simp at hs))
        | refine T_ret ?_
        | refine leave_of (.inr rfl) _ rfl ?_
        | refine leave_of (.inl rfl) _ rfl ?_
        | refine leaveA_of (.inr rfl) _ rfl ?_
        | refine leaveA_of (.inl rfl) _ rfl ?_
        | refine wif_intro ?_ (fun hc => ?_)
        | refine And.intro ?_ ?_
        | intro hc
      | simp (maxSteps := 4000000) only [wops_nil, wops_cons, wstep_none, wstep_some, wguard_ff, wrun_call, wrun_mv, wrun_pick, wrun_bin, wrun_not, wrun_load, wrun_faddr, wrun_iaddrS, wrun_bslice, wrun_app, wrunX_mv, wrunX_bin, wrunX_load, wrunX_faddr, wrunX_iaddrS, wrunX_bslice, wrunX_app, wdW_nil, wstepX_none, wrunX_call, wop, aop, ev, look, put_some, writes, ores_some, ores_ite_none, ores_none_ite, ores_map, binV, thenK, blockK, boolV, elsOf, szOk, value, cut, hget, fillA, putCells, AV.parts, isOne, toLits, mkAgg, List.flatten_cons, List.flatten_nil, rowsOf, List.map_cons, List.map_nil, List.length_cons, List.length_nil, List.getElem?_cons_zero, List.getElem?_cons_succ, List.set_cons_zero, List.set_cons_succ, List.take_succ_cons, List.take_zero, List.take_nil, List.drop_succ_cons, List.drop_zero, List.drop_nil, List.nil_append, List.append_nil, List.replicate_zero, List.replicate_succ, List.getD_cons_zero, List.all_cons, List.all_nil, List.isEmpty_cons, List.length_append, List.length_map, Option.getD_some, Option.map_some, if_true, if_false, Nat.reduceEqDiff, Nat.reduceAdd, Nat.reduceMul, Nat.reduceLeDiff, Nat.add_zero, Nat.zero_add, Nat.sub_zero, Nat.mul_one, Nat.le_refl, reduceCtorEq, Bool.not_true, Bool.and_true, Bool.or_true, Bool.false_eq_true, eq_self, true_and, and_true, and_self, decide_true, beq_self_eq_true, Int.reduceNeg, freeze, lidsL, lids, List.flatMap_cons, List.flatMap_nil, List.all_cons, ren, Int.toNat_natCast, *]
      | simp (disch := omega) only [wrapI]
      | (with_reducible show wcall _ false (.lit (.func (.func 24) _ _)) _ _ _ _; refine wcall_fn (h24) ?_ ?_ ?_; (next => simp [rfyL, rfy, hget, ints, take_rfy, Int.toNat_natCast, hbl]); (next => simp [plainL, plain, plainR, Int.toNat_natCast, hbl]))
      | (with_reducible show wcallX _ false (.lit (.func (.func 24) _ _)) _ _ _ _; refine wcallX_fn (h24) ?_ ?_ ?_; (next => simp [rfyL, rfy, hget, ints, take_rfy, Int.toNat_natCast, hbl]); (next => simp [plainL, plain, plainR, Int.toNat_natCast, hbl]))
      | (with_reducible show wcall _ false (.lit (.func (.func 32) _ _)) _ _ _ _; refine wcall_fn (h32a) ?_ ?_ ?_; (next => simp [rfyL, rfy, hget, ints, take_rfy, Int.toNat_natCast, hbl]); (next => simp [plainL, plain, plainR, Int.toNat_natCast, hbl]))
      | (with_reducible show wcallX _ false (.lit (.func (.func 32) _ _)) _ _ _ _; refine wcallX_fn (h32a) ?_ ?_ ?_; (next => simp [rfyL, rfy, hget, ints, take_rfy, Int.toNat_natCast, hbl]); (next => simp [plainL, plain, plainR, Int.toNat_natCast, hbl]))
      | (with_reducible show wcall _ false (.lit (.func (.func 32) _ _)) _ _ _ _; refine wcall_fn (h32b) ?_ ?_ ?_; (next => simp [rfyL, rfy, hget, ints, take_rfy, Int.toNat_natCast, hbl]); (next => simp [plainL, plain, plainR, Int.toNat_natCast, hbl]))
      | (with_reducible show wcallX _ false (.lit (.func (.func 32) _ _)) _ _ _ _; refine wcallX_fn (h32b) ?_ ?_ ?_; (next => simp [rfyL, rfy, hget, ints, take_rfy, Int.toNat_natCast, hbl]); (next => simp [plainL, plain, plainR, Int.toNat_natCast, hbl]))
      | (with_reducible refine wdW_cons ?_ ?_; (next => simp [chk, foot, compatB, argsOf, St.get, target, ev, look, lidsL, kind, wids, tops, opds, topId]; done))
      | omega)
    all_goals first | exact f0.1 _ | (simp [St.only, get_mk, look, show N0 + 2 * (0 + 1) - 1 = N + 1 from by have : N0 + 2 * 0 = N := hNe; omega]; done)
  · have hR' := hR hi0
    have hML : N0 + 2 * i - 1 < H.length := (List.getElem?_eq_some_iff.1 hR').1
    have f0 := fin (H.set (N0 + 2 * i - 1) .dead) (by simp [hN]) (fun id hid => by rw [List.getElem?_set_ne (by omega)]; exact hO id hid)
    have u5 : ∀ Y, (H ++ Y)[N0 + 2 * i - 1]? = some (.cells true false 1 (L.map fun x => [i64 x])) := fun Y => by rw [List.getElem?_append_left hML]; exact hR'
    have u6 : ∀ Y v, (H ++ Y).set (N0 + 2 * i - 1) v = H.set (N0 + 2 * i - 1) v ++ Y := fun Y v => List.set_append_left _ _ hML
    obtain ⟨u7, u8, u9, u10⟩ := cells_sub (X := []) (H := H.set (N0 + 2 * i - 1) .dead) (N := N0 + 2 * i) (by simp [hN])
    clear fin hR hO
    rw [hmap] at f0
    have t1 : List.take i (L.map fun x => [i64 x]) = L.map fun x => [i64 x] := List.take_of_length_le (by simp; omega)
    have e3 : N0 + 2 * (i + 1) - 1 = N0 + 2 * i + 1 := by omega
    have hi1 : i + 1 ≠ 0 := by omega
    unfold c20l0
    simp only [SLi, hi0, if_false]
    have hMN : N0 + 2 * i - 1 < N0 + 2 * i := by omega
    have hM0 : 0 < N0 + 2 * i - 1 := by omega
    generalize hMe : N0 + 2 * i - 1 = M at *
    generalize hNe : N0 + 2 * i = N at *
    replace f0 := And.intro f0 trivial
    replace hML := And.intro hML trivial
    replace hNe : id (N0 + 2 * i = N) := hNe
    replace hMe : id (N - 1 = M) := hMe
    replace e3 : id (N0 + 2 * (i + 1) - 1 = N + 1) := e3
    repeat' (first
      | ((with_reducible refine T_calm ?_ ?_); rfl)
      | with_reducible first
        | refine T_seq ?_
        | refine T_reg ?_
        | refine T_draw ?_
        | refine T_skip ?_
        | refine T_exit ?_
        | refine T_block ?_
        | refine T_cond_t rfl ?_
        | refine T_cond_f rfl ?_
        | refine wdW_cons rfl ?_
        | (show wcall _ false (.lit (.func (.func 24) _ _)) _ _ _ _; refine wcall_fn (h24) rfl (by simp [plainL, plain, plainR, Int.toNat_natCast, hbl]) ?_)
        | (show wcallX _ false (.lit (.func (.func 24) _ _)) _ _ _ _; refine wcallX_fn (h24) rfl (by simp [plainL, plain]) ?_)
        | (show wcall _ false (.lit (.func (.func 32) _ _)) _ _ _ _; refine wcall_fn (h32a) rfl (by simp [plainL, plain]) ?_)
        | (show wcallX _ false (.lit (.func (.func 32) _ _)) _ _ _ _; refine wcallX_fn (h32a) rfl (by simp [plainL, plain, plainR, Int.toNat_natCast, hbl]) ?_)
        | (show wcall _ false (.lit (.func (.func 32) _ _)) _ _ _ _; refine wcall_fn (h32b) rfl (by simp [plainL, plain]) ?_)
        | (show wcallX _ false (.lit (.func (.func 32) _ _)) _ _ _ _; refine wcallX_fn (h32b) rfl (by simp [plainL, plain, plainR, Int.toNat_natCast, hbl]) ?_)
        | ((first | refine T_cond rfl (fun hc => ?_) (fun hc => ?_) | refine wguard_split (fun hc => ?_) (fun hc => ?_) | refine wguardX_split (fun hc => ?_) (fun hc => ?_)) <;> have hd := hc <;> (try simp (disch := omega) only [wrapI] at hd) <;> have hs := hd <;> (try simp only [decide_eq_true_eq, decide_eq_false_iff_not, Int.not_lt] at hd) <;> (try simp at hs))
        | refine T_ret ?_
        | refine leave_of (.inr rfl) _ rfl ?_
        | refine leave_of (.inl rfl) _ rfl ?_
        | refine leaveA_of (.inr rfl) _ rfl ?_
        | refine leaveA_of (.inl rfl) _ rfl ?_
        | refine wif_intro ?_ (fun hc => ?_)
        | refine And.intro ?_ ?_
        | intro hc
      | simp (maxSteps := 4000000) only [wops_nil, wops_cons, wstep_none, wstep_some, wguard_ff, wrun_call, wrun_mv, wrun_pick, wrun_bin, wrun_not, wrun_load, wrun_faddr, wrun_iaddrS, wrun_bslice, wrun_app, wrunX_mv, wrunX_bin, wrunX_load, wrunX_faddr, wrunX_iaddrS, wrunX_bslice, wrunX_app, wdW_nil, wstepX_none, wrunX_call, wop, aop, ev, look, put_some, writes, ores_some, ores_ite_none, ores_none_ite, ores_map, binV, thenK, blockK, boolV, elsOf, szOk, value, cut, hget, fillA, putCells, AV.parts, isOne, toLits, mkAgg, List.flatten_cons, List.flatten_nil, rowsOf, List.map_cons, List.map_nil, List.length_cons, List.length_nil, List.getElem?_cons_zero, List.getElem?_cons_succ, List.set_cons_zero, List.set_cons_succ, List.take_succ_cons, List.take_zero, List.take_nil, List.drop_succ_cons, List.drop_zero, List.drop_nil, List.nil_append, List.append_nil, List.replicate_zero, List.replicate_succ, List.getD_cons_zero, List.all_cons, List.all_nil, List.isEmpty_cons, List.length_append, List.length_map, Option.getD_some, Option.map_some, if_true, if_false, Nat.reduceEqDiff, Nat.reduceAdd, Nat.add_zero, Nat.zero_add, Nat.sub_zero, Nat.mul_one, Nat.le_refl, reduceCtorEq, Bool.not_true, Bool.and_true, Bool.and_false, Bool.or_true, Bool.false_eq_true, eq_self, true_and, and_true, and_self, decide_true, beq_self_eq_true, Int.reduceNeg, freeze, lidsL, lids, List.flatMap_cons, List.flatMap_nil, List.all_cons, ren, Int.toNat_natCast, *]
      | simp (disch := omega) only [wrapI]
      | (with_reducible show wcall _ false (.lit (.func (.func 24) _ _)) _ _ _ _; refine wcall_fn (h24) ?_ ?_ ?_; (next => simp [rfyL, rfy, hget, ints, take_rfy, Int.toNat_natCast, hbl]); (next => simp [plainL, plain, plainR, Int.toNat_natCast, hbl]))
      | (with_reducible show wcallX _ false (.lit (.func (.func 24) _ _)) _ _ _ _; refine wcallX_fn (h24) ?_ ?_ ?_; (next => simp [rfyL, rfy, hget, ints, take_rfy, Int.toNat_natCast, hbl]); (next => simp [plainL, plain, plainR, Int.toNat_natCast, hbl]))
      | (with_reducible show wcall _ false (.lit (.func (.func 32) _ _)) _ _ _ _; refine wcall_fn (h32a) ?_ ?_ ?_; (next => simp [rfyL, rfy, hget, ints, take_rfy, Int.toNat_natCast, hbl]); (next => simp [plainL, plain, plainR, Int.toNat_natCast, hbl]))
      | (with_reducible show wcallX _ false (.lit (.func (.func 32) _ _)) _ _ _ _; refine wcallX_fn (h32a) ?_ ?_ ?_; (next => simp [rfyL, rfy, hget, ints, take_rfy, Int.toNat_natCast, hbl]); (next => simp [plainL, plain, plainR, Int.toNat_natCast, hbl]))
      | (with_reducible show wcall _ false (.lit (.func (.func 32) _ _)) _ _ _ _; refine wcall_fn (h32b) ?_ ?_ ?_; (next => simp [rfyL, rfy, hget, ints, take_rfy, Int.toNat_natCast, hbl]); (next => simp [plainL, plain, plainR, Int.toNat_natCast, hbl]))
      | (with_reducible show wcallX _ false (.lit (.func (.func 32) _ _)) _ _ _ _; refine wcallX_fn (h32b) ?_ ?_ ?_; (next => simp [rfyL, rfy, hget, ints, take_rfy, Int.toNat_natCast, hbl]); (next => simp [plainL, plain, plainR, Int.toNat_natCast, hbl]))
      | (with_reducible refine wdW_cons ?_ ?_; (next => simp [chk, foot, compatB, argsOf, St.get, target, ev, look, lidsL, kind, wids, tops, opds, topId]; done))
      | omega)
    all_goals first | exact f0.1 _ | (simp [St.only, get_mk, look]; exact e3.symm)
end
end Go.Abs
