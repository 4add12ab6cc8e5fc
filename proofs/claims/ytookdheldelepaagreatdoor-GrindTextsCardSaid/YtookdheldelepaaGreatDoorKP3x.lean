import Derived.Test.YtookdheldelepaaGreatDoorKP1x
set_option linter.all false
set_option linter.unusedVariables false
set_option linter.unusedSimpArgs false
set_option linter.unusedSectionVars false
namespace Go.Abs
open Go.Proofs
/-! a line of a stroke: the program's read -/
def strokeB : ByteArray := ⟨#[115, 116, 114, 111, 107, 101]⟩
def rdAll : List ByteArray → Option (List Int)
  | [] => some []
  | w :: r => match rdI w, rdAll r with
    | some v, some l => some (v :: l)
    | _, _ => none
def rdS (l : List ByteArray) : Option (ByteArray × List Int) := match l with
  | p0 :: p1 :: r => if (p0.toList == strokeB.toList) = true then (rdAll r).map fun l => (p1, l) else none
  | _ => none
def wvV (id : Nat) (vs : List Int) : AV := if vs = [] then .sl true 0 [] else .lsl id 0 vs.length
def wvB (vs : List Int) : List Blk := if vs = [] then [] else [.cells true false 1 (vs.map fun x => [i64 x])]
def rdV : Option (ByteArray × List Int) → AV
  | some (n, l) => .tup [.agg [strV n, wvV 0 l], bl true]
  | none => .tup [.agg [strV ⟨#[]⟩, .sl true 0 []], bl false]
def rdB : Option (ByteArray × List Int) → List Blk
  | some (_, l) => wvB l
  | none => []
theorem rdAll_get {ws : List ByteArray} {l : List Int} (h : rdAll ws = some l) : l.length = ws.length ∧ ∀ (k : Nat) (w : ByteArray), ws[k]? = some w → rdI w = l[k]? := by
  induction ws generalizing l with
  | nil => unfold rdAll at h; obtain rfl := Option.some.inj h; simp
  | cons w r ih =>
    unfold rdAll at h
    cases h1 : rdI w with
    | none => rw [h1] at h; simp at h
    | some v =>
      cases h2 : rdAll r with
      | none => rw [h1, h2] at h; simp at h
      | some t =>
        rw [h1, h2] at h
        obtain rfl := Option.some.inj h
        obtain ⟨a, b⟩ := ih h2
        refine ⟨by simp [a], fun k x hk => ?_⟩
        cases k with
        | zero => simp at hk; subst hk; simpa using h1
        | succ k => simpa using b k x (by simpa using hk)
theorem rdAll_no {ws : List ByteArray} {k : Nat} {w : ByteArray} (hk : ws[k]? = some w) (h : rdI w = none) : rdAll ws = none := by
  cases hr : rdAll ws with
  | none => rfl
  | some l =>
    obtain ⟨h1, h2⟩ := rdAll_get hr
    have := h2 k w hk
    rw [h] at this
    have hl : k < ws.length := (List.getElem?_eq_some_iff.1 hk).1
    rw [List.getElem?_eq_getElem (by omega)] at this
    simp at this
theorem cutL_len (c : UInt8) : ∀ s : List UInt8, (cutL c s).length ≤ s.length + 1
  | [] => by simp [cutL]
  | b :: r => by
    have ih := cutL_len c r
    by_cases hb : b = c
    · subst hb; rw [cutL_hit]; simp; omega
    · rw [cutL_miss hb]
      cases h : cutL c r with
      | nil => simp [att]
      | cons x t => rw [h] at ih; simp [att] at ih ⊢; omega
theorem pieces_len (s : ByteArray) (c : UInt8) : (pieces s ⟨#[c]⟩).length ≤ s.size + 1 := by
  have := cutL_len c s.data.toList
  rw [← pieces_cut, List.length_map, ba_len] at this
  exact this
theorem rdAll_snoc {ws : List ByteArray} {k : Nat} {w : ByteArray} {l : List Int} {v : Int} (hk : ws[k]? = some w) (h : rdAll (ws.take k) = some l) (hv : rdI w = some v) : rdAll (ws.take (k + 1)) = some (l ++ [v]) := by
  induction ws generalizing k l with
  | nil => simp at hk
  | cons x r ih =>
    cases k with
    | zero =>
      simp at hk; subst hk
      have h0 : l = [] := by simp [rdAll] at h; exact h
      subst h0
      simp [rdAll, hv]
    | succ k =>
      simp only [List.take_succ_cons] at h ⊢
      unfold rdAll at h ⊢
      cases h1 : rdI x with
      | none => rw [h1] at h; simp at h
      | some y =>
        cases h2 : rdAll (r.take k) with
        | none => rw [h1, h2] at h; simp at h
        | some t =>
          rw [h1, h2] at h
          obtain rfl := Option.some.inj h
          rw [ih (by simpa using hk) h2]
          rfl
abbrev zrB : Blk := .cells true false 2 [[strV ⟨#[]⟩, .sl true 0 []]]
def S48 (n : ByteArray) (ws : List ByteArray) (vs : List Int) (k : Nat) : St := ⟨[(2, .loc 0 0 0), (5, .loc 1 0 0), (27, texts false ws), (28, i64 ws.length), (29, i64 k)], [zrB, .cells true false 2 [[strV n, wvV 2 vs]]] ++ wvB vs⟩
theorem wv_app (id : Nat) (vs : List Int) (v : Int) : wvV id (vs ++ [v]) = .lsl id 0 (vs.length + 1) ∧ wvB (vs ++ [v]) = [.cells true false 1 (vs.map (fun x => [i64 x]) ++ [[i64 v]])] := by
  unfold wvV wvB
  simp
theorem take_int (vs : List Int) : List.take vs.length (vs.map fun x => [i64 x]) = vs.map fun x => [i64 x] := List.take_of_length_le (by simp)
theorem getD_txt {ws : List ByteArray} {k : Nat} {w : ByteArray} (h : ws[k]? = some w) : (ws.map fun x => [strV x]).getD k [] = [strV w] := by
  rw [List.getD_eq_getElem?_getD, List.getElem?_map, h]; rfl
abbrev bad48 (s : St) : Prop := look s.slots 3 = bl false ∧ look s.slots 2 = .loc 0 0 0 ∧ s.heap[0]? = some zrB
set_option maxHeartbeats 8000000 in
theorem k48r {n w : ByteArray} {ws : List ByteArray} {vs : List Int} {k : Nat} {v : Int} {b : Bool} (hk : ws[k]? = some w) (hl : ws.length ≤ 1000000) (hv : vs.length = k) (h53 : Fn Tryz.prog 53 [strV w] (.tup [i64 v, bl b]) []) :
    T none Tryz.prog muts 49 0 c48l0 (S48 n ws vs k) (fun e s => (b = false ∧ e = .ret ∧ bad48 s) ∨ (b = true ∧ e = .normal ∧ ∃ ids : List Nat, 0 ≤ s.heap.length ∧ (∀ id ∈ ids, 0 ≤ id ∧ id < s.heap.length) ∧ ids.Nodup ∧ s.keep 0 [2, 5, 27, 28, 29] ids = S48 n ws (vs ++ [v]) (k + 1))) := by
  have hkl : k < ws.length := (List.getElem?_eq_some_iff.1 hk).1
  have hg := getD_txt hk
  have hll : (ws.map fun x => [strV x]).length = ws.length := List.length_map _
  have hd : decide ((k : Int) < (ws.length : Int)) = true := decide_eq_true (by omega)
  obtain ⟨e1, e2⟩ := wv_app 2 vs v
  have hvl : (vs.map fun x => [i64 x]).length = vs.length := List.length_map _
  replace e1 := And.intro e1 trivial
  replace e2 := And.intro e2 trivial
  replace hv := PLift.up hv
  unfold c48l0
  by_cases h0 : vs = []
  · subst h0
    simp only [S48, wvV, wvB, if_true, List.append_nil]
    cases b with
    | false =>
      repeat' (first | (with_reducible first | refine T_seq ?_ | refine T_reg ?_ | refine T_skip ?_ | refine T_exit ?_ | refine T_block ?_ | refine T_cond_t rfl ?_ | refine T_cond_f rfl ?_ | (show wcall _ false (.lit (.func (.func 53) _ _)) _ _ _ _; refine wcall_fn (h53) rfl (by simp [plainL, plain]) ?_) | refine T_ret ?_ | refine leave_of (.inr rfl) _ rfl ?_ | refine leave_of (.inl rfl) _ rfl ?_ | refine wif_intro ?_ (fun hc => ?_) | refine And.intro ?_ ?_ | intro hc) | simp (maxSteps := 4000000) only [wops_nil, wops_cons, wstep_none, wrun_call, wrun_mv, wrun_bin, wrun_not, wrun_ext, wrun_build, wrun_load, wrun_store, wrun_iaddrS, wop, aop, ev, look, put_some, put_none, writes, ores_some, ores_ite_none, binV, thenK, blockK, boolV, value, cut, hget, fillA, putCells, AV.parts, isOne, toLits, mkAgg, List.map_cons, List.map_nil, List.length_cons, List.length_nil, List.getElem?_cons_zero, List.getElem?_cons_succ, List.set_cons_zero, List.take_succ_cons, List.take_zero, List.take_nil, List.drop_succ_cons, List.drop_zero, List.drop_nil, List.cons_append, List.nil_append, List.append_nil, List.replicate_zero, List.getD_cons_zero, List.all_cons, List.all_nil, Option.getD_some, Option.map_some, Option.map_none, if_true, if_false, Nat.reduceEqDiff, Nat.reduceAdd, Nat.reduceLT, Nat.zero_add, Nat.le_refl, reduceCtorEq, Bool.not_false, Bool.and_true, Bool.false_eq_true, eq_self, true_and, and_true, and_self, false_and, freeze, lidsL, lids, List.flatMap_cons, List.flatMap_nil, List.all_cons, ren, renL, Int.toNat_natCast, *] | simp (disch := omega) only [getD_ints, wrapI] | (with_reducible show wcall _ false (.lit (.func (.func 53) _ _)) _ _ _ _; refine wcall_fn (h53) ?_ ?_ ?_; (next => simp [rfyL, rfy, hget, ints, take_rfy, Int.toNat_natCast]); (next => simp [plainL, plain, plainR, Int.toNat_natCast])) | omega)
      all_goals first | (simp [bad48, look]; done)
    | true =>
      repeat' (first | (with_reducible first | refine T_seq ?_ | refine T_reg ?_ | refine T_skip ?_ | refine T_exit ?_ | refine T_block ?_ | refine T_cond_t rfl ?_ | refine T_cond_f rfl ?_ | (show wcall _ false (.lit (.func (.func 53) _ _)) _ _ _ _; refine wcall_fn (h53) rfl (by simp [plainL, plain]) ?_) | refine T_ret ?_ | refine leave_of (.inr rfl) _ rfl ?_ | refine leave_of (.inl rfl) _ rfl ?_ | refine wif_intro ?_ (fun hc => ?_) | refine And.intro ?_ ?_ | intro hc) | simp (maxSteps := 4000000) only [wops_nil, wops_cons, wstep_none, wrun_call, wrun_mv, wrun_bin, wrun_not, wrun_ext, wrun_load, wrun_store, wrun_faddr, wrun_iaddrS, wrun_bslice, wrun_app, wop, aop, ev, look, put_some, put_none, writes, ores_some, ores_ite_none, binV, thenK, blockK, boolV, elsOf, szOk, value, cut, hget, fillA, putCells, AV.parts, isOne, mkAgg, List.flatten_cons, List.flatten_nil, rowsOf, List.map_cons, List.map_nil, List.length_cons, List.length_nil, List.getElem?_cons_zero, List.getElem?_cons_succ, List.set_cons_zero, List.set_cons_succ, List.take_succ_cons, List.take_zero, List.take_nil, List.drop_succ_cons, List.drop_zero, List.drop_nil, List.cons_append, List.nil_append, List.append_nil, List.append_assoc, List.replicate_zero, List.replicate_succ, List.getD_cons_zero, List.all_cons, List.all_nil, List.isEmpty_cons, Option.getD_some, Option.map_some, if_true, if_false, Nat.reduceEqDiff, Nat.reduceAdd, Nat.reduceMul, Nat.reduceLeDiff, Nat.reduceLT, Nat.add_zero, Nat.zero_add, Nat.sub_zero, Nat.mul_one, Nat.le_refl, reduceCtorEq, Bool.not_true, Bool.and_true, Bool.or_true, Bool.false_eq_true, eq_self, true_and, and_true, and_self, false_and, beq_self_eq_true, freeze, lidsL, lids, List.flatMap_cons, List.flatMap_nil, List.all_cons, ren, renL, Int.toNat_natCast, *] | simp (disch := omega) only [wrapI] | (with_reducible show wcall _ false (.lit (.func (.func 53) _ _)) _ _ _ _; refine wcall_fn (h53) ?_ ?_ ?_; (next => simp [rfyL, rfy, hget, ints, take_rfy, Int.toNat_natCast]); (next => simp [plainL, plain, plainR, Int.toNat_natCast])) | omega)
      refine .inr ⟨[0, 1, 3], by simp, by simp, ?_⟩
      simp [St.keep, get_mk, look, ren, renL, renR, renB, renO, keepρ, pos, hget, renR_txt]
  · simp only [S48, wvV, wvB, h0, if_false, List.cons_append, List.nil_append]
    cases b with
    | false =>
      repeat' (first | (with_reducible first | refine T_seq ?_ | refine T_reg ?_ | refine T_skip ?_ | refine T_exit ?_ | refine T_block ?_ | refine T_cond_t rfl ?_ | refine T_cond_f rfl ?_ | (show wcall _ false (.lit (.func (.func 53) _ _)) _ _ _ _; refine wcall_fn (h53) rfl (by simp [plainL, plain]) ?_) | refine T_ret ?_ | refine leave_of (.inr rfl) _ rfl ?_ | refine leave_of (.inl rfl) _ rfl ?_ | refine wif_intro ?_ (fun hc => ?_) | refine And.intro ?_ ?_ | intro hc) | simp (maxSteps := 4000000) only [wops_nil, wops_cons, wstep_none, wrun_call, wrun_mv, wrun_bin, wrun_not, wrun_ext, wrun_build, wrun_load, wrun_store, wrun_iaddrS, wop, aop, ev, look, put_some, put_none, writes, ores_some, ores_ite_none, binV, thenK, blockK, boolV, value, cut, hget, fillA, putCells, AV.parts, isOne, toLits, mkAgg, List.map_cons, List.map_nil, List.length_cons, List.length_nil, List.getElem?_cons_zero, List.getElem?_cons_succ, List.set_cons_zero, List.take_succ_cons, List.take_zero, List.take_nil, List.drop_succ_cons, List.drop_zero, List.drop_nil, List.nil_append, List.append_nil, List.replicate_zero, List.getD_cons_zero, List.all_cons, List.all_nil, List.length_append, Option.getD_some, Option.map_some, Option.map_none, if_true, if_false, Nat.reduceEqDiff, Nat.reduceAdd, Nat.reduceLT, Nat.zero_add, Nat.le_refl, reduceCtorEq, Bool.not_false, Bool.and_true, Bool.false_eq_true, eq_self, true_and, and_true, and_self, false_and, freeze, lidsL, lids, List.flatMap_cons, List.flatMap_nil, List.all_cons, ren, renL, Int.toNat_natCast, *] | simp (disch := omega) only [getD_ints, wrapI] | (with_reducible show wcall _ false (.lit (.func (.func 53) _ _)) _ _ _ _; refine wcall_fn (h53) ?_ ?_ ?_; (next => simp [rfyL, rfy, hget, ints, take_rfy, Int.toNat_natCast]); (next => simp [plainL, plain, plainR, Int.toNat_natCast])) | omega)
      all_goals first | (simp [bad48, look]; done)
    | true =>
      have hvk : vs.length ≤ 1000000 := by have := hv.down; omega
      have hr16 : (vs.length + 1) * 8 ≤ 140737488355328 := by omega
      repeat' (first | (with_reducible first | refine T_seq ?_ | refine T_reg ?_ | refine T_skip ?_ | refine T_exit ?_ | refine T_block ?_ | refine T_cond_t rfl ?_ | refine T_cond_f rfl ?_ | (show wcall _ false (.lit (.func (.func 53) _ _)) _ _ _ _; refine wcall_fn (h53) rfl (by simp [plainL, plain]) ?_) | refine T_ret ?_ | refine leave_of (.inr rfl) _ rfl ?_ | refine leave_of (.inl rfl) _ rfl ?_ | refine wif_intro ?_ (fun hc => ?_) | refine And.intro ?_ ?_ | intro hc) | simp (maxSteps := 4000000) only [wops_nil, wops_cons, wstep_none, wrun_call, wrun_mv, wrun_bin, wrun_not, wrun_ext, wrun_load, wrun_store, wrun_faddr, wrun_iaddrS, wrun_bslice, wrun_app, wop, aop, ev, look, put_some, put_none, writes, ores_some, ores_ite_none, binV, thenK, blockK, boolV, elsOf, szOk, value, cut, hget, fillA, putCells, AV.parts, isOne, mkAgg, List.flatten_cons, List.flatten_nil, rowsOf, List.map_cons, List.map_nil, List.length_cons, List.length_nil, List.getElem?_cons_zero, List.getElem?_cons_succ, List.set_cons_zero, List.set_cons_succ, List.take_succ_cons, List.take_zero, List.take_nil, List.drop_succ_cons, List.drop_zero, List.drop_nil, List.cons_append, List.nil_append, List.append_nil, List.append_assoc, List.replicate_zero, List.replicate_succ, List.getD_cons_zero, List.all_cons, List.all_nil, List.isEmpty_cons, List.length_append, Option.getD_some, Option.map_some, if_true, if_false, Nat.reduceEqDiff, Nat.reduceAdd, Nat.reduceLeDiff, Nat.reduceLT, Nat.add_zero, Nat.zero_add, Nat.sub_zero, Nat.mul_one, Nat.le_refl, reduceCtorEq, Bool.not_true, Bool.and_true, Bool.and_false, Bool.or_true, Bool.false_eq_true, eq_self, true_and, and_true, and_self, false_and, beq_self_eq_true, freeze, lidsL, lids, List.flatMap_cons, List.flatMap_nil, List.all_cons, ren, renL, Int.toNat_natCast, take_int, *] | simp (disch := omega) only [wrapI] | (with_reducible show wcall _ false (.lit (.func (.func 53) _ _)) _ _ _ _; refine wcall_fn (h53) ?_ ?_ ?_; (next => simp [rfyL, rfy, hget, ints, take_rfy, Int.toNat_natCast, take_int]); (next => simp [plainL, plain, plainR, Int.toNat_natCast, take_int])) | omega)
      refine .inr ⟨[0, 1, 4], by simp, by simp, ?_⟩
      simp [St.keep, get_mk, look, ren, renL, renR, renB, renO, keepρ, pos, hget, renR_ints, renR_app4, renR_txt]
set_option maxHeartbeats 8000000 in
theorem k48p {s p0 p1 : ByteArray} {ws : List ByteArray} (hp : pieces s ⟨#[32]⟩ = p0 :: p1 :: ws) (h0 : (p0.toList == strokeB.toList) = true) (hz : s.size ≤ 1000000) : Fn Tryz.prog 48 [strV s] (rdV ((rdAll ws).map fun l => (p1, l))) (rdB ((rdAll ws).map fun l => (p1, l))) := by
  refine fn_of e48 ?_
  have hwz : ∀ w ∈ ws, w.size ≤ 1000000 := fun w hw => by
    have := pieces_le (s := s) (w := w) (c := 32) (by rw [hp]; exact List.mem_cons_of_mem _ (List.mem_cons_of_mem _ hw))
    omega
  have hwl : ws.length ≤ 1000000 := by
    have := pieces_len s 32
    rw [hp] at this
    simp at this; omega
  have h52 := k52 s ⟨#[32]⟩ (by omega) (by rw [size_strlit]; omega)
  rw [hp] at h52
  simp only [texts, List.map_cons] at h52
  have hR : ∀ l, rdAll ws = some l → rdV ((rdAll ws).map fun l => (p1, l)) = .tup [.agg [strV p1, wvV 0 l], bl true] ∧ rdB ((rdAll ws).map fun l => (p1, l)) = wvB l := fun l h => by rw [h]; exact ⟨rfl, rfl⟩
  have hB : ∀ (k : Nat) (w : ByteArray), ws[k]? = some w → rdI w = none → rdV ((rdAll ws).map fun l => (p1, l)) = .tup [.agg [strV ⟨#[]⟩, .sl true 0 []], bl false] ∧ rdB ((rdAll ws).map fun l => (p1, l)) = [] := fun k w h1 h2 => by rw [rdAll_no h1 h2]; exact ⟨rfl, rfl⟩
  generalize rdV ((rdAll ws).map fun l => (p1, l)) = R at *
  generalize rdB ((rdAll ws).map fun l => (p1, l)) = new at *
  have hll : (ws.map fun x => [strV x]).length = ws.length := List.length_map _
  have hlt : decide (((ws.length + 1 + 1 : Nat) : Int) < 2) = false := decide_eq_false (by omega)
  have hne : (p0.toList == (⟨#[115, 116, 114, 111, 107, 101]⟩ : ByteArray).toList) = true := h0
  replace hR := PLift.up hR
  replace hB := PLift.up hB
  replace hwz := PLift.up hwz
  clear hp h0
  unfold c48
  have htk : List.take ws.length (ws.map fun x => [strV x]) = ws.map fun x => [strV x] := List.take_of_length_le (by simp)
  repeat' (first | (with_reducible first | refine T_seq ?_ | refine T_reg ?_ | refine T_skip ?_ | refine T_exit ?_ | refine T_block ?_ | refine T_cond_t rfl ?_ | refine T_cond_f rfl ?_ | (show wcall _ false (.lit (.func (.func 52) _ _)) _ _ _ _; refine wcall_fn (h52) rfl (by simp [plainL, plain]) ?_) | refine T_ret ?_ | refine leave_of (.inr rfl) _ rfl ?_ | refine leave_of (.inl rfl) _ rfl ?_ | refine wif_intro ?_ (fun hc => ?_) | refine And.intro ?_ ?_ | intro hc) | simp (maxSteps := 4000000) only [wops_nil, wops_cons, wstep_none, wstep_some, wguard_ff, wrun_call, wrun_mv, wrun_pick, wrun_bin, wrun_build, wrun_load, wrun_store, wrun_iaddrS, wrun_slc, wrun_len, wrun_alloc, wop, aop, ev, look, put_some, put_none, writes, ores_some, ores_ite_none, ores_map, ores_bind, wif_true, binV, thenK, intV, lenOf, szOk, value, cut, hget, fillA, putCells, AV.parts, isOne, toLits, mkAgg, boundOf, List.map_cons, List.map_nil, List.length_cons, List.length_nil, List.getElem?_cons_zero, List.getElem?_cons_succ, List.set_cons_zero, List.set_cons_succ, List.take_succ_cons, List.take_zero, List.take_nil, List.drop_succ_cons, List.drop_zero, List.drop_nil, List.cons_append, List.nil_append, List.append_nil, List.append_assoc, List.replicate_zero, List.replicate_succ, List.getD_cons_zero, List.getD_cons_succ, List.zipIdx_cons, List.zipIdx_nil, List.all_cons, List.all_nil, Option.pure_def, Option.bind_eq_bind, Option.getD_some, Option.map_some, Option.map_none, if_true, if_false, Nat.reduceEqDiff, Nat.reduceAdd, Nat.reduceLeDiff, Nat.reduceLT, Nat.add_zero, Nat.zero_add, Nat.le_refl, reduceCtorEq, Bool.not_true, Bool.and_true, Bool.or_true, Bool.false_eq_true, eq_self, true_and, and_true, and_self, beq_self_eq_true, freeze, lidsL, lids, List.flatMap_cons, List.flatMap_nil, List.all_cons, ren, renL, renR, renR_txt, nt0, nt1, nt2, *] | simp (disch := omega) only [getD_ints, wrapI] | (with_reducible show wcall _ false (.lit (.func (.func 52) _ _)) _ _ _ _; refine wcall_fn (h52) ?_ ?_ ?_; (next => simp [rfyL, rfy, hget, ints, take_rfy, renR_txt, hll, htk, nt0, nt1, nt2]); (next => simp [plainL, plain, plainR, renR_txt, hll, htk, nt0, nt1, nt2])) | omega)
  refine T_for_keep [2, 5, 27, 28, 29] (fun k => S48 p1 ws ((rdAll (ws.take k)).getD []) k) ws.length (fun k => ∃ l, rdAll (ws.take k) = some l) 0 ⟨[0, 1], by simp, by simp, by simp, ?_⟩ ⟨[], rfl⟩ (Nat.zero_le _) ?_
  · simp [St.keep, get_mk, look, ren, renL, renR, renB, renO, keepρ, pos, hget, S48, wvV, wvB, rdAll, renR_txt]
  clear h52 hlt hne
  rintro k hk ⟨l, hl⟩
  rw [hl]
  simp only [Option.getD_some]
  have hll2 : l.length = k := by rw [(rdAll_get hl).1, List.length_take]; omega
  by_cases hkn : k < ws.length
  · obtain ⟨w, hw⟩ : ∃ w, ws[k]? = some w := ⟨ws[k], List.getElem?_eq_getElem hkn⟩
    obtain ⟨v, b, h53, hf, ht⟩ := k53 (hwz.down w (List.mem_of_getElem? hw))
    refine T_mono (k48r (n := p1) (vs := l) hw hwl hll2 h53) fun e st hx => ?_
    rcases hx with ⟨rfl, rfl, hb1, hb2, hb3⟩ | ⟨rfl, rfl, hg⟩
    · obtain ⟨rfl, rfl⟩ := hB.down k w hw (hf rfl)
      change leave 0 [ARes.cell 2 true 2, ARes.tmp 3] (fun r' H' => r' = .tup [.agg [strV ⟨#[]⟩, .sl true 0 []], bl false] ∧ H' = []) .ret st
      refine leave_of (.inr rfl) [.agg [strV ⟨#[]⟩, .sl true 0 []], bl false] ?_ ?_
      · simp [resL, resAV, St.get, hb1, hb2, aop, ev, hget, hb3, value, cut, mkAgg, toLits]
      · exact ⟨rfl, rfl⟩
    · have hs := rdAll_snoc hw hl (ht rfl)
      exact ⟨⟨hkn, _, hs⟩, by rw [hs]; exact hg⟩
  · have hke : k = ws.length := by omega
    subst hke
    rw [List.take_length] at hl
    obtain ⟨rfl, rfl⟩ := hR.down l hl
    clear hR hB hwz hl hll2
    unfold c48l0
    by_cases h0 : l = []
    · subst h0
      simp only [S48, wvV, wvB, if_true, List.append_nil]
      repeat' (first | (with_reducible first | refine T_seq ?_ | refine T_reg ?_ | refine T_skip ?_ | refine T_exit ?_ | refine T_block ?_ | refine T_cond_t rfl ?_ | refine T_cond_f rfl ?_ | ((first | refine T_cond rfl (fun hc => ?_) (fun hc => ?_) | refine wguard_split (fun hc => ?_) (fun hc => ?_)) <;> have hd := hc <;> (try simp (disch := omega) only [wrapI] at hd) <;> have hs := hd <;> (try simp only [decide_eq_true_eq, decide_eq_false_iff_not, Int.not_lt] at hd) <;> (try simp at hs)) | refine T_ret ?_ | refine leave_of (.inr rfl) _ rfl ?_ | refine leave_of (.inl rfl) _ rfl ?_ | refine wif_intro ?_ (fun hc => ?_) | refine And.intro ?_ ?_ | intro hc) | simp (maxSteps := 4000000) only [wops_nil, wops_cons, wstep_none, wrun_mv, wrun_bin, wrun_load, wrun_store, get_mk, wop, aop, ev, look, put_some, put_none, writes, ores_some, binV, thenK, blockK, value, cut, hget, putCells, AV.parts, isOne, toLits, mkAgg, tupOf, List.length_cons, List.length_nil, List.getElem?_cons_zero, List.getElem?_cons_succ, List.set_cons_zero, List.take_succ_cons, List.take_zero, List.take_nil, List.drop_succ_cons, List.drop_zero, List.drop_nil, List.cons_append, List.nil_append, List.append_nil, List.replicate_zero, List.getD_cons_zero, List.all_cons, List.all_nil, Option.getD_some, Option.map_some, Option.map_none, if_true, if_false, Nat.reduceEqDiff, Nat.reduceAdd, Nat.reduceLT, Nat.zero_add, Nat.le_refl, reduceCtorEq, Bool.and_true, eq_self, and_self, false_and, List.all_cons, ren, renL, renR, *] | simp (disch := omega) only [getD_ints, wrapI] | omega)
    · simp only [S48, wvV, wvB, h0, if_false, List.cons_append, List.nil_append]
      repeat' (first | (with_reducible first | refine T_seq ?_ | refine T_reg ?_ | refine T_skip ?_ | refine T_exit ?_ | refine T_block ?_ | refine T_cond_t rfl ?_ | refine T_cond_f rfl ?_ | ((first | refine T_cond rfl (fun hc => ?_) (fun hc => ?_) | refine wguard_split (fun hc => ?_) (fun hc => ?_)) <;> have hd := hc <;> (try simp (disch := omega) only [wrapI] at hd) <;> have hs := hd <;> (try simp only [decide_eq_true_eq, decide_eq_false_iff_not, Int.not_lt] at hd) <;> (try simp at hs)) | refine T_ret ?_ | refine leave_ids (.inr rfl) _ [2] rfl (by simp) (by simp) ?_ | refine leave_ids (.inl rfl) _ [2] rfl (by simp) (by simp) ?_ | refine wif_intro ?_ (fun hc => ?_) | refine And.intro ?_ ?_ | intro hc) | simp (maxSteps := 4000000) only [wops_nil, wops_cons, wstep_none, wrun_mv, wrun_bin, wrun_load, wrun_store, get_mk, wop, aop, ev, look, put_some, put_none, writes, ores_some, binV, thenK, blockK, value, cut, hget, putCells, AV.parts, isOne, toLits, mkAgg, tupOf, List.map_cons, List.map_nil, List.length_cons, List.length_nil, List.getElem?_cons_zero, List.getElem?_cons_succ, List.set_cons_zero, List.take_succ_cons, List.take_zero, List.take_nil, List.drop_succ_cons, List.drop_zero, List.drop_nil, List.nil_append, List.append_nil, List.replicate_zero, List.getD_cons_zero, List.all_cons, List.all_nil, Option.getD_some, Option.map_some, Option.map_none, if_true, if_false, Nat.reduceEqDiff, Nat.reduceAdd, Nat.reduceLT, Nat.zero_add, Nat.le_refl, reduceCtorEq, Bool.and_true, eq_self, and_self, false_and, List.all_cons, ren, renL, renB, renO, keepρ, pos, Nat.not_lt_zero, renR_ints, renR_ints, *] | simp (disch := omega) only [getD_ints, wrapI] | omega)
set_option maxHeartbeats 8000000 in
theorem k48s {s : ByteArray} (h : (pieces s ⟨#[32]⟩).length < 2) (hz : s.size ≤ 1000000) : Fn Tryz.prog 48 [strV s] (rdV none) [] := by
  refine fn_of e48 ?_
  have h52 := k52 s ⟨#[32]⟩ (by omega) (by rw [size_strlit]; omega)
  have hl := lenS_map (l := pieces s ⟨#[32]⟩)
  generalize pieces s ⟨#[32]⟩ = ps at *
  have hlt : decide ((ps.length : Int) < 2) = true := decide_eq_true (by omega)
  unfold rdV
  unfold c48
  repeat' (first | (with_reducible first | refine T_seq ?_ | refine T_reg ?_ | refine T_skip ?_ | refine T_exit ?_ | refine T_block ?_ | refine T_cond_t rfl ?_ | refine T_cond_f rfl ?_ | (show wcall _ false (.lit (.func (.func 52) _ _)) _ _ _ _; refine wcall_fn (h52) rfl (by simp [plainL, plain]) ?_) | refine T_ret ?_ | refine leave_of (.inr rfl) _ rfl ?_ | refine leave_of (.inl rfl) _ rfl ?_ | refine wif_intro ?_ (fun hc => ?_) | refine And.intro ?_ ?_ | intro hc) | simp (maxSteps := 4000000) only [wops_nil, wops_cons, wstep_none, wstep_some, wguard_tf, wrun_call, wrun_mv, wrun_pick, wrun_bin, wrun_build, wrun_store, wrun_len, wrun_alloc, get_mk, wop, aop, ev, look, put_some, put_none, writes, ores_some, ores_map, ores_bind, binV, thenK, intV, lenOf, cut, hget, fillA, putCells, AV.parts, isOne, toLits, mkAgg, tupOf, List.map_cons, List.map_nil, List.length_cons, List.length_nil, List.getElem?_cons_zero, List.set_cons_zero, List.take_succ_cons, List.take_zero, List.take_nil, List.drop_succ_cons, List.drop_zero, List.drop_nil, List.nil_append, List.append_nil, List.replicate_zero, List.replicate_succ, List.getD_cons_zero, List.zipIdx_cons, List.zipIdx_nil, List.all_cons, List.all_nil, Option.pure_def, Option.bind_eq_bind, Option.getD_some, Option.map_some, Option.map_none, if_true, if_false, Nat.reduceEqDiff, Nat.reduceAdd, Nat.reduceLT, Nat.add_zero, Nat.zero_add, Nat.le_refl, reduceCtorEq, Bool.and_true, eq_self, true_and, and_self, freeze, lidsL, lids, List.flatMap_cons, List.flatMap_nil, List.all_cons, ren, renL, renR, renR_txt, *] | simp (disch := omega) only [getD_ints, wrapI] | (with_reducible show wcall _ false (.lit (.func (.func 52) _ _)) _ _ _ _; refine wcall_fn (h52) ?_ ?_ ?_; (next => simp [rfyL, rfy, hget, ints, take_rfy, renR_txt, hl]); (next => simp [plainL, plain, plainR, renR_txt, hl])) | omega)
set_option maxHeartbeats 8000000 in
theorem k48n {s p0 p1 : ByteArray} {ws : List ByteArray} (hp : pieces s ⟨#[32]⟩ = p0 :: p1 :: ws) (h0 : (p0.toList == strokeB.toList) = false) (hz : s.size ≤ 1000000) : Fn Tryz.prog 48 [strV s] (rdV none) [] := by
  refine fn_of e48 ?_
  have h52 := k52 s ⟨#[32]⟩ (by omega) (by rw [size_strlit]; omega)
  rw [hp] at h52
  simp only [texts, List.map_cons] at h52
  have hll : (ws.map fun x => [strV x]).length = ws.length := List.length_map _
  have hlt : decide (((ws.length + 1 + 1 : Nat) : Int) < 2) = false := decide_eq_false (by omega)
  have hne : (p0.toList == (⟨#[115, 116, 114, 111, 107, 101]⟩ : ByteArray).toList) = false := h0
  clear hp h0
  unfold rdV
  unfold c48
  repeat' (first | (with_reducible first | refine T_seq ?_ | refine T_reg ?_ | refine T_skip ?_ | refine T_exit ?_ | refine T_block ?_ | refine T_cond_t rfl ?_ | refine T_cond_f rfl ?_ | (show wcall _ false (.lit (.func (.func 52) _ _)) _ _ _ _; refine wcall_fn (h52) rfl (by simp [plainL, plain]) ?_) | refine T_ret ?_ | refine leave_of (.inr rfl) _ rfl ?_ | refine leave_of (.inl rfl) _ rfl ?_ | refine wif_intro ?_ (fun hc => ?_) | refine And.intro ?_ ?_ | intro hc) | simp (maxSteps := 4000000) only [wops_nil, wops_cons, wstep_none, wstep_some, wguard_ff, wrun_call, wrun_mv, wrun_pick, wrun_bin, wrun_build, wrun_load, wrun_store, wrun_iaddrS, wrun_len, wrun_alloc, get_mk, wop, aop, ev, look, put_some, put_none, writes, ores_some, ores_ite_none, ores_map, ores_bind, binV, thenK, intV, lenOf, value, cut, hget, fillA, putCells, AV.parts, isOne, toLits, mkAgg, tupOf, List.map_cons, List.map_nil, List.length_cons, List.length_nil, List.getElem?_cons_zero, List.set_cons_zero, List.take_succ_cons, List.take_zero, List.take_nil, List.drop_succ_cons, List.drop_zero, List.drop_nil, List.nil_append, List.append_nil, List.replicate_zero, List.replicate_succ, List.getD_cons_zero, List.zipIdx_cons, List.zipIdx_nil, List.all_cons, List.all_nil, Option.pure_def, Option.bind_eq_bind, Option.getD_some, Option.map_some, Option.map_none, if_true, if_false, Nat.reduceEqDiff, Nat.reduceAdd, Nat.reduceLT, Nat.add_zero, Nat.zero_add, Nat.le_refl, reduceCtorEq, Bool.not_false, Bool.and_true, Bool.false_eq_true, eq_self, true_and, and_true, and_self, freeze, lidsL, lids, List.flatMap_cons, List.flatMap_nil, List.all_cons, ren, renL, renR, renR_txt, nt0, *] | simp (disch := omega) only [getD_ints, wrapI] | (with_reducible show wcall _ false (.lit (.func (.func 52) _ _)) _ _ _ _; refine wcall_fn (h52) ?_ ?_ ?_; (next => simp [rfyL, rfy, hget, ints, take_rfy, renR_txt, hll, nt0, nt1, nt2]); (next => simp [plainL, plain, plainR, renR_txt, hll, nt0, nt1, nt2])) | omega)
set_option maxHeartbeats 8000000 in
theorem k48 {s : ByteArray} (hz : s.size ≤ 1000000) : Fn Tryz.prog 48 [strV s] (rdV (rdS (pieces s ⟨#[32]⟩))) (rdB (rdS (pieces s ⟨#[32]⟩))) := by
  match hp : pieces s ⟨#[32]⟩ with
  | [] => exact k48s (by rw [hp]; simp) hz
  | [p] => exact k48s (by rw [hp]; simp) hz
  | p0 :: p1 :: ws =>
    unfold rdS
    dsimp only
    cases h0 : (p0.toList == strokeB.toList) with
    | true => rw [if_pos rfl]; exact k48p hp h0 hz
    | false => rw [if_neg (by simp)]; exact k48n hp h0 hz
end Go.Abs
