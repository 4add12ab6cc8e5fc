import Derived.Test.YtdedhipkncagjaaK506x
set_option linter.all false
set_option linter.unusedVariables false
set_option linter.unusedSimpArgs false
set_option linter.unusedSectionVars false
namespace Go.Abs
open Go.Proofs
/-! Meets -/
def mts (xs : List Int) (pk sl : Int) : List (Nat × Nat) → Int × Int × Int
  | [] => (0, 0, 0)
  | (i, k) :: r => if i < k ∧ szI (xs.getD i 0 - xs.getD k 0) > bdI pk sl i k then (26, i, k) else mts xs pk sl r
abbrev H12 (nl : Bool) (xs : List Int) (pk sl e i k : Int) (t : List Blk) : List Blk := .cells true false 1 [[ints nl xs]] :: .cells true false 2 [[i64 pk, i64 sl]] :: .cells true false 2 [[i64 i, i64 k]] :: .cells true false 1 [[i64 e]] :: .cells true false 1 [[i64 xs.length]] :: t
set_option maxHeartbeats 8000000 in
theorem k12b {nl : Bool} {xs : List Int} {pk sl : Int} {i k : Nat} {l bb : Nat} {sl0 : List (Nat × AV)} (hX1 : FOk xs) (hi : i < xs.length) (hk : k < xs.length) (hsl : 0 ≤ sl ∧ sl ≤ 200000) (K : Exit → St → Prop)
    (hX : (i < k ∧ szI (xs.getD i 0 - xs.getD k 0) > bdI pk sl i k) → ∀ τ : St, τ.heap = H12 nl xs pk sl 26 i k [.obj .lpx] → K .ret τ)
    (hN : ¬(i < k ∧ szI (xs.getD i 0 - xs.getD k 0) > bdI pk sl i k) → ∀ τ : St, τ.heap = H12 nl xs pk sl 0 0 0 [.obj .lpx] → K .normal τ) :
    T (some l) Try.prog muts 52 bb c12r0 ⟨[(9, i64 k), (8, i64 i), (2, .loc 0 0 0), (3, .loc 1 0 0), (4, .loc 2 0 0), (5, .loc 3 0 0)], H12 nl xs pk sl 0 0 0 [.obj .lpx]⟩ K := by
  have hn := hX1.l
  have hri := hX1.r i hi
  have hrk := hX1.r k hk
  have gi : (xs.map fun x => [i64 x]).getD i [] = [i64 (xs.getD i 0)] := getD_ints hi
  have gk : (xs.map fun x => [i64 x]).getD k [] = [i64 (xs.getD k 0)] := getD_ints hk
  have hlh := (by simp : (xs.map fun x => [i64 x]).length = xs.length)
  have h32 := k32 pk sl i k hsl (by omega) (by omega)
  have h31 := k31 (xs.getD i 0 - xs.getD k 0) (by omega)
  obtain ⟨D, hD, ew1⟩ : ∃ D, xs.getD i 0 - xs.getD k 0 = D ∧ IntKind.i64.wrap (xs.getD i 0 - xs.getD k 0) = D := ⟨_, rfl, wrapI (by omega) (by omega)⟩
  rw [hD] at h31 hX hN
  have ei : (i : Int) < (xs.length : Int) := by omega
  have ek : (k : Int) < (xs.length : Int) := by omega
  have cond : (i < k) = ((i : Int) < (k : Int)) := propext (by omega)
  rw [cond] at hX hN
  clear cond hX1 hri hrk hsl hD
  generalize bdI pk sl i k = B at *
  generalize xs.getD i 0 = xi at *
  generalize xs.getD k 0 = xk at *
  generalize szI D = Z at *
  by_cases h1 : (i : Int) < (k : Int)
  · have d1 : decide ((i : Int) < (k : Int)) = true := decide_eq_true h1
    by_cases h2 : Z > B
    · have d2 : decide (Z > B) = true := decide_eq_true h2
      have f := PLift.up (hX ⟨h1, h2⟩)
      clear hX hN h2
      unfold c12r0
      repeat' (first | ((with_reducible refine T_calm ?_ ?_); rfl) | (with_reducible first | refine T_seq ?_ | refine T_reg ?_ | refine T_draw ?_ | refine T_skip ?_ | refine T_exit ?_ | refine T_block ?_ | refine T_cond_t rfl ?_ | refine T_cond_f rfl ?_ | refine wdW_cons rfl ?_ | (show wcall _ false (.lit (.func (.func 31) _ _)) _ _ _ _; refine wcall_fn (h31) rfl (by simp [plainL, plain, plainR, Int.toNat_natCast]) ?_) | (show wcallX _ false (.lit (.func (.func 31) _ _)) _ _ _ _; refine wcallX_fn (h31) rfl (by simp [plainL, plain]) ?_) | (show wcall _ false (.lit (.func (.func 32) _ _)) _ _ _ _; refine wcall_fn (h32) rfl (by simp [plainL, plain, plainR, Int.toNat_natCast]) ?_) | (show wcallX _ false (.lit (.func (.func 32) _ _)) _ _ _ _; refine wcallX_fn (h32) rfl (by simp [plainL, plain]) ?_) | refine T_ret ?_ | refine wif_intro ?_ (fun hc => ?_) | refine And.intro ?_ ?_ | intro hc) | simp (maxSteps := 4000000) only [wops_nil, wops_cons, wstep_none, wrun_mv, wrun_pick, wrun_bin, wrun_build, wrun_load, wrun_store, wrun_iaddrS, wrunX_mv, wrunX_pick, wrunX_bin, wrunX_build, wrunX_load, wrunX_iaddrS, wdW_nil, wstepX_none, wstepX_some, wguardX_true, wrunX_call, wop, aop, ev, look, put_some, put_none, writes, ores_some, ores_ite_none, ores_map, wif_true, binV, thenK, blockK, value, cut, hget, fillA, putCells, AV.parts, isOne, toLits, mkAgg, ofValue_int, List.map_cons, List.map_nil, List.length_cons, List.length_nil, List.getElem?_cons_zero, List.getElem?_cons_succ, List.set_cons_zero, List.set_cons_succ, List.take_succ_cons, List.take_zero, List.take_nil, List.drop_succ_cons, List.drop_zero, List.drop_nil, List.cons_append, List.nil_append, List.append_nil, List.append_assoc, List.replicate_zero, List.getD_cons_zero, List.all_cons, List.all_nil, List.length_append, Option.getD_some, Option.map_some, if_true, if_false, Nat.reduceEqDiff, Nat.reduceAdd, Nat.reduceLeDiff, Nat.reduceLT, Nat.zero_add, Nat.le_refl, reduceCtorEq, Bool.and_true, Bool.false_eq_true, eq_self, true_and, and_true, and_self, decide_true, freeze, lidsL, lids, List.flatMap_cons, List.flatMap_nil, List.all_cons, ren, Int.toNat_natCast, *] | simp (disch := omega) only [getD_ints, wrapI] | (with_reducible show wcall _ false (.lit (.func (.func 31) _ _)) _ _ _ _; refine wcall_fn (h31) ?_ ?_ ?_; (next => simp [rfyL, rfy, hget, ints, take_rfy, Int.toNat_natCast]); (next => simp [plainL, plain, plainR, Int.toNat_natCast])) | (with_reducible show wcallX _ false (.lit (.func (.func 31) _ _)) _ _ _ _; refine wcallX_fn (h31) ?_ ?_ ?_; (next => simp [rfyL, rfy, hget, ints, take_rfy, Int.toNat_natCast]); (next => simp [plainL, plain, plainR, Int.toNat_natCast])) | (with_reducible show wcall _ false (.lit (.func (.func 32) _ _)) _ _ _ _; refine wcall_fn (h32) ?_ ?_ ?_; (next => simp [rfyL, rfy, hget, ints, take_rfy, Int.toNat_natCast]); (next => simp [plainL, plain, plainR, Int.toNat_natCast])) | (with_reducible show wcallX _ false (.lit (.func (.func 32) _ _)) _ _ _ _; refine wcallX_fn (h32) ?_ ?_ ?_; (next => simp [rfyL, rfy, hget, ints, take_rfy, Int.toNat_natCast]); (next => simp [plainL, plain, plainR, Int.toNat_natCast])) | (with_reducible refine wdW_cons ?_ ?_; (next => simp [chk, foot, compatB, argsOf, St.get, target, ev, look, lidsL, hget, kind, AOp.isRaw, wids, wtops, tops, opds, topId, Int.toNat_natCast]; done)) | omega)
      all_goals first | exact f.down _ rfl
    · have d2 : decide (Z > B) = false := decide_eq_false h2
      have f := PLift.up (hN fun h => h2 h.2)
      clear hX hN h2
      unfold c12r0
      repeat' (first | ((with_reducible refine T_calm ?_ ?_); rfl) | (with_reducible first | refine T_seq ?_ | refine T_reg ?_ | refine T_draw ?_ | refine T_skip ?_ | refine T_exit ?_ | refine T_block ?_ | refine T_cond_t rfl ?_ | refine T_cond_f rfl ?_ | refine wdW_cons rfl ?_ | (show wcall _ false (.lit (.func (.func 31) _ _)) _ _ _ _; refine wcall_fn (h31) rfl (by simp [plainL, plain, plainR, Int.toNat_natCast]) ?_) | (show wcallX _ false (.lit (.func (.func 31) _ _)) _ _ _ _; refine wcallX_fn (h31) rfl (by simp [plainL, plain]) ?_) | (show wcall _ false (.lit (.func (.func 32) _ _)) _ _ _ _; refine wcall_fn (h32) rfl (by simp [plainL, plain, plainR, Int.toNat_natCast]) ?_) | (show wcallX _ false (.lit (.func (.func 32) _ _)) _ _ _ _; refine wcallX_fn (h32) rfl (by simp [plainL, plain]) ?_) | refine T_ret ?_ | refine wif_intro ?_ (fun hc => ?_) | refine And.intro ?_ ?_ | intro hc) | simp (maxSteps := 4000000) only [wrun_mv, wrun_pick, wrun_bin, wrun_build, wrun_load, wrun_iaddrS, wrunX_mv, wrunX_pick, wrunX_bin, wrunX_build, wrunX_load, wrunX_iaddrS, wdW_nil, wstepX_none, wstepX_some, wguardX_true, wrunX_call, wop, aop, ev, look, put_some, writes, ores_some, ores_ite_none, binV, thenK, blockK, value, cut, hget, fillA, putCells, AV.parts, isOne, toLits, mkAgg, ofValue_int, List.map_cons, List.map_nil, List.length_cons, List.length_nil, List.getElem?_cons_zero, List.getElem?_cons_succ, List.take_succ_cons, List.take_zero, List.take_nil, List.drop_succ_cons, List.drop_zero, List.drop_nil, List.nil_append, List.append_nil, List.replicate_zero, List.getD_cons_zero, List.all_cons, List.all_nil, Option.getD_some, Option.map_some, if_true, if_false, Nat.reduceEqDiff, Nat.reduceAdd, Nat.zero_add, Nat.le_refl, reduceCtorEq, Bool.and_true, Bool.false_eq_true, eq_self, and_true, and_self, decide_true, freeze, lidsL, lids, List.flatMap_cons, List.flatMap_nil, List.all_cons, ren, Int.toNat_natCast, *] | simp (disch := omega) only [getD_ints, wrapI] | (with_reducible show wcall _ false (.lit (.func (.func 31) _ _)) _ _ _ _; refine wcall_fn (h31) ?_ ?_ ?_; (next => simp [rfyL, rfy, hget, ints, take_rfy, Int.toNat_natCast]); (next => simp [plainL, plain, plainR, Int.toNat_natCast])) | (with_reducible show wcallX _ false (.lit (.func (.func 31) _ _)) _ _ _ _; refine wcallX_fn (h31) ?_ ?_ ?_; (next => simp [rfyL, rfy, hget, ints, take_rfy, Int.toNat_natCast]); (next => simp [plainL, plain, plainR, Int.toNat_natCast])) | (with_reducible show wcall _ false (.lit (.func (.func 32) _ _)) _ _ _ _; refine wcall_fn (h32) ?_ ?_ ?_; (next => simp [rfyL, rfy, hget, ints, take_rfy, Int.toNat_natCast]); (next => simp [plainL, plain, plainR, Int.toNat_natCast])) | (with_reducible show wcallX _ false (.lit (.func (.func 32) _ _)) _ _ _ _; refine wcallX_fn (h32) ?_ ?_ ?_; (next => simp [rfyL, rfy, hget, ints, take_rfy, Int.toNat_natCast]); (next => simp [plainL, plain, plainR, Int.toNat_natCast])) | (with_reducible refine wdW_cons ?_ ?_; (next => simp [chk, foot, compatB, argsOf, St.get, target, ev, look, lidsL, hget, kind, AOp.isRaw, wids, wtops, tops, opds, topId, Int.toNat_natCast]; done)) | omega)
      all_goals first | exact f.down _ rfl
  · have d1 : decide ((i : Int) < (k : Int)) = false := decide_eq_false h1
    have f := PLift.up (hN fun h => h1 h.1)
    clear hX hN
    unfold c12r0
    repeat' (first | ((with_reducible refine T_calm ?_ ?_); rfl) | (with_reducible first | refine T_seq ?_ | refine T_reg ?_ | refine T_draw ?_ | refine T_skip ?_ | refine T_exit ?_ | refine T_block ?_ | refine T_cond_t rfl ?_ | refine T_cond_f rfl ?_ | refine wdW_cons rfl ?_ | (show wcall _ false (.lit (.func (.func 31) _ _)) _ _ _ _; refine wcall_fn (h31) rfl (by simp [plainL, plain, plainR, Int.toNat_natCast]) ?_) | (show wcallX _ false (.lit (.func (.func 31) _ _)) _ _ _ _; refine wcallX_fn (h31) rfl (by simp [plainL, plain, plainR, Int.toNat_natCast]) ?_) | (show wcall _ false (.lit (.func (.func 32) _ _)) _ _ _ _; refine wcall_fn (h32) rfl (by simp [plainL, plain, plainR, Int.toNat_natCast]) ?_) | (show wcallX _ false (.lit (.func (.func 32) _ _)) _ _ _ _; refine wcallX_fn (h32) rfl (by simp [plainL, plain, plainR, Int.toNat_natCast]) ?_) | refine T_ret ?_ | refine wif_intro ?_ (fun hc => ?_) | refine And.intro ?_ ?_ | intro hc) | simp (maxSteps := 4000000) only [wrun_mv, wrun_pick, wrun_bin, wrunX_mv, wrunX_pick, wrunX_bin, wdW_nil, wstepX_none, wstepX_some, wguardX_ft, wop, aop, ev, look, put_some, writes, ores_some, binV, thenK, blockK, List.length_cons, List.length_nil, List.append_nil, List.replicate_zero, Option.map_some, if_true, if_false, Nat.reduceEqDiff, Nat.reduceAdd, Nat.zero_add, reduceCtorEq, Bool.false_eq_true, eq_self, decide_false, Int.toNat_natCast, *] | simp (disch := omega) only [getD_ints, wrapI] | (with_reducible show wcall _ false (.lit (.func (.func 31) _ _)) _ _ _ _; refine wcall_fn (h31) ?_ ?_ ?_; (next => simp [rfyL, rfy, hget, ints, take_rfy, Int.toNat_natCast]); (next => simp [plainL, plain, plainR, Int.toNat_natCast])) | (with_reducible show wcallX _ false (.lit (.func (.func 31) _ _)) _ _ _ _; refine wcallX_fn (h31) ?_ ?_ ?_; (next => simp [rfyL, rfy, hget, ints, take_rfy, Int.toNat_natCast]); (next => simp [plainL, plain, plainR, Int.toNat_natCast])) | (with_reducible show wcall _ false (.lit (.func (.func 32) _ _)) _ _ _ _; refine wcall_fn (h32) ?_ ?_ ?_; (next => simp [rfyL, rfy, hget, ints, take_rfy, Int.toNat_natCast]); (next => simp [plainL, plain, plainR, Int.toNat_natCast])) | (with_reducible show wcallX _ false (.lit (.func (.func 32) _ _)) _ _ _ _; refine wcallX_fn (h32) ?_ ?_ ?_; (next => simp [rfyL, rfy, hget, ints, take_rfy, Int.toNat_natCast]); (next => simp [plainL, plain, plainR, Int.toNat_natCast])) | (with_reducible refine wdW_cons ?_ ?_; (next => simp [chk, foot, compatB, argsOf, St.get, target, ev, look, lidsL, hget, kind, AOp.isRaw, wids, wtops, tops, opds, topId, Int.toNat_natCast]; done)) | omega)
    all_goals first | exact f.down _ rfl
set_option maxHeartbeats 8000000 in
theorem k12 {nl : Bool} {xs : List Int} {pk sl E I J : Int} (hF : FOk xs) (hp : 0 ≤ pk ∧ pk ≤ 200000) (hsl : 0 ≤ sl ∧ sl ≤ 200000) (hj : mts xs pk sl (prs xs.length) = (E, I, J)) : Fn Try.prog 12 [ints nl xs, tlV pk sl] (.tup [.lit (.agg #[.int .i64 I, .int .i64 J]), i64 E]) [] := by
  refine fn_of e12 ?_
  have hlh := (by simp : (xs.map fun x => [i64 x]).length = xs.length)
  have hn := hF.l
  have h28 := k28 nl xs hF
  have h29 := k29 hp hsl
  have h30 := k30 (xs.length : Int)
  have hit := PLift.up (i59 4 xs.length (by omega))
  have hbody := PLift.up (fun (i k : Nat) hi hk sl0 bb K hX hN => k12b (nl := nl) (xs := xs) (pk := pk) (sl := sl) (i := i) (k := k) (l := sl0) (bb := bb) (sl0 := []) hF hi hk hsl K hX hN)
  clear hF hsl hp
  unfold c12
  repeat' (first | ((with_reducible refine T_calm ?_ ?_); rfl) | (with_reducible first | refine T_seq ?_ | refine T_reg ?_ | refine T_draw ?_ | refine T_skip ?_ | refine T_exit ?_ | refine T_block ?_ | refine T_cond_t rfl ?_ | refine T_cond_f rfl ?_ | refine wdW_cons rfl ?_ | (show wcall _ false (.lit (.func (.func 28) _ _)) _ _ _ _; refine wcall_fn (h28) rfl (by simp [plainL, plain]) ?_) | (show wcallX _ false (.lit (.func (.func 28) _ _)) _ _ _ _; refine wcallX_fn (h28) rfl (by simp [plainL, plain, plainR, Int.toNat_natCast]) ?_) | (show wcall _ false (.lit (.func (.func 29) _ _)) _ _ _ _; refine wcall_fn (h29) rfl (by simp [plainL, plain]) ?_) | (show wcallX _ false (.lit (.func (.func 29) _ _)) _ _ _ _; refine wcallX_fn (h29) rfl (by simp [plainL, plain, plainR, Int.toNat_natCast]) ?_) | (show wcall _ false (.lit (.func (.func 30) _ _)) _ _ _ _; refine wcall_fn (h30) rfl (by simp [plainL, plain]) ?_) | (show wcallX _ false (.lit (.func (.func 30) _ _)) _ _ _ _; refine wcallX_fn (h30) rfl (by simp [plainL, plain, plainR, Int.toNat_natCast]) ?_) | refine T_ret ?_ | refine wif_intro ?_ (fun hc => ?_) | refine And.intro ?_ ?_ | intro hc) | simp (maxSteps := 4000000) only [wops_nil, wops_cons, wstep_none, wrun_call, wrun_mv, wrun_bin, wrun_load, wrun_len, wrun_alloc, wrun_box, wop, aop, ev, look, put_some, writes, ores_some, ores_map, ores_bind, binV, thenK, intV, lenOf, value, cut, hget, AV.parts, isOne, toLits, mkAgg, ofValue_int, List.map_cons, List.map_nil, List.length_cons, List.length_nil, List.getElem?_cons_zero, List.getElem?_cons_succ, List.set_cons_zero, List.set_cons_succ, List.take_succ_cons, List.take_nil, List.drop_zero, List.cons_append, List.nil_append, List.append_nil, List.replicate_zero, List.replicate_succ, List.getD_cons_zero, List.zipIdx_cons, List.zipIdx_nil, List.all_cons, List.all_nil, Option.pure_def, Option.bind_eq_bind, Option.getD_some, Option.map_some, if_true, if_false, Nat.reduceEqDiff, Nat.reduceAdd, Nat.add_zero, Nat.zero_add, Nat.zero_ne_one, reduceCtorEq, Bool.and_true, Bool.false_eq_true, eq_self, true_and, and_self, freeze, lidsL, lids, List.flatMap_cons, List.flatMap_nil, List.all_cons, ren, renL, renR, renB, shiftρ, *] | simp (disch := omega) only [getD_ints, wrapI] | (with_reducible show wcall _ false (.lit (.func (.func 28) _ _)) _ _ _ _; refine wcall_fn (h28) ?_ ?_ ?_; (next => simp [rfyL, rfy, hget, ints, take_rfy, Int.toNat_natCast]); (next => simp [plainL, plain, plainR, Int.toNat_natCast])) | (with_reducible show wcallX _ false (.lit (.func (.func 28) _ _)) _ _ _ _; refine wcallX_fn (h28) ?_ ?_ ?_; (next => simp [rfyL, rfy, hget, ints, take_rfy, Int.toNat_natCast]); (next => simp [plainL, plain, plainR, Int.toNat_natCast])) | (with_reducible show wcall _ false (.lit (.func (.func 29) _ _)) _ _ _ _; refine wcall_fn (h29) ?_ ?_ ?_; (next => simp [rfyL, rfy, hget, ints, take_rfy, Int.toNat_natCast]); (next => simp [plainL, plain, plainR, Int.toNat_natCast])) | (with_reducible show wcallX _ false (.lit (.func (.func 29) _ _)) _ _ _ _; refine wcallX_fn (h29) ?_ ?_ ?_; (next => simp [rfyL, rfy, hget, ints, take_rfy, Int.toNat_natCast]); (next => simp [plainL, plain, plainR, Int.toNat_natCast])) | (with_reducible show wcall _ false (.lit (.func (.func 30) _ _)) _ _ _ _; refine wcall_fn (h30) ?_ ?_ ?_; (next => simp [rfyL, rfy, hget, ints, take_rfy, Int.toNat_natCast]); (next => simp [plainL, plain, plainR, Int.toNat_natCast])) | (with_reducible show wcallX _ false (.lit (.func (.func 30) _ _)) _ _ _ _; refine wcallX_fn (h30) ?_ ?_ ?_; (next => simp [rfyL, rfy, hget, ints, take_rfy, Int.toNat_natCast]); (next => simp [plainL, plain, plainR, Int.toNat_natCast])) | omega)
  refine T_range (gf := 59) (first := []) (cap := [.loc 4 0 0]) (n := (prs xs.length).length) (E := EP xs.length) (Bc := BP 4 xs.length)
    (fun k H => mts xs pk sl ((prs xs.length).drop k) = (E, I, J) ∧ H = H12 nl xs pk sl 0 0 0 [.obj .lpx])
    (fun e H => e = .ret ∧ H = H12 nl xs pk sl E I J [.obj .lpx]) rfl hit.down ?_ ?_ ?_ ?_ ?_ ?_ ?_
  · rintro k H ⟨_, rfl⟩
    exact ⟨_, _, rfl⟩
  · rintro H r s ⟨o, nn, h⟩ hh
    refine ⟨o, nn, ?_⟩
    rwa [List.getElem?_set_ne (by simp)] at h
  · rintro k H r s args h _
    exact h
  · exact ⟨hj, rfl⟩
  · rintro k H args hk ⟨ha, rfl⟩ hlp ⟨p, hp, rfl⟩
    obtain ⟨h1, h2⟩ := prs_lt (List.mem_of_getElem? hp)
    refine ⟨rfl, _, rfl, fun l => ?_⟩
    have hd : (prs xs.length).drop k = p :: (prs xs.length).drop (k + 1) := by
      rw [List.drop_eq_getElem_cons hk]
      rw [List.getElem?_eq_getElem hk] at hp
      rw [Option.some.inj hp]
    rw [hd] at ha
    refine T_onlyU (S := ⟨[(9, i64 p.2), (8, i64 p.1), (2, .loc 0 0 0), (3, .loc 1 0 0), (4, .loc 2 0 0), (5, .loc 3 0 0)], H12 nl xs pk sl 0 0 0 [.obj .lpx]⟩) [9, 8, 2, 3, 4, 5] ?_ (hbody.down p.1 p.2 h1 h2 l _ _ ?_ ?_)
    · simp [St.only, get_mk, look]
    · intro hx τ ht
      unfold mts at ha
      rw [if_pos hx] at ha
      simp only [Prod.mk.injEq] at ha
      obtain ⟨rfl, rfl, rfl⟩ := ha
      refine ⟨by rw [ht]; rfl, rfl, ht⟩
    · intro hx τ ht
      unfold mts at ha
      rw [if_neg hx] at ha
      exact ⟨by rw [ht]; rfl, ha, ht⟩
  · rintro H ⟨ha, rfl⟩
    rw [List.drop_length] at ha
    unfold mts at ha
    simp only [Prod.mk.injEq] at ha
    obtain ⟨rfl, rfl, rfl⟩ := ha
    clear hit hbody h30 h28 h29
    repeat' (first | ((with_reducible refine T_calm ?_ ?_); rfl) | (with_reducible first | refine T_seq ?_ | refine T_reg ?_ | refine T_draw ?_ | refine T_skip ?_ | refine T_exit ?_ | refine T_block ?_ | refine T_cond_t rfl ?_ | refine T_cond_f rfl ?_ | refine wdW_cons rfl ?_ | refine T_ret ?_ | refine wif_intro ?_ (fun hc => ?_) | refine And.intro ?_ ?_ | intro hc) | simp (maxSteps := 4000000) only [wops_nil, wops_cons, wstep_none, wrun_build, wrun_store, wop, aop, ev, look, put_some, put_none, writes, ores_some, thenK, blockK, hget, fillA, putCells, AV.parts, isOne, toLits, mkAgg, ofValue_int, List.map_cons, List.map_nil, List.length_cons, List.length_nil, List.getElem?_cons_zero, List.getElem?_cons_succ, List.set_cons_zero, List.set_cons_succ, List.take_zero, List.drop_succ_cons, List.drop_nil, List.cons_append, List.nil_append, List.append_nil, List.replicate_zero, List.getD_cons_zero, List.all_cons, List.all_nil, Option.getD_some, Option.map_some, if_true, if_false, Nat.reduceEqDiff, Nat.reduceAdd, Nat.reduceLT, Nat.zero_add, Nat.le_refl, reduceCtorEq, Bool.and_true, eq_self, true_and, and_self, List.all_cons, *] | simp (disch := omega) only [getD_ints, wrapI] | omega)
    exact leave_of (.inr rfl) [.lit (.agg #[.int .i64 0, .int .i64 0]), i64 0] (by simp [resL, resAV, aop, ev, get_mk, look, hget, cut, value, mkAgg, toLits]) ⟨rfl, rfl⟩
  · rintro e H ⟨rfl, rfl⟩
    simp only [blockK, thenK]
    exact leave_of (.inr rfl) [.lit (.agg #[.int .i64 I, .int .i64 J]), i64 E] (by simp [resL, resAV, aop, ev, get_mk, look, hget, cut, value, mkAgg, toLits]) ⟨rfl, rfl⟩
end Go.Abs
