import Derived.Test.YtdedhipkncagjaaK312x
import Derived.Test.YtdedhipkncagjaaK500x
set_option linter.all false
set_option linter.unusedVariables false
set_option linter.unusedSimpArgs false
set_option linter.unusedSectionVars false
namespace Go.Abs
open Go.Proofs
/-! figure.CheckSessions accepts what does not dig -/
theorem fL_self (xs : List Int) : fL xs.length (fun z => xs.getD z 0) = xs := by
  refine List.ext_getElem (by simp [fL]) fun i h1 h2 => ?_
  simp [fL, List.getD_eq_getElem?_getD, h2]
set_option maxHeartbeats 8000000 in
theorem k46r {H : List Blk} {id n : Nat} {o n2 : Bool} {A : Nat → Int} {ws : List Int} (hH : H[id]? = some (.cells o false 1 (fR n A))) (hl : ws.length = n) (hn : n ≤ 1000) (h : ∀ z, z < n → ws.getD z 0 ≤ A z) : ACall Try.prog 46 [.lsl id 0 n, ints n2 ws] H fun r H' => r = bl false ∧ H' = H := by
  refine envOf_all e46 ?_
  have hl2 := (by simp : (ws.map fun x => [i64 x]).length = ws.length)
  have hfl := fR_len n A
  have hG := PLift.up (fun z hz => fR_get (n := n) (z := z) A hz)
  generalize fR n A = G at *
  replace h := PLift.up h
  unfold c46
  repeat' (first | (with_reducible first | refine T_seq ?_ | refine T_reg ?_ | refine T_skip ?_ | refine T_exit ?_ | refine T_block ?_ | refine T_cond_t rfl ?_ | refine T_cond_f rfl ?_ | refine T_ret ?_ | refine wif_intro ?_ (fun hc => ?_) | refine And.intro ?_ ?_ | intro hc) | simp (maxSteps := 4000000) only [wops_nil, wops_cons, wstep_none, wrun_mv, wrun_len, wop, aop, ev, look, put_some, writes, ores_some, ores_map, ores_bind, thenK, intV, lenOf, hget, List.map_cons, List.map_nil, List.append_nil, List.replicate_zero, List.zipIdx_cons, List.zipIdx_nil, Option.pure_def, Option.bind_eq_bind, Option.getD_some, if_true, if_false, Nat.reduceEqDiff, Nat.reduceAdd, Nat.zero_add, reduceCtorEq, eq_self, *] | simp (disch := omega) only [getD_ints, wrapI] | omega)
  refine T_for [1, 7, 8, 9] (fun k => ⟨[(1, ints n2 ws), (7, .lsl id 0 n), (8, i64 n), (9, i64 k)], H⟩) n (fun _ => True) 0 ?_ trivial (Nat.zero_le _) ?_
  · simp [St.only, get_mk, look]
  intro k hk _
  by_cases hkn : k < n
  · have g2 : (ws.map fun x => [i64 x]).getD k [] = [i64 (ws.getD k 0)] := getD_ints (by omega)
    have g1 := hG.down k hkn
    have hle := h.down k hkn
    have d1 : decide (A k < ws.getD k 0) = false := decide_eq_false (by omega)
    have hkw : (k : Int) < (ws.length : Int) := by omega
    generalize A k = a at *
    generalize ws.getD k 0 = b at *
    clear h hle hG
    unfold c46l0
    repeat' (first | (with_reducible first | refine T_seq ?_ | refine T_reg ?_ | refine T_skip ?_ | refine T_exit ?_ | refine T_block ?_ | refine T_cond_t rfl ?_ | refine T_cond_f rfl ?_ | ((first | refine T_cond rfl (fun hc => ?_) (fun hc => ?_) | refine wguard_split (fun hc => ?_) (fun hc => ?_)) <;> have hd := hc <;> (try simp (disch := omega) only [wrapI] at hd) <;> have hs := hd <;> (try simp only [decide_eq_true_eq, decide_eq_false_iff_not, Int.not_lt] at hd) <;> (try simp at hs)) | refine T_ret ?_ | refine wif_intro ?_ (fun hc => ?_) | refine And.intro ?_ ?_ | intro hc) | simp (maxSteps := 4000000) only [wops_nil, wops_cons, wstep_none, wrun_mv, wrun_bin, wrun_load, wrun_iaddrS, wop, aop, ev, look, put_some, writes, ores_some, ores_ite_none, binV, thenK, blockK, value, cut, hget, mkAgg, List.length_cons, List.length_nil, List.take_succ_cons, List.take_nil, List.drop_zero, List.append_nil, List.replicate_zero, Option.getD_some, Option.map_some, if_true, if_false, Nat.reduceEqDiff, Nat.zero_add, reduceCtorEq, Bool.false_eq_true, eq_self, true_and, and_true, and_self, decide_true, Int.toNat_natCast, *] | simp (disch := omega) only [wrapI] | omega)
    all_goals first | rfl | exact ⟨⟨hkn, trivial⟩, by simp [St.only, get_mk, look]⟩ | (simp [St.only, get_mk, look]; done) | exact hkn
  · have hke : k = n := by omega
    subst hke
    clear h hG
    have hkk : decide ((k : Int) < (k : Int)) = false := by simp
    unfold c46l0
    repeat' (first | (with_reducible first | refine T_seq ?_ | refine T_reg ?_ | refine T_skip ?_ | refine T_exit ?_ | refine T_block ?_ | refine T_cond_t rfl ?_ | refine T_cond_f rfl ?_ | refine T_ret ?_ | refine wif_intro ?_ (fun hc => ?_) | refine And.intro ?_ ?_ | intro hc) | simp (maxSteps := 4000000) only [wops_nil, wops_cons, wstep_none, wrun_mv, wrun_bin, wop, aop, ev, look, put_some, writes, ores_some, binV, thenK, blockK, List.append_nil, List.replicate_zero, Option.map_some, if_true, if_false, Nat.reduceEqDiff, reduceCtorEq, eq_self, and_true, false_and, Int.toNat_natCast, *] | simp (disch := omega) only [getD_ints, wrapI] | omega)
    all_goals first | exact ⟨_, rfl, rfl, rfl⟩
def nlR (WL : List (List Int)) : List (List AV) := WL.map fun w => [ints false w]
theorem nlR_len (WL : List (List Int)) : (nlR WL).length = WL.length := by simp [nlR]
theorem nlR_get {WL : List (List Int)} {k : Nat} (h : k < WL.length) : (nlR WL).getD k [] = [ints false (WL.getD k [])] := by simp [nlR, List.getD_eq_getElem?_getD, h]
theorem plainR_nlR (WL : List (List Int)) : plainR (nlR WL) = true := plainR_map _ (fun w => by simp [plainL, plain]) WL
def psW (WL : List (List Int)) : Nat → Nat → Int
  | 0, _ => 0
  | k + 1, z => psW WL k z + (WL.getD k []).getD z 0
structure D19 (hs ws : List Int) (WL : List (List Int)) : Prop where
  h1 : FOk hs
  h2 : FOk ws
  l : ws.length = hs.length
  few : WL.length ≤ 100
  wl : ∀ k, k < WL.length → (WL.getD k []).length = hs.length
  wr : ∀ k, k < WL.length → ∀ z, z < hs.length → 0 ≤ (WL.getD k []).getD z 0 ∧ (WL.getD k []).getD z 0 ≤ 100000
  dig : ∀ k, k ≤ WL.length → ∀ z, z < hs.length → ws.getD z 0 ≤ hs.getD z 0 - psW WL k z
theorem psW_bd {hs ws : List Int} {WL : List (List Int)} (h : D19 hs ws WL) {z : Nat} (hz : z < hs.length) : ∀ k, k ≤ WL.length → 0 ≤ psW WL k z ∧ psW WL k z ≤ 100000 * (k : Int)
  | 0, _ => by simp [psW]
  | k + 1, hk => by
    have h1 := psW_bd h hz k (by omega)
    have h2 := h.wr k (by omega) z hz
    simp only [psW]
    push_cast; omega
abbrev SL19 (n1 n2 nb : Bool) (hs ws : List Int) (WL : List (List Int)) (k : Nat) : List (Nat × AV) := [(0, ints n1 hs), (1, ints n2 ws), (9, .lsl 0 0 hs.length), (29, .sl nb 1 (nlR WL)), (30, i64 WL.length), (31, i64 k)]
abbrev SL19i (n1 n2 nb : Bool) (hs ws : List Int) (WL : List (List Int)) (k : Nat) (w : List Int) (z : Nat) : List (Nat × AV) := [(0, ints n1 hs), (1, ints n2 ws), (9, .lsl 0 0 hs.length), (10, i64 k), (29, .sl nb 1 (nlR WL)), (30, i64 WL.length), (31, i64 k), (44, ints false w), (45, i64 hs.length), (46, i64 z)]
set_option maxHeartbeats 8000000 in
theorem k19in {n1 n2 nb : Bool} {hs ws w : List Int} {WL : List (List Int)} {k : Nat} {A : Nat → Int} (hn : hs.length ≤ 40) (hw : w.length = hs.length) (hA : ∀ z, z < hs.length → -100000000 ≤ A z ∧ A z ≤ 100000000) (hwr : ∀ z, z < hs.length → 0 ≤ w.getD z 0 ∧ w.getD z 0 ≤ 100000) (K : Exit → St → Prop)
    (hN : ∀ τ : St, τ.heap = [.cells true false 1 (fR hs.length fun y => A y + (-1) * w.getD y 0)] → (τ.only [0, 1, 9, 10, 29, 30, 31]).slots = [(0, ints n1 hs), (1, ints n2 ws), (9, .lsl 0 0 hs.length), (10, i64 k), (29, .sl nb 1 (nlR WL)), (30, i64 WL.length), (31, i64 k)] → K (.exit 2) τ)
    {σ : St} (h0 : (σ.only [0, 1, 9, 10, 29, 30, 31, 44, 45, 46]).slots = SL19i n1 n2 nb hs ws WL k w 0) (hH : σ.heap = [.cells true false 1 (fR hs.length A)]) {bb : Nat} : T none Try.prog muts 64 bb (.loop c19l0) σ K := by
  have hwl : (w.map fun x => [i64 x]).length = hs.length := by rw [List.length_map, hw]
  refine T_forP [0, 1, 9, 10, 29, 30, 31, 44, 45, 46] (SL19i n1 n2 nb hs ws WL k w) hs.length (fun z H => H = [.cells true false 1 (fR hs.length (gz A (-1) (fun y => w.getD y 0) z))]) 0 h0 (by rw [gz_zero]; exact hH) (Nat.zero_le _) ?_
  clear h0 hH
  intro z H hz hH
  subst hH
  by_cases hzn : z < hs.length
  · have g3 : (w.map fun x => [i64 x]).getD z [] = [i64 (w.getD z 0)] := getD_ints (by omega)
    have g4 := fR_get (gz A (-1) (fun y => w.getD y 0) z) hzn
    rw [gz_at] at g4
    have hb1 := hA z hzn
    have hb2 := hwr z hzn
    have ew : IntKind.i64.wrap (A z - w.getD z 0) = A z + (-1) * w.getD z 0 := by rw [wrapI (by omega) (by omega)]; omega
    have g5 := gz_set (n := hs.length) (z := z) A (-1) (fun y => w.getD y 0)
    have hfl := fR_len hs.length (gz A (-1) (fun y => w.getD y 0) z)
    have hzz : (z : Int) < (hs.length : Int) := by omega
    clear hN hA hwr hb1 hb2 hw
    generalize A z + (-1) * w.getD z 0 = nv at *
    generalize w.getD z 0 = wv at *
    generalize A z = av at *
    generalize fR hs.length (gz A (-1) (fun y => w.getD y 0) (z + 1)) = G2 at *
    generalize fR hs.length (gz A (-1) (fun y => w.getD y 0) z) = G1 at *
    unfold c19l0
    repeat' (first | (with_reducible first | refine T_seq ?_ | refine T_reg ?_ | refine T_skip ?_ | refine T_exit ?_ | refine T_block ?_ | refine T_cond_t rfl ?_ | refine T_cond_f rfl ?_ | refine T_ret ?_ | refine wif_intro ?_ (fun hc => ?_) | refine And.intro ?_ ?_ | intro hc) | simp (maxSteps := 4000000) only [wops_nil, wops_cons, wstep_none, wrun_mv, wrun_bin, wrun_load, wrun_store, wrun_iaddrS, wop, aop, ev, look, put_some, put_none, writes, ores_some, ores_ite_none, binV, thenK, blockK, value, cut, hget, putCells, AV.parts, isOne, mkAgg, List.length_cons, List.length_nil, List.getElem?_cons_zero, List.set_cons_zero, List.take_succ_cons, List.take_zero, List.take_nil, List.drop_succ_cons, List.drop_zero, List.drop_nil, List.cons_append, List.nil_append, List.append_nil, List.append_assoc, List.replicate_zero, List.all_cons, List.all_nil, Option.getD_some, Option.map_some, if_true, if_false, Nat.reduceEqDiff, Nat.zero_add, Nat.le_refl, reduceCtorEq, Bool.and_true, Bool.false_eq_true, eq_self, true_and, and_true, and_self, decide_true, List.all_cons, Int.toNat_natCast, *] | simp (disch := omega) only [wrapI] | omega)
    all_goals first | rfl | (simp [St.only, get_mk, look]; done)
  · have hze : z = hs.length := by omega
    subst hze
    have f := PLift.up (hN)
    rw [gz_end]
    clear hN hA hwr
    generalize (fR hs.length fun y => A y + (-1) * w.getD y 0) = G at *
    have hzz : decide ((hs.length : Int) < (hs.length : Int)) = false := by simp
    unfold c19l0
    repeat' (first | (with_reducible first | refine T_seq ?_ | refine T_reg ?_ | refine T_skip ?_ | refine T_exit ?_ | refine T_block ?_ | refine T_cond_t rfl ?_ | refine T_cond_f rfl ?_ | refine T_ret ?_ | refine wif_intro ?_ (fun hc => ?_) | refine And.intro ?_ ?_ | intro hc) | simp (maxSteps := 4000000) only [wops_nil, wops_cons, wstep_none, wrun_bin, wop, aop, ev, look, put_some, writes, ores_some, binV, thenK, List.length_cons, List.length_nil, List.append_nil, List.replicate_zero, Option.map_some, if_true, if_false, Nat.reduceEqDiff, Nat.zero_add, reduceCtorEq, eq_self, false_and, Int.reduceNeg, Int.toNat_natCast, *] | simp (disch := omega) only [getD_ints, wrapI] | omega)
    all_goals first | exact f.down _ rfl (by simp [St.only, get_mk, look])
set_option maxHeartbeats 8000000 in
theorem k19l {n1 n2 nb : Bool} {hs ws : List Int} {WL : List (List Int)} {k : Nat} (hD : D19 hs ws WL) (hk : k < WL.length) (K : Exit → St → Prop) {bb : Nat} :
    T none Try.prog muts 64 bb c19l1 ⟨SL19 n1 n2 nb hs ws WL k, [.cells true false 1 (fR hs.length fun z => hs.getD z 0 - psW WL k z)]⟩ (thenK (fun s' => s'.heap = [.cells true false 1 (fR hs.length fun z => hs.getD z 0 - psW WL (k + 1) z)] ∧ (s'.only [0, 1, 9, 29, 30, 31]).slots = SL19 n1 n2 nb hs ws WL (k + 1)) K) := by
  have hln := nlR_len WL
  have g1 := nlR_get hk
  have hl40 := hD.h1.l
  have hkc : (k : Int) < (WL.length : Int) := by omega
  have hfew := hD.few
  have hwl := hD.wl k hk
  have hl1 := (by simp : (hs.map fun x => [i64 x]).length = hs.length)
  have hlw := (by rw [List.length_map, hwl] : ((WL.getD k []).map fun x => [i64 x]).length = hs.length)
  have h48 := k48 false (WL.getD k []) hs.length hwl (by omega) (fun z hz => hD.wr k hk z (by omega))
  have hin := fun K hN σ h0 hH => k19in (n1 := n1) (n2 := n2) (nb := nb) (ws := ws) (WL := WL) (k := k) (bb := bb) (A := fun z => hs.getD z 0 - psW WL k z) (by omega) hwl (fun z hz => by
    have a := hD.h1.r z hz
    have b := psW_bd hD hz k (by omega)
    show -100000000 ≤ hs.getD z 0 - psW WL k z ∧ hs.getD z 0 - psW WL k z ≤ 100000000
    omega) (hD.wr k hk) K hN (σ := σ) h0 hH
  have e1 : (fR hs.length fun y => (hs.getD y 0 - psW WL k y) + (-1) * (WL.getD k []).getD y 0) = fR hs.length fun z => hs.getD z 0 - psW WL (k + 1) z := fR_congr fun z _ => by simp only [psW]; omega
  rw [e1] at hin
  have h46 := k46r (H := [.cells true false 1 (fR hs.length fun z => hs.getD z 0 - psW WL (k + 1) z)]) (id := 0) (o := true) (n2 := n2) (n := hs.length) rfl hD.l (by omega) (fun z hz => hD.dig (k + 1) (by omega) z hz)
  replace hin := PLift.up hin
  replace h46 := PLift.up h46
  generalize (fR hs.length fun z => hs.getD z 0 - psW WL (k + 1) z) = G2 at *
  generalize (fR hs.length fun z => hs.getD z 0 - psW WL k z) = G1 at *
  clear hD e1
  unfold c19l1
  repeat' (first | (with_reducible first | refine T_seq ?_ | refine T_reg ?_ | refine T_skip ?_ | refine T_exit ?_ | refine T_block ?_ | refine T_cond_t rfl ?_ | refine T_cond_f rfl ?_ | (show wcall _ false (.lit (.func (.func 48) _ _)) _ _ _ _; refine wcall_fn (h48) rfl (by simp [plainL, plain]) ?_) | refine T_ret ?_ | refine wif_intro ?_ (fun hc => ?_) | refine And.intro ?_ ?_ | intro hc) | simp (maxSteps := 4000000) only [wops_nil, wops_cons, wstep_none, wrun_call, wrun_mv, wrun_bin, wrun_load, wrun_iaddrS, wrun_len, wop, aop, ev, look, put_some, writes, ores_some, ores_ite_none, ores_map, ores_bind, binV, thenK, intV, lenOf, value, cut, hget, mkAgg, List.map_cons, List.map_nil, List.length_cons, List.length_nil, List.take_succ_cons, List.take_nil, List.drop_zero, List.append_nil, List.replicate_zero, Option.pure_def, Option.bind_eq_bind, Option.map_some, if_true, if_false, Nat.reduceEqDiff, Nat.zero_add, reduceCtorEq, Bool.false_eq_true, eq_self, and_true, and_self, decide_true, freeze, lidsL, lids, List.flatMap_cons, List.flatMap_nil, ren, Int.toNat_natCast, *] | simp (disch := omega) only [getD_ints, wrapI] | (with_reducible show wcall _ false (.lit (.func (.func 48) _ _)) _ _ _ _; refine wcall_fn (h48) ?_ ?_ ?_; (next => simp [rfyL, rfy, hget, ints, take_rfy, Int.toNat_natCast, plainR_nlR]); (next => simp [plainL, plain, plainR, Int.toNat_natCast, plainR_nlR])) | omega)
  refine hin.down _ ?_ _ ?_ rfl
  · intro τ t1 t2
    simp only [blockK, thenK, reduceIte]
    refine T_onlyU [0, 1, 9, 10, 29, 30, 31] (S := ⟨[(0, ints n1 hs), (1, ints n2 ws), (9, .lsl 0 0 hs.length), (10, i64 k), (29, .sl nb 1 (nlR WL)), (30, i64 WL.length), (31, i64 k)], [.cells true false 1 G2]⟩) (by show (⟨(τ.only [0, 1, 9, 10, 29, 30, 31]).slots, τ.heap⟩ : St) = _; rw [t2, t1]) ?_
    clear hin t1 t2 h48
    repeat' (first | (with_reducible first | refine T_seq ?_ | refine T_reg ?_ | refine T_skip ?_ | refine T_exit ?_ | refine T_block ?_ | refine T_cond_t rfl ?_ | refine T_cond_f rfl ?_ | refine T_ret ?_ | refine wif_intro ?_ (fun hc => ?_) | refine And.intro ?_ ?_ | intro hc) | simp (maxSteps := 4000000) only [wops_cons, wstep_none, wrun_call, wrun_mv, wop, aop, ev, look, put_some, writes, ores_some, List.map_cons, List.map_nil, List.length_cons, List.length_nil, List.append_nil, List.replicate_zero, if_true, if_false, Nat.reduceEqDiff, Nat.zero_add, Nat.zero_ne_one, reduceCtorEq, eq_self, *] | simp (disch := omega) only [getD_ints, wrapI] | omega)
    refine wcall_raw (h46.down.mono ?_)
    rintro r H' ⟨rfl, rfl⟩
    clear h46
    repeat' (first | (with_reducible first | refine T_seq ?_ | refine T_reg ?_ | refine T_skip ?_ | refine T_exit ?_ | refine T_block ?_ | refine T_cond_t rfl ?_ | refine T_cond_f rfl ?_ | refine T_ret ?_ | refine wif_intro ?_ (fun hc => ?_) | refine And.intro ?_ ?_ | intro hc) | simp (maxSteps := 4000000) only [wops_nil, wops_cons, wstep_none, wrun_mv, wrun_bin, wop, aop, ev, look, put_some, writes, ores_some, binV, thenK, blockK, List.length_cons, List.length_nil, List.append_nil, List.replicate_zero, Option.map_some, if_true, if_false, Nat.reduceEqDiff, Nat.zero_add, reduceCtorEq, eq_self, true_and, *] | simp (disch := omega) only [wrapI] | omega)
    all_goals first | rfl | (simp [St.only, get_mk, look]; done)
  · simp [St.only, get_mk, look]
set_option maxHeartbeats 8000000 in
theorem k19 (n2 nb : Bool) (z0 : Nat) {hs ws : List Int} {WL : List (List Int)} (hD : D19 hs ws WL) (hz0 : WL ≠ [] → z0 = 1) : Fn Try.prog 19 [ints false hs, ints n2 ws, .sl nb z0 (nlR WL)] (.tup [i64 0, i64 0]) [] := by
  refine fn_of e19 ?_
  have hln := nlR_len WL
  have hl40 := hD.h1.l
  have hfew := hD.few
  have h45 := k45 false n2 hs ws hD.h1 hD.h2 hD.l
  have h46 := k46 false n2 hs ws hD.l (by omega) (fun z hz => by have := hD.dig 0 (Nat.zero_le _) z hz; simp only [psW] at this; omega)
  have h47 := k47 hs (by omega)
  have hrow := fun k hk K => k19l (n1 := false) (n2 := n2) (nb := nb) (bb := 0) hD (k := k) hk K
  have d1 : decide ((WL.length : Int) > 100) = false := decide_eq_false (by omega)
  have e0 : (hs.map fun x => [i64 x]) = fR hs.length fun z => hs.getD z 0 - psW WL 0 z := by
    rw [fR_eq]
    congr 1
    rw [show (fun z => hs.getD z 0 - psW WL 0 z) = fun z => hs.getD z 0 from funext fun z => by simp [psW], fL_self]
  replace hrow := PLift.up hrow
  replace h46 := PLift.up h46
  replace hz0 := PLift.up hz0
  replace e0 := PLift.up e0
  clear hD
  have pz : plain (.sl nb z0 (nlR WL)) = true := plainR_nlR WL
  unfold c19
  repeat' (first | (with_reducible first | refine T_seq ?_ | refine T_reg ?_ | refine T_skip ?_ | refine T_exit ?_ | refine T_block ?_ | refine T_cond_t rfl ?_ | refine T_cond_f rfl ?_ | (show wcall _ false (.lit (.func (.func 45) _ _)) _ _ _ _; refine wcall_fn (h45) rfl (by simp [plainL, plain]) ?_) | refine T_ret ?_ | refine wif_intro ?_ (fun hc => ?_) | refine And.intro ?_ ?_ | intro hc) | simp (maxSteps := 4000000) only [wops_nil, wops_cons, wstep_none, wrun_call, wrun_mv, wrun_bin, wrun_len, wop, aop, ev, look, put_some, writes, ores_some, ores_map, ores_bind, binV, thenK, intV, lenOf, hget, List.map_cons, List.map_nil, List.length_nil, List.append_nil, List.replicate_zero, List.zipIdx_cons, List.zipIdx_nil, Option.pure_def, Option.bind_eq_bind, Option.map_some, if_true, if_false, Nat.reduceEqDiff, Nat.reduceAdd, Nat.zero_add, Nat.zero_ne_one, reduceCtorEq, eq_self, Int.reduceNeg, freeze, lidsL, lids, List.flatMap_cons, List.flatMap_nil, ren, *] | simp (disch := omega) only [getD_ints, wrapI] | (with_reducible show wcall _ false (.lit (.func (.func 45) _ _)) _ _ _ _; refine wcall_fn (h45) ?_ ?_ ?_; (next => simp [rfyL, rfy, hget, ints, take_rfy, plainR_nlR]); (next => simp [plainL, plain, plainR, plainR_nlR])) | omega)
  refine wcall_rawfn h46.down (by simp [plainL, plain]) ?_
  clear h46
  repeat' (first | (with_reducible first | refine T_seq ?_ | refine T_reg ?_ | refine T_skip ?_ | refine T_exit ?_ | refine T_block ?_ | refine T_cond_t rfl ?_ | refine T_cond_f rfl ?_ | (show wcall _ false (.lit (.func (.func 47) _ _)) _ _ _ _; refine wcall_fn (h47) rfl (by simp [plainL, plain]) ?_) | refine T_ret ?_ | refine wif_intro ?_ (fun hc => ?_) | refine And.intro ?_ ?_ | intro hc) | simp (maxSteps := 4000000) only [wops_nil, wops_cons, wstep_none, wrun_call, wrun_mv, wrun_len, wop, aop, ev, look, put_some, writes, ores_some, ores_map, ores_bind, thenK, intV, lenOf, hget, List.map_cons, List.map_nil, List.length_cons, List.length_nil, List.nil_append, List.append_nil, List.replicate_zero, Option.pure_def, Option.bind_eq_bind, if_true, if_false, Nat.reduceEqDiff, Nat.add_zero, Nat.zero_add, reduceCtorEq, eq_self, Int.reduceNeg, freeze, lidsL, lids, List.flatMap_cons, List.flatMap_nil, ren, renB, shiftρ, renR_ints, renR_ints, *] | simp (disch := omega) only [getD_ints, wrapI] | (with_reducible show wcall _ false (.lit (.func (.func 47) _ _)) _ _ _ _; refine wcall_fn (h47) ?_ ?_ ?_; (next => simp [rfyL, rfy, hget, ints, take_rfy, plainR_nlR, renR_ints]); (next => simp [plainL, plain, plainR, plainR_nlR, renR_ints])) | omega)
  clear h47 h45
  refine T_forP [0, 1, 9, 29, 30, 31] (fun k => [(0, ints false hs), (1, ints n2 ws), (9, .lsl 0 0 hs.length), (29, .sl nb z0 (nlR WL)), (30, i64 WL.length), (31, i64 k)]) WL.length (fun k H => H = [.cells true false 1 (fR hs.length fun z => hs.getD z 0 - psW WL k z)]) 0 ?_ (by rw [e0.down]) (Nat.zero_le _) ?_
  · simp [St.only, get_mk, look]
  clear e0
  intro k H hk hHe
  subst hHe
  by_cases hkn : k < WL.length
  · have hz1 : z0 = 1 := hz0.down (fun h => by rw [h] at hkn; simp at hkn)
    subst hz1
    exact T_thenR (hrow.down k hkn _) fun s' hs => ⟨hkn, hs.1, hs.2⟩
  · have hke : k = WL.length := by omega
    subst hke
    clear hrow hz0
    have hkk : decide ((WL.length : Int) < (WL.length : Int)) = false := by simp
    unfold c19l1
    repeat' (first | (with_reducible first | refine T_seq ?_ | refine T_reg ?_ | refine T_skip ?_ | refine T_exit ?_ | refine T_block ?_ | refine T_cond_t rfl ?_ | refine T_cond_f rfl ?_ | refine T_ret ?_ | refine leave_of (.inr rfl) _ rfl ?_ | refine leave_of (.inl rfl) _ rfl ?_ | refine leaveA_of (.inr rfl) _ rfl ?_ | refine leaveA_of (.inl rfl) _ rfl ?_ | refine wif_intro ?_ (fun hc => ?_) | refine And.intro ?_ ?_ | intro hc) | simp (maxSteps := 4000000) only [wops_nil, wops_cons, wstep_none, wrun_mv, wrun_bin, get_mk, wop, aop, ev, look, put_some, writes, ores_some, binV, thenK, blockK, tupOf, List.length_cons, List.length_nil, List.append_nil, List.replicate_zero, Option.map_some, if_true, if_false, Nat.reduceEqDiff, Nat.zero_add, reduceCtorEq, eq_self, false_and, ren, renL, Int.toNat_natCast, *] | simp (disch := omega) only [getD_ints, wrapI] | omega)
    all_goals first | rfl
end Go.Abs
