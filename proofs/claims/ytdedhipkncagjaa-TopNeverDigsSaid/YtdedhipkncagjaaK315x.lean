import Derived.Test.YtdedhipkncagjaaK312x
set_option linter.all false
set_option linter.unusedVariables false
set_option linter.unusedSimpArgs false
set_option linter.unusedSectionVars false
namespace Go.Abs
open Go.Proofs
/-! worn -/
abbrev xB (s : Ss) : Blk := .cells true false 3 [[tx s.mi, tx s.st, i64 s.mn]]
abbrev SL73i (nil n2 nw : Bool) (l : List Sk) (s : List Ss) (b : ByteArray) (n i : Nat) (w : List Int) (x z : Nat) : List (Nat × AV) := [(0, sts nil l), (2, tx b), (7, .lsl 0 0 n), (9, .loc x 0 0), (18, sss n2 s), (19, i64 s.length), (20, i64 i), (35, ints nw w), (36, i64 n), (37, i64 z)]
set_option maxHeartbeats 8000000 in
theorem k43in {nil n2 nw : Bool} {l : List Sk} {s : List Ss} {b : ByteArray} {n i : Nat} {w : List Int} {X : List Blk} {q : Ss} (hn : n ≤ 40) (hi : i < s.length) (hs2 : s.length ≤ 200) (hw : w.length = n) (A : Nat → Int) (hA : ∀ z, z < n → 0 ≤ A z ∧ A z ≤ 1000000 * (i : Int))
    (hm : 1 ≤ q.mn ∧ q.mn ≤ 10000) (hwr : ∀ z, z < n → 0 ≤ w.getD z 0 ∧ w.getD z 0 ≤ 100) (K : Exit → St → Prop)
    (hN : ∀ τ : St, τ.heap = .cells true false 1 (fR n fun y => A y + q.mn * w.getD y 0) :: (X ++ [xB q]) → (τ.only [0, 2, 7, 18, 19, 20]).slots = [(0, sts nil l), (2, tx b), (7, .lsl 0 0 n), (18, sss n2 s), (19, i64 s.length), (20, i64 i)] → K (.exit 2) τ)
    {σ : St} (h0 : (σ.only [0, 2, 7, 9, 18, 19, 20, 35, 36, 37]).slots = SL73i nil n2 nw l s b n i w (X.length + 1) 0) (hH : σ.heap = .cells true false 1 (fR n A) :: (X ++ [xB q])) {bb : Nat} : T none Try.prog muts 55 bb (.loop c43l0) σ K := by
  have hwl : (w.map fun x => [i64 x]).length = n := by rw [List.length_map, hw]
  have u1 : ∀ Y, (X ++ Y)[X.length]? = Y[0]? := fun Y => by rw [List.getElem?_append_right (Nat.le_refl _), Nat.sub_self]
  refine T_forP [0, 2, 7, 9, 18, 19, 20, 35, 36, 37] (SL73i nil n2 nw l s b n i w (X.length + 1)) n (fun z H => H = .cells true false 1 (fR n (gz A q.mn (fun y => w.getD y 0) z)) :: (X ++ [xB q])) 0 h0 (by rw [gz_zero]; exact hH) (Nat.zero_le _) ?_
  clear h0 hH
  intro z H hz hH
  subst hH
  by_cases hzn : z < n
  · have g3 : (w.map fun x => [i64 x]).getD z [] = [i64 (w.getD z 0)] := getD_ints (by omega)
    have g4 := fR_get (gz A q.mn (fun y => w.getD y 0) z) hzn
    rw [gz_at] at g4
    have hb1 := hA z hzn
    have hb2 := hwr z hzn
    have hb3 := mul_bd (a := q.mn) (A := 10000) (by omega) hb2
    have ew1 : IntKind.i64.wrap (q.mn * w.getD z 0) = q.mn * w.getD z 0 := wrapI (by omega) (by omega)
    have ew2 : IntKind.i64.wrap (A z + q.mn * w.getD z 0) = A z + q.mn * w.getD z 0 := wrapI (by omega) (by omega)
    have g5 := gz_set (n := n) (z := z) A q.mn (fun y => w.getD y 0)
    have hfl := fR_len n (gz A q.mn (fun y => w.getD y 0) z)
    have hzz : (z : Int) < (n : Int) := by omega
    have hzw : (z : Int) < (w.length : Int) := by omega
    have x1 : X.length + 1 ≠ 0 := by omega
    have x2 : 0 ≠ X.length + 1 := by omega
    have x3 : X.length + 1 < X.length + 1 + 1 := by omega
    have x4 : 0 < X.length + 1 + 1 := by omega
    clear hN hA hwr hb1 hb2 hb3 hw
    generalize w.getD z 0 = wv at *
    generalize A z = av at *
    generalize fR n (gz A q.mn (fun y => w.getD y 0) (z + 1)) = G2 at *
    generalize fR n (gz A q.mn (fun y => w.getD y 0) z) = G1 at *
    unfold c43l0
    repeat' (first | ((with_reducible refine T_calm ?_ ?_); rfl) | (with_reducible first | refine T_seq ?_ | refine T_reg ?_ | refine T_draw ?_ | refine T_skip ?_ | refine T_exit ?_ | refine T_block ?_ | refine T_cond_t rfl ?_ | refine T_cond_f rfl ?_ | refine wdW_cons rfl ?_ | refine T_ret ?_ | refine wif_intro ?_ (fun hc => ?_) | refine And.intro ?_ ?_ | intro hc) | simp (maxSteps := 4000000) only [wops_nil, wops_cons, wstep_none, wrun_mv, wrun_bin, wrun_load, wrun_store, wrun_faddr, wrun_iaddrS, wrunX_mv, wrunX_bin, wrunX_load, wrunX_store, wrunX_faddr, wrunX_iaddrS, wdW_nil, wstepX_none, wop, aop, ev, look, put_some, put_none, writes, ores_some, ores_ite_none, binV, thenK, blockK, value, cut, hget, putCells, AV.parts, isOne, toLits, mkAgg, List.length_cons, List.length_nil, List.getElem?_cons_zero, List.getElem?_cons_succ, List.set_cons_zero, List.take_succ_cons, List.take_zero, List.take_nil, List.drop_succ_cons, List.drop_zero, List.drop_nil, List.nil_append, List.append_nil, List.replicate_zero, List.getD_cons_zero, List.all_cons, List.all_nil, List.length_append, Option.getD_some, Option.map_some, if_true, if_false, Nat.reduceEqDiff, Nat.zero_add, Nat.le_refl, reduceCtorEq, Bool.and_true, Bool.false_eq_true, eq_self, true_and, and_true, and_self, decide_true, List.all_cons, Int.toNat_natCast, *] | simp (disch := omega) only [wrapI] | (with_reducible refine wdW_cons ?_ ?_; (next => simp [chk, foot, compatB, argsOf, St.get, target, ev, look, lidsL, hget, kind, AOp.isRaw, wids, wtops, tops, opds, topId, Int.toNat_natCast, x1, x2, x3, x4]; done)) | omega)
    all_goals first | rfl | (simp [St.only, get_mk, look]; done)
  · have hze : z = n := by omega
    subst hze
    have f := PLift.up (hN)
    rw [gz_end]
    clear hN hA hwr
    generalize (fR z fun y => A y + q.mn * w.getD y 0) = G at *
    have hzz : decide ((z : Int) < (z : Int)) = false := by simp
    unfold c43l0
    repeat' (first | ((with_reducible refine T_calm ?_ ?_); rfl) | (with_reducible first | refine T_seq ?_ | refine T_reg ?_ | refine T_draw ?_ | refine T_skip ?_ | refine T_exit ?_ | refine T_block ?_ | refine T_cond_t rfl ?_ | refine T_cond_f rfl ?_ | refine wdW_cons rfl ?_ | refine T_ret ?_ | refine wif_intro ?_ (fun hc => ?_) | refine And.intro ?_ ?_ | intro hc) | simp (maxSteps := 4000000) only [wops_nil, wops_cons, wstep_none, wrun_bin, wop, aop, ev, look, put_some, writes, ores_some, binV, thenK, List.length_cons, List.length_nil, List.append_nil, List.replicate_zero, List.length_append, Option.map_some, if_true, if_false, Nat.reduceEqDiff, Nat.zero_add, reduceCtorEq, eq_self, false_and, Int.toNat_natCast, *] | simp (disch := omega) only [getD_ints, wrapI] | omega)
    all_goals first | exact f.down _ rfl (by simp [St.only, get_mk, look])
abbrev SL73 (nil n2 : Bool) (l : List Sk) (s : List Ss) (b : ByteArray) (n i : Nat) : List (Nat × AV) := [(0, sts nil l), (2, tx b), (7, .lsl 0 0 n), (18, sss n2 s), (19, i64 s.length), (20, i64 i)]
set_option maxHeartbeats 8000000 in
theorem k43l {nil n2 : Bool} {l : List Sk} {s : List Ss} {b : ByteArray} {n i : Nat} {X : List Blk} (hS : SOk l) (hZ : ZOk l s) (hn : n = (l.getD 0 sk0).wr.length) (hi : i < s.length) (K : Exit → St → Prop) {bb : Nat} :
    T none Try.prog muts 55 bb c43l1 ⟨SL73 nil n2 l s b n i, .cells true false 1 (fR n (wz l s b i)) :: X⟩ (thenK (fun s' => (∃ X', s'.heap = .cells true false 1 (fR n (wz l s b (i + 1))) :: X') ∧ (s'.only [0, 2, 7, 18, 19, 20]).slots = SL73 nil n2 l s b n (i + 1)) K) := by
  have hll := skR_len l
  have hls := ssR_len s
  have g1 := ssR_get hi
  have hq := eqT_bin (s.getD i ss0).mi b
  have hfew := hZ.few
  have hS12 := hS.few
  have h68 := k68 nil l (s.getD i ss0).st (by omega)
  have hj := hZ.at_ i hi
  have g2 := skR_get (l := l) (k := (sAt l (s.getD i ss0).st).toNat) (by omega)
  have hwn : (l.getD (sAt l (s.getD i ss0).st).toNat sk0).wr.length = n := by rw [hn]; exact hS.len _ (by omega)
  have hwl : ((l.getD (sAt l (s.getD i ss0).st).toNat sk0).wr.map fun x => [i64 x]).length = n := by rw [List.length_map, hwn]
  have hin := fun K hN σ h0 hH => k43in (nil := nil) (n2 := n2) (nw := (l.getD (sAt l (s.getD i ss0).st).toNat sk0).nil) (l := l) (s := s) (b := b) (n := n) (i := i) (w := (l.getD (sAt l (s.getD i ss0).st).toNat sk0).wr) (X := X) (q := s.getD i ss0) (bb := bb) (by have := hS.zon; omega) hi hZ.few hwn (wz l s b i) (fun z hz => wz_bd hS hZ b (by omega) i (by omega)) (hZ.mn i hi) (fun z hz => hS.rng _ (by omega) z (by omega)) K hN (σ := σ) h0 hH
  have hsl : s.length < 1000000 := by omega
  have hic : (i : Int) < (s.length : Int) := by omega
  have u1 : ∀ Y, (X ++ Y)[X.length]? = Y[0]? := fun Y => by rw [List.getElem?_append_right (Nat.le_refl _), Nat.sub_self]
  have u2 : ∀ Y v, (X ++ Y).set X.length v = X ++ Y.set 0 v := fun Y v => by rw [List.set_append_right _ _ (Nat.le_refl _), Nat.sub_self]
  replace hin := PLift.up hin
  cases he : eqT (s.getD i ss0).mi b with
  | false =>
    have e : fR n (wz l s b (i + 1)) = fR n (wz l s b i) := fR_congr fun z _ => by simp only [wz]; rw [if_neg (by rw [he]; simp)]
    rw [e]
    rw [he] at hq
    clear e he hin h68 hS hZ hn
    generalize fR n (wz l s b i) = G at *
    unfold c43l1
    repeat' (first | ((with_reducible refine T_calm ?_ ?_); rfl) | (with_reducible first | refine T_seq ?_ | refine T_reg ?_ | refine T_draw ?_ | refine T_skip ?_ | refine T_exit ?_ | refine T_block ?_ | refine T_cond_t rfl ?_ | refine T_cond_f rfl ?_ | refine wdW_cons rfl ?_ | refine T_ret ?_ | refine wif_intro ?_ (fun hc => ?_) | refine And.intro ?_ ?_ | intro hc) | simp (maxSteps := 4000000) only [wops_nil, wops_cons, wstep_none, wrun_mv, wrun_bin, wrun_load, wrun_store, wrun_faddr, wrun_iaddrS, wrun_alloc, wop, aop, ev, look, put_some, put_none, writes, ores_some, ores_ite_none, binV, thenK, blockK, value, cut, hget, putCells, AV.parts, isOne, toLits, mkAgg, ofValue_int, ofValue_str, List.map_cons, List.map_nil, List.length_cons, List.length_nil, List.getElem?_cons_zero, List.getElem?_cons_succ, List.set_cons_zero, List.set_cons_succ, List.take_succ_cons, List.take_zero, List.take_nil, List.drop_succ_cons, List.drop_zero, List.drop_nil, List.cons_append, List.nil_append, List.append_nil, List.append_assoc, List.replicate_zero, List.replicate_succ, List.getD_cons_zero, List.all_cons, List.all_nil, List.length_append, Option.getD_some, Option.map_some, if_true, if_false, Nat.reduceEqDiff, Nat.reduceAdd, Nat.reduceLT, Nat.add_zero, Nat.zero_add, Nat.le_refl, reduceCtorEq, Bool.not_false, Bool.and_true, Bool.false_eq_true, eq_self, true_and, and_true, and_self, decide_true, List.all_cons, Int.toNat_natCast, *] | simp (disch := omega) only [wrapI] | omega)
    all_goals first | exact ⟨_, rfl⟩ | (simp [St.only, get_mk, look]; done)
  | true =>
    have e : fR n (wz l s b (i + 1)) = fR n (fun y => wz l s b i y + (s.getD i ss0).mn * (l.getD (sAt l (s.getD i ss0).st).toNat sk0).wr.getD y 0) := fR_congr fun z _ => by simp only [wz]; rw [if_pos he]; rfl
    rw [e]
    rw [he] at hq
    have hG2 : ∃ G2, G2 = fR n (fun y => wz l s b i y + (s.getD i ss0).mn * (l.getD (sAt l (s.getD i ss0).st).toNat sk0).wr.getD y 0) := ⟨_, rfl⟩
    obtain ⟨G2, hG2⟩ := hG2
    rw [← hG2] at hin ⊢
    have hG1 : ∃ G1, G1 = fR n (wz l s b i) := ⟨_, rfl⟩
    obtain ⟨G1, hG1⟩ := hG1
    rw [← hG1] at hin ⊢
    clear e he hS hZ hn hG1 hG2
    unfold c43l1
    repeat' (first | ((with_reducible refine T_calm ?_ ?_); rfl) | (with_reducible first | refine T_seq ?_ | refine T_reg ?_ | refine T_draw ?_ | refine T_skip ?_ | refine T_exit ?_ | refine T_block ?_ | refine T_cond_t rfl ?_ | refine T_cond_f rfl ?_ | refine wdW_cons rfl ?_ | (show wcall _ false (.lit (.func (.func 68) _ _)) _ _ _ _; refine wcall_fn (h68) rfl (by simp [plainL, plain, plainR_sk]) ?_) | (show wcallX _ false (.lit (.func (.func 68) _ _)) _ _ _ _; refine wcallX_fn (h68) rfl (by simp [plainL, plain, plainR, Int.toNat_natCast, plainR_sk, plainR_ss]) ?_) | refine T_ret ?_ | refine wif_intro ?_ (fun hc => ?_) | refine And.intro ?_ ?_ | intro hc) | simp (maxSteps := 4000000) only [wops_nil, wops_cons, wstep_none, wrun_call, wrun_mv, wrun_bin, wrun_load, wrun_store, wrun_faddr, wrun_iaddrS, wrun_len, wrun_alloc, wop, aop, ev, look, put_some, put_none, writes, ores_some, ores_ite_none, ores_map, ores_bind, binV, thenK, intV, lenOf, value, cut, hget, putCells, AV.parts, isOne, toLits, mkAgg, ofValue_int, ofValue_str, List.map_cons, List.map_nil, List.length_cons, List.length_nil, List.getElem?_cons_zero, List.getElem?_cons_succ, List.set_cons_zero, List.set_cons_succ, List.take_succ_cons, List.take_zero, List.take_nil, List.drop_succ_cons, List.drop_zero, List.drop_nil, List.cons_append, List.nil_append, List.append_nil, List.append_assoc, List.replicate_zero, List.replicate_succ, List.getD_cons_zero, List.all_cons, List.all_nil, List.length_append, Option.pure_def, Option.bind_eq_bind, Option.getD_some, Option.map_some, if_true, if_false, Nat.reduceEqDiff, Nat.reduceAdd, Nat.reduceLT, Nat.add_zero, Nat.zero_add, Nat.le_refl, reduceCtorEq, Bool.not_true, Bool.and_true, Bool.false_eq_true, eq_self, true_and, and_true, and_self, decide_true, freeze, lidsL, lids, List.flatMap_cons, List.flatMap_nil, List.all_cons, ren, Int.toNat_natCast, *] | simp (disch := omega) only [getD_ints, wrapI] | (with_reducible show wcall _ false (.lit (.func (.func 68) _ _)) _ _ _ _; refine wcall_fn (h68) ?_ ?_ ?_; (next => simp [rfyL, rfy, hget, ints, take_rfy, Int.toNat_natCast, plainR_sk, plainR_ss]); (next => simp [plainL, plain, plainR, Int.toNat_natCast, plainR_sk, plainR_ss])) | (with_reducible show wcallX _ false (.lit (.func (.func 68) _ _)) _ _ _ _; refine wcallX_fn (h68) ?_ ?_ ?_; (next => simp [rfyL, rfy, hget, ints, take_rfy, Int.toNat_natCast, plainR_sk, plainR_ss]); (next => simp [plainL, plain, plainR, Int.toNat_natCast, plainR_sk, plainR_ss])) | omega)
    refine hin.down _ ?_ _ ?_ rfl
    · intro τ t1 t2
      simp only [blockK, thenK, reduceIte]
      refine T_onlyU [0, 2, 7, 18, 19, 20] (S := ⟨SL73 nil n2 l s b n i, .cells true false 1 G2 :: (X ++ [xB (s.getD i ss0)])⟩) (by show (⟨(τ.only [0, 2, 7, 18, 19, 20]).slots, τ.heap⟩ : St) = _; rw [t2, t1]) ?_
      clear hin h68
      repeat' (first | ((with_reducible refine T_calm ?_ ?_); rfl) | (with_reducible first | refine T_seq ?_ | refine T_reg ?_ | refine T_draw ?_ | refine T_skip ?_ | refine T_exit ?_ | refine T_block ?_ | refine T_cond_t rfl ?_ | refine T_cond_f rfl ?_ | refine wdW_cons rfl ?_ | refine T_ret ?_ | refine wif_intro ?_ (fun hc => ?_) | refine And.intro ?_ ?_ | intro hc) | simp (maxSteps := 4000000) only [wops_nil, wops_cons, wstep_none, wrun_mv, wrun_bin, wop, aop, ev, look, put_some, writes, ores_some, binV, thenK, List.length_cons, List.length_nil, List.append_nil, List.replicate_zero, List.length_append, Option.map_some, if_true, if_false, Nat.reduceEqDiff, Nat.zero_add, reduceCtorEq, eq_self, *] | simp (disch := omega) only [wrapI] | omega)
      all_goals first | exact ⟨_, rfl⟩ | (simp [St.only, get_mk, look]; done)
    · simp [St.only, get_mk, look]
set_option maxHeartbeats 8000000 in
theorem k43 (nil n2 : Bool) (l : List Sk) (s : List Ss) (b : ByteArray) (hS : SOk l) (hZ : ZOk l s) : Fn Try.prog 43 [sts nil l, sss n2 s, tx b] (.lsl 0 0 (l.getD 0 sk0).wr.length) [iC (wrL l s b)] := by
  refine fn_of e43 ?_
  have hll := skR_len l
  have hls := ssR_len s
  have g0 := skR_get (l := l) (k := 0) hS.pos
  have hpos := hS.pos
  have hfew := hZ.few
  have hS12 := hS.few
  have hl0 : (0 : Int) < (l.length : Int) := by omega
  have hw0 : ((l.getD 0 sk0).wr.map fun x => [i64 x]).length = (l.getD 0 sk0).wr.length := by simp
  have hrow := fun i hi X K => k43l (nil := nil) (n2 := n2) (b := b) (n := (l.getD 0 sk0).wr.length) (i := i) (X := X) (bb := 0) hS hZ rfl hi K
  have hz40 := hS.zon
  have e0 : fR (l.getD 0 sk0).wr.length (wz l s b 0) = List.replicate (l.getD 0 sk0).wr.length [i64 0] := (fR_zero _).symm
  have e206 : fR (l.getD 0 sk0).wr.length (wz l s b s.length) = (wrL l s b).map fun x => [i64 x] := fR_eq _ _
  have hwl : (wrL l s b).length = (l.getD 0 sk0).wr.length := fL_len _ _
  generalize wrL l s b = W at *
  replace hrow := PLift.up hrow
  replace e0 := PLift.up e0
  replace e206 := PLift.up e206
  generalize (l.getD 0 sk0).wr.length = n at *
  clear hS hZ
  unfold c43
  repeat' (first | ((with_reducible refine T_calm ?_ ?_); rfl) | (with_reducible first | refine T_seq ?_ | refine T_reg ?_ | refine T_draw ?_ | refine T_skip ?_ | refine T_exit ?_ | refine T_block ?_ | refine T_cond_t rfl ?_ | refine T_cond_f rfl ?_ | refine wdW_cons rfl ?_ | refine T_ret ?_ | refine leave_ids (.inr rfl) _ [0] rfl (by simp) (by simp) ?_ | refine leave_ids (.inl rfl) _ [0] rfl (by simp) (by simp) ?_ | refine leaveA_of (.inr rfl) _ rfl ?_ | refine leaveA_of (.inl rfl) _ rfl ?_ | refine wif_intro ?_ (fun hc => ?_) | refine And.intro ?_ ?_ | intro hc) | simp (maxSteps := 4000000) only [wops_nil, wops_cons, wstep_none, wrun_mv, wrun_load, wrun_faddr, wrun_iaddrS, wrun_len, wrun_mks, wop, aop, ev, look, put_some, writes, ores_some, ores_ite_none, ores_map, ores_bind, thenK, intV, lenOf, value, cut, hget, mkAgg, List.map_cons, List.map_nil, List.length_cons, List.length_nil, List.getElem?_cons_zero, List.set_cons_zero, List.take_succ_cons, List.take_nil, List.drop_succ_cons, List.drop_zero, List.nil_append, List.append_nil, List.replicate_zero, List.replicate_succ, List.zipIdx_cons, List.zipIdx_nil, Option.pure_def, Option.bind_eq_bind, Option.map_some, if_true, if_false, Nat.reduceEqDiff, Nat.reduceAdd, Nat.add_zero, Nat.zero_add, Nat.zero_ne_one, reduceCtorEq, Bool.false_eq_true, eq_self, true_and, and_true, and_self, Int.toNat_natCast, Int.toNat_zero, *] | simp (disch := omega) only [getD_ints, wrapI] | omega)
  refine T_forP [0, 2, 7, 18, 19, 20] (SL73 nil n2 l s b n) s.length (fun k H => ∃ X, H = .cells true false 1 (fR n (wz l s b k)) :: X) 0 ?_ ?_ (Nat.zero_le _) ?_
  · simp [St.only, get_mk, look]
  · exact ⟨[], by rw [e0.down]⟩
  intro k H hk ⟨X, hH⟩
  subst hH
  by_cases hkn : k < s.length
  · exact T_thenR (hrow.down k hkn X _) fun s' hs => ⟨hkn, hs.1, hs.2⟩
  · have hke : k = s.length := by omega
    subst hke
    rw [e206.down]
    clear hrow e0 e206
    unfold c43l1
    repeat' (first | ((with_reducible refine T_calm ?_ ?_); rfl) | (with_reducible first | refine T_seq ?_ | refine T_reg ?_ | refine T_draw ?_ | refine T_skip ?_ | refine T_exit ?_ | refine T_block ?_ | refine T_cond_t rfl ?_ | refine T_cond_f rfl ?_ | refine wdW_cons rfl ?_ | ((first | refine T_cond rfl (fun hc => ?_) (fun hc => ?_) | refine wguard_split (fun hc => ?_) (fun hc => ?_) | refine wguardX_split (fun hc => ?_) (fun hc => ?_)) <;> have hd := hc <;> (try simp (disch := omega) only [wrapI] at hd) <;> have hs := hd <;> (try simp only [decide_eq_true_eq, decide_eq_false_iff_not, Int.not_lt] at hd) <;> (try simp at hs)) | refine T_ret ?_ | refine leave_ids (.inr rfl) _ [0] rfl (by simp) (by simp) ?_ | refine leave_ids (.inl rfl) _ [0] rfl (by simp) (by simp) ?_ | refine leaveA_of (.inr rfl) _ rfl ?_ | refine leaveA_of (.inl rfl) _ rfl ?_ | refine wif_intro ?_ (fun hc => ?_) | refine And.intro ?_ ?_ | intro hc) | simp (maxSteps := 4000000) only [wops_nil, wops_cons, wstep_none, wrun_mv, wrun_bin, get_mk, wop, aop, ev, look, put_some, writes, ores_some, binV, thenK, blockK, hget, tupOf, List.map_cons, List.map_nil, List.length_cons, List.getElem?_cons_zero, List.append_nil, List.replicate_zero, Option.getD_some, Option.map_some, Option.map_none, if_true, if_false, Nat.reduceEqDiff, Nat.zero_add, reduceCtorEq, eq_self, false_and, ren, renB, renO, keepρ, pos, Nat.not_lt_zero, renR_ints, Int.toNat_natCast, renR_ints, *] | simp (disch := omega) only [getD_ints, wrapI] | omega)
    all_goals first | rfl
end Go.Abs
