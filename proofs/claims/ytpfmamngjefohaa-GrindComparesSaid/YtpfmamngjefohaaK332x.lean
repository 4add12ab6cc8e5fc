import Derived.Test.YtpfmamngjefohaaK331x
set_option linter.all false
set_option linter.unusedVariables false
set_option linter.unusedSimpArgs false
set_option linter.unusedSectionVars false
namespace Go.Abs
open Go.Proofs
/-! wear -/
abbrev pB (n : Bool) (mi : List Int) (den : Int) : Blk := .cells true false 2 [[ints n mi, i64 den]]
abbrev kB (s : Sk) : Blk := .cells true false 2 [[tx s.nm, ints s.nil s.wr]]
abbrev SL79i (nil nw : Bool) (l : List Sk) (n i : Nat) (w : List Int) (z : Nat) : List (Nat × AV) := [(3, .loc 0 0 0), (5, .lsl 1 0 n), (6, i64 i), (16, sts nil l), (17, i64 l.length), (18, i64 i), (24, ints nw w), (25, i64 n), (26, i64 z)]
set_option maxHeartbeats 8000000 in
theorem k79in {nil np nw : Bool} {l : List Sk} {mi : List Int} {den : Int} {n i : Nat} {w : List Int} {X : List Blk} (hn : n ≤ 40) (hi : i < mi.length) (hl : l.length ≤ 12) (hil : i < l.length) (hw : w.length = n) (A : Nat → Int) (hA : ∀ z, z < n → 0 ≤ A z ∧ A z ≤ 100000000000 * (i : Int))
    (hm : 0 ≤ mi.getD i 0 ∧ mi.getD i 0 ≤ 1000000000) (hwr : ∀ z, z < n → 0 ≤ w.getD z 0 ∧ w.getD z 0 ≤ 100) (K : Exit → St → Prop)
    (hN : ∀ τ : St, τ.heap = pB np mi den :: .cells true false 1 (fR n fun y => A y + mi.getD i 0 * w.getD y 0) :: X → (τ.only [3, 5, 16, 17, 18]).slots = [(3, .loc 0 0 0), (5, .lsl 1 0 n), (16, sts nil l), (17, i64 l.length), (18, i64 i)] → K (.exit 2) τ)
    {σ : St} (h0 : (σ.only [3, 5, 6, 16, 17, 18, 24, 25, 26]).slots = SL79i nil nw l n i w 0) (hH : σ.heap = pB np mi den :: .cells true false 1 (fR n A) :: X) {bb : Nat} : T none Try.prog muts 47 bb (.loop c79l0) σ K := by
  have hwl : (w.map fun x => [i64 x]).length = n := by rw [List.length_map, hw]
  have hml := (by simp : (mi.map fun x => [i64 x]).length = mi.length)
  refine T_forP [3, 5, 6, 16, 17, 18, 24, 25, 26] (SL79i nil nw l n i w) n (fun z H => H = pB np mi den :: .cells true false 1 (fR n (gz A (mi.getD i 0) (fun y => w.getD y 0) z)) :: X) 0 h0 (by rw [gz_zero]; exact hH) (Nat.zero_le _) ?_
  clear h0 hH
  intro z H hz hH
  subst hH
  by_cases hzn : z < n
  · have g3 : (w.map fun x => [i64 x]).getD z [] = [i64 (w.getD z 0)] := getD_ints (by omega)
    have g4 := fR_get (gz A (mi.getD i 0) (fun y => w.getD y 0) z) hzn
    rw [gz_at] at g4
    have g6 : (mi.map fun x => [i64 x]).getD i [] = [i64 (mi.getD i 0)] := getD_ints hi
    have hb1 := hA z hzn
    have hb2 := hwr z hzn
    have hb3 := mul_bd hm hb2
    have ew1 : IntKind.i64.wrap (mi.getD i 0 * w.getD z 0) = mi.getD i 0 * w.getD z 0 := wrapI (by omega) (by omega)
    have ew2 : IntKind.i64.wrap (A z + mi.getD i 0 * w.getD z 0) = A z + mi.getD i 0 * w.getD z 0 := wrapI (by omega) (by omega)
    have g5 := gz_set (n := n) (z := z) A (mi.getD i 0) (fun y => w.getD y 0)
    have hfl := fR_len n (gz A (mi.getD i 0) (fun y => w.getD y 0) z)
    have hzz : (z : Int) < (n : Int) := by omega
    have hzw : (z : Int) < (w.length : Int) := by omega
    have him : (i : Int) < (mi.length : Int) := by omega
    clear hN hA hwr hb1 hb2 hb3 hw hm
    generalize hG2 : fR n (gz A (mi.getD i 0) (fun y => w.getD y 0) (z + 1)) = G2 at *
    generalize hG1 : fR n (gz A (mi.getD i 0) (fun y => w.getD y 0) z) = G1 at *
    clear hG1 hG2
    generalize w.getD z 0 = wv at *
    generalize A z = av at *
    generalize mi.getD i 0 = mv at *
    unfold c79l0
    repeat' (first
      | ((with_reducible refine T_calm ?_ ?_); rfl)
      | with_reducible first
        | refine T_seq ?_
        | refine T_reg ?_
        | refine T_draw ?_
        | refine T_skip ?_
        | refine T_exit ?_
        | refine T_block ?_
        | refine T_cond_t rfl ?_
        | refine T_cond_f rfl ?_
        | refine wdW_cons rfl ?_
        | ((first | refine T_cond rfl (fun hc => ?_) (fun hc => ?_) | refine wguard_split (fun hc => ?_) (fun hc => ?_) | refine wguardX_split (fun hc => ?_) (fun hc => ?_)) <;> have hd := hc <;> (try simp (disch := omega) only [wrapI] at hd) <;> have hs := hd <;> (try simp only [Bool.not_eq_true', Bool.not_eq_false', Bool.and_eq_true, Bool.and_eq_false_iff, Bool.or_eq_true, Bool.or_eq_false_iff, decide_eq_true_eq, decide_eq_false_iff_not, beq_iff_eq, bne_iff_ne, beq_eq_false_iff_ne, bne_eq_false_iff_eq, Bool.not_true, Bool.not_false, gt_iff_lt, ge_iff_le, Int.not_lt, Int.not_le, ne_eq, Decidable.not_not] at hd) <;> (try simp at hs))
        | refine T_ret ?_
        | refine wif_intro ?_ (fun hc => ?_)
        | refine And.intro ?_ ?_
        | intro hc
      | simp (maxSteps := 4000000) only [wops_nil, wops_cons, wstep_none, wrun_mv, wrun_bin, wrun_load, wrun_store, wrun_faddr, wrun_iaddrS, wrunX_mv, wrunX_bin, wrunX_load, wrunX_store, wrunX_faddr, wrunX_iaddrS, wdW_nil, wstepX_none, wop, aop, ev, look, put_some, put_none, writes, ores_some, ores_ite_none, binV, thenK, blockK, value, cut, hget, putCells, AV.parts, isOne, toLits, mkAgg, List.length_cons, List.length_nil, List.getElem?_cons_zero, List.getElem?_cons_succ, List.set_cons_zero, List.set_cons_succ, List.take_succ_cons, List.take_zero, List.take_nil, List.drop_succ_cons, List.drop_zero, List.drop_nil, List.nil_append, List.append_nil, List.replicate_zero, List.getD_cons_zero, List.all_cons, List.all_nil, Option.getD_some, Option.map_some, if_true, if_false, Nat.reduceEqDiff, Nat.add_zero, Nat.zero_add, Nat.le_refl, reduceCtorEq, Bool.and_true, Bool.false_eq_true, eq_self, true_and, and_true, and_self, decide_true, List.all_cons, Int.toNat_natCast, *]
      | simp (disch := omega) only [wrapI]
      | (with_reducible refine wdW_cons ?_ ?_; (next => simp [chk, foot, compatB, argsOf, St.get, target, ev, look, lidsL, hget, kind, AOp.isRaw, wids, wtops, tops, opds, topId, Int.toNat_natCast]; done))
      | omega)
    all_goals first | rfl | (simp [St.only, get_mk, look]; done)
  · have hze : z = n := by omega
    subst hze
    have f := PLift.up (hN)
    rw [gz_end]
    clear hN hA hwr
    generalize (fR z fun y => A y + mi.getD i 0 * w.getD y 0) = G at *
    have hzz : decide ((z : Int) < (z : Int)) = false := by simp
    unfold c79l0
    repeat' (first
      | ((with_reducible refine T_calm ?_ ?_); rfl)
      | with_reducible first
        | refine T_seq ?_
        | refine T_reg ?_
        | refine T_draw ?_
        | refine T_skip ?_
        | refine T_exit ?_
        | refine T_block ?_
        | refine T_cond_t rfl ?_
        | refine T_cond_f rfl ?_
        | refine wdW_cons rfl ?_
        | ((first | refine T_cond rfl (fun hc => ?_) (fun hc => ?_) | refine wguard_split (fun hc => ?_) (fun hc => ?_) | refine wguardX_split (fun hc => ?_) (fun hc => ?_)) <;> have hd := hc <;> (try simp (disch := omega) only [wrapI] at hd) <;> have hs := hd <;> (try simp only [Bool.not_eq_true', Bool.not_eq_false', Bool.and_eq_true, Bool.and_eq_false_iff, Bool.or_eq_true, Bool.or_eq_false_iff, decide_eq_true_eq, decide_eq_false_iff_not, beq_iff_eq, bne_iff_ne, beq_eq_false_iff_ne, bne_eq_false_iff_eq, Bool.not_true, Bool.not_false, gt_iff_lt, ge_iff_le, Int.not_lt, Int.not_le, ne_eq, Decidable.not_not] at hd) <;> (try simp at hs))
        | refine T_ret ?_
        | refine wif_intro ?_ (fun hc => ?_)
        | refine And.intro ?_ ?_
        | intro hc
      | simp (maxSteps := 4000000) only [wops_nil, wops_cons, wstep_none, wrun_bin, wop, aop, ev, look, put_some, writes, ores_some, binV, thenK, List.length_cons, List.append_nil, List.replicate_zero, Option.map_some, if_true, if_false, Nat.reduceEqDiff, reduceCtorEq, eq_self, false_and, Int.toNat_natCast, *]
      | simp (disch := omega) only [getD_ints, wrapI]
      | omega)
    all_goals first | exact f.down _ rfl (by simp [St.only, get_mk, look])
abbrev SL79 (nil : Bool) (l : List Sk) (n i : Nat) : List (Nat × AV) := [(3, .loc 0 0 0), (5, .lsl 1 0 n), (16, sts nil l), (17, i64 l.length), (18, i64 i)]
set_option maxHeartbeats 8000000 in
theorem k79l {nil np : Bool} {l : List Sk} {mi : List Int} {den : Int} {n i : Nat} {X : List Blk} (hS : SOk l) (hP : POk l mi den) (hn : n = (l.getD 0 sk0).wr.length) (hi : i < l.length) (K : Exit → St → Prop) {bb : Nat} :
    T none Try.prog muts 47 bb c79l1 ⟨SL79 nil l n i, pB np mi den :: .cells true false 1 (fR n (pwz l mi i)) :: X⟩ (thenK (fun s' => (∃ X', s'.heap = pB np mi den :: .cells true false 1 (fR n (pwz l mi (i + 1))) :: X') ∧ (s'.only [3, 5, 16, 17, 18]).slots = SL79 nil l n (i + 1)) K) := by
  have hll := skR_len l
  have g1 := skR_get hi
  have hfew := hS.few
  have hwn : (l.getD i sk0).wr.length = n := by rw [hn]; exact hS.len _ hi
  have hwl : ((l.getD i sk0).wr.map fun x => [i64 x]).length = n := by rw [List.length_map, hwn]
  have hin := fun K hN σ h0 hH => k79in (nil := nil) (np := np) (den := den) (nw := (l.getD i sk0).nil) (l := l) (mi := mi) (n := n) (i := i) (w := (l.getD i sk0).wr) (X := X ++ [kB (l.getD i sk0)]) (bb := bb) (by have := hS.zon; omega) (by have := hP.len; omega) hfew hi hwn (pwz l mi i) (fun z hz => pwz_bd hS hP (by omega) i (by omega)) (hP.mn i (by have := hP.len; omega)) (fun z hz => hS.rng _ hi z (by omega)) K hN (σ := σ) h0 hH
  have hic : (i : Int) < (l.length : Int) := by omega
  have u1 : ∀ Y, (X ++ Y)[X.length]? = Y[0]? := fun Y => by rw [List.getElem?_append_right (Nat.le_refl _), Nat.sub_self]
  have u2 : ∀ Y v, (X ++ Y).set X.length v = X ++ Y.set 0 v := fun Y v => by rw [List.set_append_right _ _ (Nat.le_refl _), Nat.sub_self]
  have e : fR n (pwz l mi (i + 1)) = fR n (fun y => pwz l mi i y + mi.getD i 0 * (l.getD i sk0).wr.getD y 0) := fR_congr fun z _ => rfl
  rw [e]
  have hG2 : ∃ G2, G2 = fR n (fun y => pwz l mi i y + mi.getD i 0 * (l.getD i sk0).wr.getD y 0) := ⟨_, rfl⟩
  obtain ⟨G2, hG2⟩ := hG2
  rw [← hG2] at hin ⊢
  have hG1 : ∃ G1, G1 = fR n (pwz l mi i) := ⟨_, rfl⟩
  obtain ⟨G1, hG1⟩ := hG1
  rw [← hG1] at hin ⊢
  replace hin := PLift.up hin
  clear e hS hP hn hG1 hG2
  unfold c79l1
  repeat' (first
    | ((with_reducible refine T_calm ?_ ?_); rfl)
    | with_reducible first
      | refine T_seq ?_
      | refine T_reg ?_
      | refine T_draw ?_
      | refine T_skip ?_
      | refine T_exit ?_
      | refine T_block ?_
      | refine T_cond_t rfl ?_
      | refine T_cond_f rfl ?_
      | refine wdW_cons rfl ?_
      | ((first | refine T_cond rfl (fun hc => ?_) (fun hc => ?_) | refine wguard_split (fun hc => ?_) (fun hc => ?_) | refine wguardX_split (fun hc => ?_) (fun hc => ?_)) <;> have hd := hc <;> (try simp (disch := omega) only [wrapI] at hd) <;> have hs := hd <;> (try simp only [Bool.not_eq_true', Bool.not_eq_false', Bool.and_eq_true, Bool.and_eq_false_iff, Bool.or_eq_true, Bool.or_eq_false_iff, decide_eq_true_eq, decide_eq_false_iff_not, beq_iff_eq, bne_iff_ne, beq_eq_false_iff_ne, bne_eq_false_iff_eq, Bool.not_true, Bool.not_false, gt_iff_lt, ge_iff_le, Int.not_lt, Int.not_le, ne_eq, Decidable.not_not] at hd) <;> (try simp at hs))
      | refine T_ret ?_
      | refine wif_intro ?_ (fun hc => ?_)
      | refine And.intro ?_ ?_
      | intro hc
    | simp (maxSteps := 4000000) only [wops_nil, wops_cons, wstep_none, wrun_mv, wrun_bin, wrun_load, wrun_store, wrun_faddr, wrun_iaddrS, wrun_len, wrun_alloc, wop, aop, ev, look, put_some, put_none, writes, ores_some, ores_ite_none, ores_map, ores_bind, binV, thenK, intV, lenOf, value, cut, hget, putCells, AV.parts, isOne, toLits, mkAgg, List.length_cons, List.length_nil, List.getElem?_cons_zero, List.getElem?_cons_succ, List.set_cons_zero, List.set_cons_succ, List.take_succ_cons, List.take_zero, List.take_nil, List.drop_succ_cons, List.drop_zero, List.drop_nil, List.cons_append, List.nil_append, List.append_nil, List.append_assoc, List.replicate_zero, List.replicate_succ, List.getD_cons_zero, List.all_cons, List.all_nil, List.length_append, Option.pure_def, Option.bind_eq_bind, Option.getD_some, Option.map_some, Option.map_none, if_true, if_false, Nat.reduceEqDiff, Nat.reduceAdd, Nat.reduceLT, Nat.add_zero, Nat.zero_add, Nat.le_refl, reduceCtorEq, Bool.and_true, Bool.false_eq_true, eq_self, true_and, and_true, and_self, decide_true, List.all_cons, Int.toNat_natCast, *]
    | simp (disch := omega) only [getD_ints, wrapI]
    | omega)
  refine hin.down _ ?_ _ ?_ rfl
  · intro τ t1 t2
    simp only [blockK, thenK, reduceIte]
    refine T_onlyU [3, 5, 16, 17, 18] (S := ⟨SL79 nil l n i, pB np mi den :: .cells true false 1 G2 :: (X ++ [kB (l.getD i sk0)])⟩) (by show (⟨(τ.only [3, 5, 16, 17, 18]).slots, τ.heap⟩ : St) = _; rw [t2, t1]) ?_
    clear hin
    repeat' (first
      | ((with_reducible refine T_calm ?_ ?_); rfl)
      | with_reducible first
        | refine T_seq ?_
        | refine T_reg ?_
        | refine T_draw ?_
        | refine T_skip ?_
        | refine T_exit ?_
        | refine T_block ?_
        | refine T_cond_t rfl ?_
        | refine T_cond_f rfl ?_
        | refine wdW_cons rfl ?_
        | ((first | refine T_cond rfl (fun hc => ?_) (fun hc => ?_) | refine wguard_split (fun hc => ?_) (fun hc => ?_) | refine wguardX_split (fun hc => ?_) (fun hc => ?_)) <;> have hd := hc <;> (try simp (disch := omega) only [wrapI] at hd) <;> have hs := hd <;> (try simp only [Bool.not_eq_true', Bool.not_eq_false', Bool.and_eq_true, Bool.and_eq_false_iff, Bool.or_eq_true, Bool.or_eq_false_iff, decide_eq_true_eq, decide_eq_false_iff_not, beq_iff_eq, bne_iff_ne, beq_eq_false_iff_ne, bne_eq_false_iff_eq, Bool.not_true, Bool.not_false, gt_iff_lt, ge_iff_le, Int.not_lt, Int.not_le, ne_eq, Decidable.not_not] at hd) <;> (try simp at hs))
        | refine T_ret ?_
        | refine wif_intro ?_ (fun hc => ?_)
        | refine And.intro ?_ ?_
        | intro hc
      | simp (maxSteps := 4000000) only [wops_nil, wops_cons, wstep_none, wrun_mv, wrun_bin, wop, aop, ev, look, put_some, writes, ores_some, binV, thenK, List.length_cons, List.length_nil, List.append_nil, List.replicate_zero, List.length_append, Option.map_some, if_true, if_false, Nat.reduceEqDiff, Nat.zero_add, reduceCtorEq, eq_self, *]
      | simp (disch := omega) only [wrapI]
      | omega)
    all_goals first | exact ⟨_, rfl⟩ | (simp [St.only, get_mk, look]; done)
  · simp [St.only, get_mk, look]
def pwL (l : List Sk) (mi : List Int) : List Int := fL (l.getD 0 sk0).wr.length (pwz l mi l.length)
set_option maxHeartbeats 8000000 in
theorem k79 (nil np : Bool) (l : List Sk) (mi : List Int) (den : Int) (hS : SOk l) (hP : POk l mi den) : Fn Try.prog 79 [sts nil l, plV np mi den] (.lsl 0 0 (l.getD 0 sk0).wr.length) [iC (pwL l mi)] := by
  refine fn_of e79 ?_
  have hll := skR_len l
  have g0 := skR_get (l := l) (k := 0) hS.pos
  have hpos := hS.pos
  have hfew := hS.few
  have hl0 : (0 : Int) < (l.length : Int) := by omega
  have hw0 : ((l.getD 0 sk0).wr.map fun x => [i64 x]).length = (l.getD 0 sk0).wr.length := by simp
  have hrow := fun i hi X K => k79l (nil := nil) (np := np) (n := (l.getD 0 sk0).wr.length) (i := i) (X := X) (bb := 0) hS hP rfl hi K
  have hz40 := hS.zon
  have e0 : fR (l.getD 0 sk0).wr.length (pwz l mi 0) = List.replicate (l.getD 0 sk0).wr.length [i64 0] := (fR_zero _).symm
  have e9 : fR (l.getD 0 sk0).wr.length (pwz l mi l.length) = (pwL l mi).map fun x => [i64 x] := fR_eq _ _
  have hwl : (pwL l mi).length = (l.getD 0 sk0).wr.length := fL_len _ _
  generalize pwL l mi = W at *
  replace hrow := PLift.up hrow
  replace e0 := PLift.up e0
  replace e9 := PLift.up e9
  generalize (l.getD 0 sk0).wr.length = n at *
  clear hS hP
  unfold c79
  repeat' (first
    | ((with_reducible refine T_calm ?_ ?_); rfl)
    | with_reducible first
      | refine T_seq ?_
      | refine T_reg ?_
      | refine T_draw ?_
      | refine T_skip ?_
      | refine T_exit ?_
      | refine T_block ?_
      | refine T_cond_t rfl ?_
      | refine T_cond_f rfl ?_
      | refine wdW_cons rfl ?_
      | ((first | refine T_cond rfl (fun hc => ?_) (fun hc => ?_) | refine wguard_split (fun hc => ?_) (fun hc => ?_) | refine wguardX_split (fun hc => ?_) (fun hc => ?_)) <;> have hd := hc <;> (try simp (disch := omega) only [wrapI] at hd) <;> have hs := hd <;> (try simp only [Bool.not_eq_true', Bool.not_eq_false', Bool.and_eq_true, Bool.and_eq_false_iff, Bool.or_eq_true, Bool.or_eq_false_iff, decide_eq_true_eq, decide_eq_false_iff_not, beq_iff_eq, bne_iff_ne, beq_eq_false_iff_ne, bne_eq_false_iff_eq, Bool.not_true, Bool.not_false, gt_iff_lt, ge_iff_le, Int.not_lt, Int.not_le, ne_eq, Decidable.not_not] at hd) <;> (try simp at hs))
      | refine T_ret ?_
      | refine leave_ids (.inr rfl) _ [1] rfl (by simp) (by simp) ?_
      | refine leave_ids (.inl rfl) _ [1] rfl (by simp) (by simp) ?_
      | refine leaveA_of (.inr rfl) _ rfl ?_
      | refine leaveA_of (.inl rfl) _ rfl ?_
      | refine wif_intro ?_ (fun hc => ?_)
      | refine And.intro ?_ ?_
      | intro hc
    | simp (maxSteps := 4000000) only [wops_nil, wops_cons, wstep_none, wrun_mv, wrun_load, wrun_faddr, wrun_iaddrS, wrun_len, wrun_box, wrun_mks, wop, aop, ev, look, put_some, writes, ores_some, ores_ite_none, ores_map, ores_bind, thenK, intV, lenOf, value, cut, hget, AV.parts, isOne, mkAgg, List.map_cons, List.map_nil, List.length_cons, List.length_nil, List.getElem?_cons_zero, List.getElem?_cons_succ, List.set_cons_zero, List.set_cons_succ, List.take_succ_cons, List.take_nil, List.drop_succ_cons, List.drop_zero, List.cons_append, List.nil_append, List.append_nil, List.replicate_zero, List.replicate_succ, List.zipIdx_cons, List.zipIdx_nil, List.all_cons, List.all_nil, Option.pure_def, Option.bind_eq_bind, Option.map_some, if_true, if_false, Nat.reduceEqDiff, Nat.reduceAdd, Nat.add_zero, Nat.zero_add, Nat.zero_ne_one, reduceCtorEq, Bool.and_true, Bool.false_eq_true, eq_self, true_and, and_true, and_self, List.all_cons, Int.toNat_natCast, Int.toNat_zero, *]
    | simp (disch := omega) only [getD_ints, wrapI]
    | omega)
  refine T_forP [3, 5, 16, 17, 18] (SL79 nil l n) l.length (fun k H => ∃ X, H = pB np mi den :: .cells true false 1 (fR n (pwz l mi k)) :: X) 0 ?_ ?_ (Nat.zero_le _) ?_
  · simp [St.only, get_mk, look]
  · exact ⟨[], by rw [e0.down]⟩
  intro k H hk ⟨X, hH⟩
  subst hH
  by_cases hkn : k < l.length
  · exact T_thenR (hrow.down k hkn X _) fun s' hs => ⟨hkn, hs.1, hs.2⟩
  · have hke : k = l.length := by omega
    subst hke
    rw [e9.down]
    clear hrow e0 e9
    unfold c79l1
    repeat' (first
      | ((with_reducible refine T_calm ?_ ?_); rfl)
      | with_reducible first
        | refine T_seq ?_
        | refine T_reg ?_
        | refine T_draw ?_
        | refine T_skip ?_
        | refine T_exit ?_
        | refine T_block ?_
        | refine T_cond_t rfl ?_
        | refine T_cond_f rfl ?_
        | refine wdW_cons rfl ?_
        | ((first | refine T_cond rfl (fun hc => ?_) (fun hc => ?_) | refine wguard_split (fun hc => ?_) (fun hc => ?_) | refine wguardX_split (fun hc => ?_) (fun hc => ?_)) <;> have hd := hc <;> (try simp (disch := omega) only [wrapI] at hd) <;> have hs := hd <;> (try simp only [decide_eq_true_eq, decide_eq_false_iff_not, Int.not_lt] at hd) <;> (try simp at hs))
        | refine T_ret ?_
        | refine leave_ids (.inr rfl) _ [1] rfl (by simp) (by simp) ?_
        | refine leave_ids (.inl rfl) _ [1] rfl (by simp) (by simp) ?_
        | refine leaveA_of (.inr rfl) _ rfl ?_
        | refine leaveA_of (.inl rfl) _ rfl ?_
        | refine wif_intro ?_ (fun hc => ?_)
        | refine And.intro ?_ ?_
        | intro hc
      | simp (maxSteps := 4000000) only [wops_nil, wops_cons, wstep_none, wrun_mv, wrun_bin, get_mk, wop, aop, ev, look, put_some, writes, ores_some, binV, thenK, blockK, hget, tupOf, List.map_cons, List.map_nil, List.length_cons, List.getElem?_cons_zero, List.getElem?_cons_succ, List.append_nil, List.replicate_zero, Option.getD_some, Option.map_some, Option.map_none, if_true, if_false, Nat.reduceEqDiff, Nat.zero_add, reduceCtorEq, eq_self, false_and, ren, renB, renO, keepρ, pos, Nat.not_lt_zero, renR_ints, Int.toNat_natCast, renR_ints, *]
      | simp (disch := omega) only [getD_ints, wrapI]
      | omega)
    all_goals first | rfl
end Go.Abs
