import Derived.Test.YtpfmamngjefohaaK332x
import Derived.Test.YtpfmamngjefohaaK346x
set_option linter.all false
set_option linter.unusedVariables false
set_option linter.unusedSimpArgs false
set_option linter.unusedSectionVars false
namespace Go.Abs
open Go.Proofs
/-! pulls -/
def plz (w lo hi : List Int) : Nat → Int
  | 0 => 0
  | k + 1 => plz w lo hi k + w.getD k 0 * (lo.getD k 0 - hi.getD k 0)
theorem abs_mul_bd {a b A B : Int} (ha : 0 ≤ a ∧ a ≤ A) (hb : -B ≤ b ∧ b ≤ B) (hB : 0 ≤ B) : -(A * B) ≤ a * b ∧ a * b ≤ A * B := by
  have h1 : a * b ≤ a * B := Int.mul_le_mul_of_nonneg_left hb.2 ha.1
  have h2 : a * B ≤ A * B := Int.mul_le_mul_of_nonneg_right ha.2 hB
  have h3 : a * (-B) ≤ a * b := Int.mul_le_mul_of_nonneg_left hb.1 ha.1
  have h4 : a * (-B) = -(a * B) := Int.mul_neg a B
  omega
theorem plz_bd {n : Nat} {w lo hi : List Int} {den : Int} (hW : WOk n lo hi den) (hw : ∀ z, z < n → 0 ≤ w.getD z 0 ∧ w.getD z 0 ≤ 100) : ∀ k, k ≤ n → -(100000000000 * (k : Int)) ≤ plz w lo hi k ∧ plz w lo hi k ≤ 100000000000 * (k : Int)
  | 0, _ => by simp [plz]
  | k + 1, hk => by
    have h1 := plz_bd hW hw k (by omega)
    have a1 := hW.r1 k (by omega)
    have a2 := hW.r2 k (by omega)
    have h2 := abs_mul_bd (hw k (by omega)) (b := lo.getD k 0 - hi.getD k 0) (B := 1000000000) (by omega) (by omega)
    simp only [plz]
    push_cast; omega
abbrev SL89i (nil nw : Bool) (l : List Sk) (most : Int) (i : Nat) (w : List Int) (n : Nat) (T : Int) (z : Nat) : List (Nat × AV) := [(2, i64 most), (4, .loc 0 0 0), (9, i64 T), (12, sts nil l), (13, i64 l.length), (14, i64 i), (19, ints nw w), (20, i64 n), (21, i64 z)]
set_option maxHeartbeats 8000000 in
theorem k89in {nil nw n1 n2 : Bool} {l : List Sk} {w lo hi : List Int} {den most : Int} {n i : Nat} {H : List Blk} {o : Bool} (hn : n ≤ 40) (hW : WOk n lo hi den) (hw : w.length = n) (hwr : ∀ z, z < n → 0 ≤ w.getD z 0 ∧ w.getD z 0 ≤ 100) (hH0 : H[0]? = some (.cells o false 3 [[ints n1 lo, ints n2 hi, i64 den]])) (K : Exit → St → Prop)
    (hN : ∀ τ : St, τ.heap = H → (τ.only [2, 4, 9, 12, 13, 14]).slots = [(2, i64 most), (4, .loc 0 0 0), (9, i64 (plz w lo hi n)), (12, sts nil l), (13, i64 l.length), (14, i64 i)] → K (.exit 2) τ)
    {σ : St} (h0 : (σ.only [2, 4, 9, 12, 13, 14, 19, 20, 21]).slots = SL89i nil nw l most i w n 0 0) (hH : σ.heap = H) {bb : Nat} : T none Try.prog muts 46 bb (.loop c89l0) σ K := by
  have hwl : (w.map fun x => [i64 x]).length = n := by rw [List.length_map, hw]
  have hll := (by simp : (lo.map fun x => [i64 x]).length = lo.length)
  have hlh := (by simp : (hi.map fun x => [i64 x]).length = hi.length)
  have r1 := hW.l1
  have r2 := hW.l2
  have x0 := (List.getElem?_eq_some_iff.1 hH0).1
  refine T_forP [2, 4, 9, 12, 13, 14, 19, 20, 21] (fun z => SL89i nil nw l most i w n (plz w lo hi z) z) n (fun z H' => H' = H) 0 h0 hH (Nat.zero_le _) ?_
  clear h0 hH
  intro z H' hz hH
  subst hH
  by_cases hzn : z < n
  · have g1 : (w.map fun x => [i64 x]).getD z [] = [i64 (w.getD z 0)] := getD_ints (by omega)
    have g2 : (lo.map fun x => [i64 x]).getD z [] = [i64 (lo.getD z 0)] := getD_ints (by omega)
    have g3 : (hi.map fun x => [i64 x]).getD z [] = [i64 (hi.getD z 0)] := getD_ints (by omega)
    have b1 := plz_bd hW hwr z (by omega)
    have b2 := hW.r1 z hzn
    have b3 := hW.r2 z hzn
    have b4 := abs_mul_bd (hwr z hzn) (b := lo.getD z 0 - hi.getD z 0) (B := 1000000000) (by omega) (by omega)
    have ew1 : IntKind.i64.wrap (lo.getD z 0 - hi.getD z 0) = lo.getD z 0 - hi.getD z 0 := wrapI (by omega) (by omega)
    have ew2 : IntKind.i64.wrap (w.getD z 0 * (lo.getD z 0 - hi.getD z 0)) = w.getD z 0 * (lo.getD z 0 - hi.getD z 0) := wrapI (by omega) (by omega)
    have ew3 : IntKind.i64.wrap (plz w lo hi z + w.getD z 0 * (lo.getD z 0 - hi.getD z 0)) = plz w lo hi (z + 1) := wrapI (by omega) (by omega)
    have y1 : (z : Int) < (lo.length : Int) := by omega
    have y2 : (z : Int) < (hi.length : Int) := by omega
    have y3 : (z : Int) < (w.length : Int) := by omega
    have y4 : (z : Int) < (n : Int) := by omega
    clear hN hwr b1 b2 b3 b4 hW r1 r2 hw
    generalize plz w lo hi (z + 1) = T2 at *
    generalize plz w lo hi z = T1 at *
    generalize w.getD z 0 = u1 at *
    generalize lo.getD z 0 = u2 at *
    generalize hi.getD z 0 = u3 at *
    unfold c89l0
    repeat' (first
      | with_reducible first
        | refine T_seq ?_
        | refine T_reg ?_
        | refine T_draw ?_
        | refine T_skip ?_
        | refine T_exit ?_
        | refine T_block ?_
        | refine T_cond_t rfl ?_
        | refine T_cond_f rfl ?_
        | refine wdW_cons rfl ?_
        | ((first | refine T_cond rfl (fun hc => ?_) (fun hc => ?_) | refine wguard_split (fun hc => ?_) (fun hc => ?_) | refine wguardX_split (fun hc => ?_) (fun hc => ?_)) <;> have hd := hc <;> (try simp (disch := omega) only [wrapI] at hd) <;> have hs := hd <;> (try simp only [Bool.not_eq_true', Bool.not_eq_false', Bool.and_eq_true, Bool.and_eq_false_iff, Bool.or_eq_true, Bool.or_eq_false_iff, decide_eq_true_eq, decide_eq_false_iff_not, beq_iff_eq, bne_iff_ne, beq_eq_false_iff_ne, bne_eq_false_iff_eq, Bool.not_true, Bool.not_false, gt_iff_lt, ge_iff_le, Int.not_lt, Int.not_le, ne_eq, Decidable.not_not] at hd) <;> (try simp at hs))
        | refine T_ret ?_
        | refine wif_intro ?_ (fun hc => ?_)
        | refine And.intro ?_ ?_
        | intro hc
      | simp (maxSteps := 4000000) only [wops_nil, wops_cons, wstep_none, wrun_mv, wrun_bin, wrun_load, wrun_faddr, wrun_iaddrS, wrunX_mv, wrunX_bin, wrunX_load, wrunX_faddr, wrunX_iaddrS, wdW_nil, wstepX_none, wop, aop, ev, look, put_some, writes, ores_some, ores_ite_none, binV, thenK, blockK, value, cut, hget, toLits, mkAgg, List.length_cons, List.length_nil, List.take_succ_cons, List.take_zero, List.take_nil, List.drop_succ_cons, List.drop_zero, List.append_nil, List.replicate_zero, List.getD_cons_zero, Option.getD_some, Option.map_some, if_true, if_false, Nat.reduceEqDiff, Nat.add_zero, Nat.zero_add, reduceCtorEq, Bool.false_eq_true, eq_self, true_and, and_true, and_self, decide_true, Int.toNat_natCast, *]
      | simp (disch := omega) only [wrapI]
      | (with_reducible refine wdW_cons ?_ ?_; (next => simp [chk, foot, compatB, argsOf, St.get, target, ev, look, lidsL, hget, kind, AOp.isRaw, wids, wtops, tops, opds, topId, Int.toNat_natCast, x0]; done))
      | omega)
    all_goals first | rfl | (simp [St.only, get_mk, look]; done)
  · have hze : z = n := by omega
    subst hze
    have f := PLift.up (hN)
    have hzz : decide ((z : Int) < (z : Int)) = false := by simp
    clear hN hwr hW
    generalize plz w lo hi z = T1 at *
    unfold c89l0
    repeat' (first
      | ((with_reducible refine T_calm ?_ ?_); rfl)
      | with_reducible first
        | refine T_seq ?_
        | refine T_reg ?_
        | refine T_draw ?_
        | refine T_skip ?_
        | refine T_exit ?_
        | refine T_block ?_
        | refine T_cond_t rfl ?_
        | refine T_cond_f rfl ?_
        | refine wdW_cons rfl ?_
        | ((first | refine T_cond rfl (fun hc => ?_) (fun hc => ?_) | refine wguard_split (fun hc => ?_) (fun hc => ?_) | refine wguardX_split (fun hc => ?_) (fun hc => ?_)) <;> have hd := hc <;> (try simp (disch := omega) only [wrapI] at hd) <;> have hs := hd <;> (try simp only [Bool.not_eq_true', Bool.not_eq_false', Bool.and_eq_true, Bool.and_eq_false_iff, Bool.or_eq_true, Bool.or_eq_false_iff, decide_eq_true_eq, decide_eq_false_iff_not, beq_iff_eq, bne_iff_ne, beq_eq_false_iff_ne, bne_eq_false_iff_eq, Bool.not_true, Bool.not_false, gt_iff_lt, ge_iff_le, Int.not_lt, Int.not_le, ne_eq, Decidable.not_not] at hd) <;> (try simp at hs))
        | refine T_ret ?_
        | refine wif_intro ?_ (fun hc => ?_)
        | refine And.intro ?_ ?_
        | intro hc
      | simp (maxSteps := 4000000) only [wops_nil, wops_cons, wstep_none, wrun_bin, wop, aop, ev, look, put_some, writes, ores_some, binV, thenK, List.append_nil, List.replicate_zero, Option.map_some, if_true, if_false, Nat.reduceEqDiff, reduceCtorEq, eq_self, false_and, Int.toNat_natCast, *]
      | simp (disch := omega) only [getD_ints, wrapI]
      | omega)
    all_goals first | exact f.down _ rfl (by simp [St.only, get_mk, look])
def plB (l : List Sk) (lo hi : List Int) (n : Nat) (most : Int) : Bool := decide (∀ i, i < l.length → plz (l.getD i sk0).wr lo hi n ≤ most)
abbrev SL89 (nil : Bool) (l : List Sk) (most : Int) (i : Nat) : List (Nat × AV) := [(2, i64 most), (4, .loc 0 0 0), (12, sts nil l), (13, i64 l.length), (14, i64 i)]
set_option maxHeartbeats 8000000 in
theorem k89l {nil n1 n2 : Bool} {l : List Sk} {lo hi : List Int} {den most : Int} {n i : Nat} {H : List Blk} {o : Bool} (hS : SOk l) (hn : n = (l.getD 0 sk0).wr.length) (hW : WOk n lo hi den) (hi9 : i < l.length) (hH0 : H[0]? = some (.cells o false 3 [[ints n1 lo, ints n2 hi, i64 den]])) (K : Exit → St → Prop)
    (hE : ¬plz (l.getD i sk0).wr lo hi n ≤ most → ∀ τ : St, τ.get 6 = bl false → K .ret τ) {bb : Nat} :
    T none Try.prog muts 46 bb c89l1 ⟨SL89 nil l most i, H⟩ (thenK (fun s' => (plz (l.getD i sk0).wr lo hi n ≤ most ∧ Ext H s'.heap) ∧ (s'.only [2, 4, 12, 13, 14]).slots = SL89 nil l most (i + 1)) K) := by
  have hll := skR_len l
  have g1 := skR_get hi9
  have hfew := hS.few
  have hz40 := hS.zon
  have hwn : (l.getD i sk0).wr.length = n := by rw [hn]; exact hS.len _ hi9
  have hwl : ((l.getD i sk0).wr.map fun x => [i64 x]).length = n := by rw [List.length_map, hwn]
  obtain ⟨u1, u2, u3, u4⟩ := cells_sub (X := []) (H := H) rfl
  have a0 := at_in hH0
  have hin := fun K hN σ h0 hH => k89in (nil := nil) (nw := (l.getD i sk0).nil) (n1 := n1) (n2 := n2) (l := l) (w := (l.getD i sk0).wr) (lo := lo) (hi := hi) (den := den) (most := most) (n := n) (i := i) (H := H ++ [kB (l.getD i sk0)]) (o := o) (bb := bb) (by omega) hW hwn (fun z hz => hS.rng _ hi9 z (by omega)) (a0 _) K hN (σ := σ) h0 hH
  have hic : (i : Int) < (l.length : Int) := by omega
  have hx := PLift.up (Ext.app H [kB (l.getD i sk0)])
  replace hin := PLift.up hin
  replace hE := PLift.up hE
  have hs9 : plz (l.getD i sk0).wr lo hi 0 = 0 := rfl
  generalize hP : plz (l.getD i sk0).wr lo hi n = PP at *
  clear hS hW hn
  unfold c89l1
  repeat' (first
    | ((with_reducible refine T_calm ?_ ?_); rfl)
    | with_reducible first
      | refine T_seq ?_
      | refine T_reg ?_
      | refine T_draw ?_
      | refine T_skip ?_
      | refine T_exit ?_
      | refine T_block ?_
      | refine T_cond_t rfl ?_
      | refine T_cond_f rfl ?_
      | refine wdW_cons rfl ?_
      | ((first | refine T_cond rfl (fun hc => ?_) (fun hc => ?_) | refine wguard_split (fun hc => ?_) (fun hc => ?_) | refine wguardX_split (fun hc => ?_) (fun hc => ?_)) <;> have hd := hc <;> (try simp (disch := omega) only [wrapI] at hd) <;> have hs := hd <;> (try simp only [Bool.not_eq_true', Bool.not_eq_false', Bool.and_eq_true, Bool.and_eq_false_iff, Bool.or_eq_true, Bool.or_eq_false_iff, decide_eq_true_eq, decide_eq_false_iff_not, beq_iff_eq, bne_iff_ne, beq_eq_false_iff_ne, bne_eq_false_iff_eq, Bool.not_true, Bool.not_false, gt_iff_lt, ge_iff_le, Int.not_lt, Int.not_le, ne_eq, Decidable.not_not] at hd) <;> (try simp at hs))
      | refine T_ret ?_
      | refine wif_intro ?_ (fun hc => ?_)
      | refine And.intro ?_ ?_
      | intro hc
    | simp (maxSteps := 4000000) only [wops_nil, wops_cons, wstep_none, wrun_mv, wrun_bin, wrun_load, wrun_store, wrun_faddr, wrun_iaddrS, wrun_len, wrun_alloc, wop, aop, ev, look, put_some, put_none, writes, ores_some, ores_ite_none, ores_map, ores_bind, binV, thenK, intV, lenOf, value, cut, hget, putCells, AV.parts, isOne, toLits, mkAgg, List.length_cons, List.length_nil, List.getElem?_cons_zero, List.set_cons_zero, List.take_succ_cons, List.take_zero, List.take_nil, List.drop_succ_cons, List.drop_zero, List.drop_nil, List.nil_append, List.append_nil, List.append_assoc, List.replicate_zero, List.replicate_succ, List.getD_cons_zero, List.all_cons, List.all_nil, List.length_append, Option.pure_def, Option.bind_eq_bind, Option.getD_some, Option.map_some, Option.map_none, if_true, if_false, Nat.reduceEqDiff, Nat.reduceAdd, Nat.reduceLT, Nat.add_zero, Nat.zero_add, Nat.le_refl, reduceCtorEq, Bool.and_true, Bool.false_eq_true, eq_self, true_and, and_true, and_self, decide_true, List.all_cons, Int.toNat_natCast, *]
    | simp (disch := omega) only [getD_ints, wrapI]
    | omega)
  refine hin.down _ ?_ _ ?_ rfl
  · intro τ t1 t2
    simp only [blockK, thenK, reduceIte]
    refine T_onlyU [2, 4, 9, 12, 13, 14] (S := ⟨[(2, i64 most), (4, .loc 0 0 0), (9, i64 PP), (12, sts nil l), (13, i64 l.length), (14, i64 i)], H ++ [kB (l.getD i sk0)]⟩) (by show (⟨(τ.only [2, 4, 9, 12, 13, 14]).slots, τ.heap⟩ : St) = _; rw [t2, t1]) ?_
    clear hin hP t1 t2
    by_cases hle : PP ≤ most
    · have d1 : decide (PP > most) = false := decide_eq_false (by omega)
      replace hle := PLift.up hle
      clear hE
      repeat' (first
        | ((with_reducible refine T_calm ?_ ?_); rfl)
        | with_reducible first
          | refine T_seq ?_
          | refine T_reg ?_
          | refine T_draw ?_
          | refine T_skip ?_
          | refine T_exit ?_
          | refine T_block ?_
          | refine T_cond_t rfl ?_
          | refine T_cond_f rfl ?_
          | refine wdW_cons rfl ?_
          | ((first | refine T_cond rfl (fun hc => ?_) (fun hc => ?_) | refine wguard_split (fun hc => ?_) (fun hc => ?_) | refine wguardX_split (fun hc => ?_) (fun hc => ?_)) <;> have hd := hc <;> (try simp (disch := omega) only [wrapI] at hd) <;> have hs := hd <;> (try simp only [Bool.not_eq_true', Bool.not_eq_false', Bool.and_eq_true, Bool.and_eq_false_iff, Bool.or_eq_true, Bool.or_eq_false_iff, decide_eq_true_eq, decide_eq_false_iff_not, beq_iff_eq, bne_iff_ne, beq_eq_false_iff_ne, bne_eq_false_iff_eq, Bool.not_true, Bool.not_false, gt_iff_lt, ge_iff_le, Int.not_lt, Int.not_le, ne_eq, Decidable.not_not] at hd) <;> (try simp at hs))
          | refine T_ret ?_
          | refine wif_intro ?_ (fun hc => ?_)
          | refine And.intro ?_ ?_
          | intro hc
        | simp (maxSteps := 4000000) only [wops_nil, wops_cons, wstep_none, wrun_mv, wrun_bin, wop, aop, ev, look, put_some, writes, ores_some, binV, thenK, blockK, List.length_cons, List.length_nil, List.append_nil, List.replicate_zero, List.length_append, Option.map_some, if_true, if_false, Nat.reduceEqDiff, Nat.zero_add, reduceCtorEq, eq_self, *]
        | simp (disch := omega) only [wrapI]
        | omega)
      all_goals first | exact ⟨hle.down, hx.down⟩ | exact hle.down | exact hx.down | (simp [St.only, get_mk, look]; done)
    · have d1 : decide (PP > most) = true := decide_eq_true (by omega)
      have f := PLift.up (hE.down hle)
      clear hE hle
      repeat' (first
        | ((with_reducible refine T_calm ?_ ?_); rfl)
        | with_reducible first
          | refine T_seq ?_
          | refine T_reg ?_
          | refine T_draw ?_
          | refine T_skip ?_
          | refine T_exit ?_
          | refine T_block ?_
          | refine T_cond_t rfl ?_
          | refine T_cond_f rfl ?_
          | refine wdW_cons rfl ?_
          | ((first | refine T_cond rfl (fun hc => ?_) (fun hc => ?_) | refine wguard_split (fun hc => ?_) (fun hc => ?_) | refine wguardX_split (fun hc => ?_) (fun hc => ?_)) <;> have hd := hc <;> (try simp (disch := omega) only [wrapI] at hd) <;> have hs := hd <;> (try simp only [Bool.not_eq_true', Bool.not_eq_false', Bool.and_eq_true, Bool.and_eq_false_iff, Bool.or_eq_true, Bool.or_eq_false_iff, decide_eq_true_eq, decide_eq_false_iff_not, beq_iff_eq, bne_iff_ne, beq_eq_false_iff_ne, bne_eq_false_iff_eq, Bool.not_true, Bool.not_false, gt_iff_lt, ge_iff_le, Int.not_lt, Int.not_le, ne_eq, Decidable.not_not] at hd) <;> (try simp at hs))
          | refine T_ret ?_
          | refine wif_intro ?_ (fun hc => ?_)
          | refine And.intro ?_ ?_
          | intro hc
        | simp (maxSteps := 4000000) only [wops_nil, wops_cons, wstep_none, wrun_mv, wrun_bin, wop, aop, ev, look, put_some, writes, ores_some, binV, thenK, blockK, List.length_cons, List.length_nil, List.append_nil, List.replicate_zero, List.length_append, Option.map_some, if_true, if_false, Nat.reduceEqDiff, Nat.zero_add, reduceCtorEq, eq_self, *]
        | simp (disch := omega) only [getD_ints, wrapI]
        | omega)
      all_goals first | exact f.down _ rfl
  · simp [St.only, get_mk, look]
set_option maxHeartbeats 8000000 in
theorem k89 (nil n1 n2 : Bool) (l : List Sk) (lo hi : List Int) (den most : Int) (hS : SOk l) (hW : WOk (l.getD 0 sk0).wr.length lo hi den) : Fn Try.prog 89 [sts nil l, wgV n1 lo n2 hi den, i64 most] (bl (plB l lo hi (l.getD 0 sk0).wr.length most)) [] := by
  refine fn_of e89 ?_
  have hll := skR_len l
  have hfew := hS.few
  have hrow := fun i hi9 H o hH0 K hE => k89l (nil := nil) (n1 := n1) (n2 := n2) (lo := lo) (hi := hi) (den := den) (most := most) (i := i) (H := H) (o := o) (bb := 0) hS rfl hW hi9 hH0 K hE
  have hT : (∀ i, i < l.length → plz (l.getD i sk0).wr lo hi (l.getD 0 sk0).wr.length ≤ most) → plB l lo hi (l.getD 0 sk0).wr.length most = true := fun h => decide_eq_true h
  have hF : ∀ i, i < l.length → ¬plz (l.getD i sk0).wr lo hi (l.getD 0 sk0).wr.length ≤ most → plB l lo hi (l.getD 0 sk0).wr.length most = false := fun i hi9 h => decide_eq_false fun h' => h (h' i hi9)
  generalize plB l lo hi (l.getD 0 sk0).wr.length most = R at *
  replace hrow := PLift.up hrow
  replace hT := PLift.up hT
  replace hF := PLift.up hF
  clear hS hW
  unfold c89
  repeat' (first
    | ((with_reducible refine T_calm ?_ ?_); rfl)
    | with_reducible first
      | refine T_seq ?_
      | refine T_reg ?_
      | refine T_draw ?_
      | refine T_skip ?_
      | refine T_exit ?_
      | refine T_block ?_
      | refine T_cond_t rfl ?_
      | refine T_cond_f rfl ?_
      | refine wdW_cons rfl ?_
      | ((first | refine T_cond rfl (fun hc => ?_) (fun hc => ?_) | refine wguard_split (fun hc => ?_) (fun hc => ?_) | refine wguardX_split (fun hc => ?_) (fun hc => ?_)) <;> have hd := hc <;> (try simp (disch := omega) only [wrapI] at hd) <;> have hs := hd <;> (try simp only [Bool.not_eq_true', Bool.not_eq_false', Bool.and_eq_true, Bool.and_eq_false_iff, Bool.or_eq_true, Bool.or_eq_false_iff, decide_eq_true_eq, decide_eq_false_iff_not, beq_iff_eq, bne_iff_ne, beq_eq_false_iff_ne, bne_eq_false_iff_eq, Bool.not_true, Bool.not_false, gt_iff_lt, ge_iff_le, Int.not_lt, Int.not_le, ne_eq, Decidable.not_not] at hd) <;> (try simp at hs))
      | refine T_ret ?_
      | refine leave_of (.inr rfl) _ rfl ?_
      | refine leave_of (.inl rfl) _ rfl ?_
      | refine leaveA_of (.inr rfl) _ rfl ?_
      | refine leaveA_of (.inl rfl) _ rfl ?_
      | refine wif_intro ?_ (fun hc => ?_)
      | refine And.intro ?_ ?_
      | intro hc
    | simp (maxSteps := 4000000) only [wops_nil, wops_cons, wstep_none, wrun_mv, wrun_len, wrun_box, wop, aop, ev, look, put_some, writes, ores_some, ores_map, ores_bind, thenK, intV, lenOf, hget, AV.parts, isOne, List.map_cons, List.map_nil, List.length_cons, List.length_nil, List.getElem?_cons_zero, List.set_cons_zero, List.nil_append, List.append_nil, List.replicate_zero, List.replicate_succ, List.zipIdx_cons, List.zipIdx_nil, List.all_cons, List.all_nil, Option.pure_def, Option.bind_eq_bind, if_true, if_false, Nat.reduceEqDiff, Nat.reduceAdd, Nat.add_zero, Nat.zero_add, Nat.zero_ne_one, reduceCtorEq, Bool.and_true, eq_self, true_and, and_self, List.all_cons, *]
    | simp (disch := omega) only [getD_ints, wrapI]
    | omega)
  refine T_forP [2, 4, 12, 13, 14] (SL89 nil l most) l.length (fun k H => (∃ o, H[0]? = some (.cells o false 3 [[ints n1 lo, ints n2 hi, i64 den]])) ∧ ∀ i, i < k → plz (l.getD i sk0).wr lo hi (l.getD 0 sk0).wr.length ≤ most) 0 ?_ ⟨⟨true, rfl⟩, fun i hi => by omega⟩ (Nat.zero_le _) ?_
  · simp [St.only, get_mk, look]
  intro k H hk ⟨⟨o, hH⟩, hI⟩
  by_cases hkn : k < l.length
  · refine T_thenR (hrow.down k hkn H o hH _ fun hne τ t6 => ?_) fun s' hs => ⟨hkn, ⟨hs.1.2.cell hH, fun i hi => ?_⟩, hs.2⟩
    · have h9 := hF.down k hkn hne
      have h8 : leave 0 [.tmp 6] (fun r' H' => r' = bl R ∧ H' = []) .ret τ := leave0 (v := bl false) (.inr rfl) (by simp [resL, resAV, t6]) (fun _ => rfl) ⟨by rw [h9], rfl⟩
      exact h8
    · rcases Nat.lt_succ_iff_lt_or_eq.1 hi with h | rfl
      · exact hI i h
      · exact hs.1.1
  · have hke : k = l.length := by omega
    subst hke
    have hr := hT.down hI
    subst hr
    clear hrow hT hF hI
    unfold c89l1
    repeat' (first
      | ((with_reducible refine T_calm ?_ ?_); rfl)
      | with_reducible first
        | refine T_seq ?_
        | refine T_reg ?_
        | refine T_draw ?_
        | refine T_skip ?_
        | refine T_exit ?_
        | refine T_block ?_
        | refine T_cond_t rfl ?_
        | refine T_cond_f rfl ?_
        | refine wdW_cons rfl ?_
        | ((first | refine T_cond rfl (fun hc => ?_) (fun hc => ?_) | refine wguard_split (fun hc => ?_) (fun hc => ?_) | refine wguardX_split (fun hc => ?_) (fun hc => ?_)) <;> have hd := hc <;> (try simp (disch := omega) only [wrapI] at hd) <;> have hs := hd <;> (try simp only [decide_eq_true_eq, decide_eq_false_iff_not, Int.not_lt] at hd) <;> (try simp at hs))
        | refine T_ret ?_
        | refine leave_of (.inr rfl) _ rfl ?_
        | refine leave_of (.inl rfl) _ rfl ?_
        | refine leaveA_of (.inr rfl) _ rfl ?_
        | refine leaveA_of (.inl rfl) _ rfl ?_
        | refine wif_intro ?_ (fun hc => ?_)
        | refine And.intro ?_ ?_
        | intro hc
      | simp (maxSteps := 4000000) only [wops_nil, wops_cons, wstep_none, wrun_mv, wrun_bin, get_mk, wop, aop, ev, look, put_some, writes, ores_some, binV, thenK, blockK, tupOf, List.append_nil, List.replicate_zero, Option.map_some, if_true, if_false, Nat.reduceEqDiff, reduceCtorEq, eq_self, false_and, ren, Int.toNat_natCast, *]
      | simp (disch := omega) only [getD_ints, wrapI]
      | omega)
    all_goals first | rfl
end Go.Abs
