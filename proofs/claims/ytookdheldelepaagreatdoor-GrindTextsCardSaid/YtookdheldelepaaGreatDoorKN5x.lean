import Derived.Test.YtookdheldelepaaGreatDoorKN3
set_option linter.all false
set_option linter.unusedVariables false
set_option linter.unusedSimpArgs false
set_option linter.unusedSectionVars false
namespace Go.Abs
open Go.Proofs
theorem cutL_le {c : UInt8} : ∀ {s p : List UInt8}, p ∈ cutL c s → p.length ≤ s.length
  | [], p, h => by simp [cutL] at h; subst h; simp
  | b :: r, p, h => by
    by_cases hb : b = c
    · subst hb
      rw [cutL_hit] at h
      rcases List.mem_cons.1 h with rfl | h
      · simp
      · have := cutL_le h; simp; omega
    · rw [cutL_miss hb] at h
      cases hc : cutL c r with
      | nil => exact absurd hc (cutL_ne _ _)
      | cons x t =>
        rw [hc] at h
        rcases List.mem_cons.1 h with rfl | h
        · have := cutL_le (c := c) (s := r) (p := x) (by rw [hc]; simp); simp; omega
        · have := cutL_le (c := c) (s := r) (p := p) (by rw [hc]; exact List.mem_cons_of_mem _ h); simp; omega
theorem pieces_le {s w : ByteArray} {c : UInt8} (h : w ∈ pieces s ⟨#[c]⟩) : w.size ≤ s.size := by
  have : w.data.toList ∈ cutL c s.data.toList := by rw [← pieces_cut]; exact List.mem_map.2 ⟨w, h, rfl⟩
  have := cutL_le this
  rwa [ba_len, ba_len] at this
theorem lenS_map {l : List ByteArray} : (l.map fun x => [strV x]).length = l.length := List.length_map _
theorem renR_txt (ρ : Nat → Option Nat) (l : List ByteArray) : renR ρ (l.map fun x => [strV x]) = l.map fun x => [strV x] := renR_plain ρ _ (plainR_map _ (fun _ => rfl) l)
theorem renR_app4 (ρ : Nat → Option Nat) : ∀ a b : List (List AV), renR ρ (a ++ b) = renR ρ a ++ renR ρ b
  | [], b => rfl
  | x :: a, b => by simp only [List.cons_append, renR, renR_app4 ρ a b]
/-! the document's Cut -/
def dmap (P : List ByteArray) : List (List UInt8) := P.map (·.data.toList)
def CutI (s : ByteArray) (c : UInt8) (P : List ByteArray) (f i : Nat) : Prop := dmap P ++ att ((s.data.toList.drop f).take (i - f)) (cutL c (s.data.toList.drop i)) = cutL c s.data.toList
theorem drop_at {l : List UInt8} {i : Nat} {b : UInt8} (h : l[i]? = some b) : l.drop i = b :: l.drop (i + 1) := by
  obtain ⟨hi, e⟩ := List.getElem?_eq_some_iff.1 h
  rw [List.drop_eq_getElem_cons hi, e]
theorem take_at {l : List UInt8} {f i : Nat} {b : UInt8} (hf : f ≤ i) (h : l[i]? = some b) : (l.drop f).take (i + 1 - f) = (l.drop f).take (i - f) ++ [b] := by
  rw [show i + 1 - f = i - f + 1 by omega, List.take_succ, List.getElem?_drop, show f + (i - f) = i by omega, h]; rfl
theorem bget {s : ByteArray} {i : Nat} {b : UInt8} (h : s[i]? = some b) : s.data.toList[i]? = some b := by rw [Array.getElem?_toList]; exact h
theorem CutI.miss {s : ByteArray} {c b : UInt8} {P : List ByteArray} {f i : Nat} (h : CutI s c P f i) (hf : f ≤ i) (hb : s[i]? = some b) (hn : b ≠ c) : CutI s c P f (i + 1) := by
  unfold CutI at *
  rw [drop_at (bget hb), cutL_miss hn, att_att (cutL_ne _ _), ← take_at hf (bget hb)] at h
  exact h
theorem ext_data (s : ByteArray) (f i : Nat) : (s.extract f i).data.toList = (s.data.toList.drop f).take (i - f) := by
  rw [Lib.extract_data]
theorem dmap_app (P : List ByteArray) (x : ByteArray) : dmap (P ++ [x]) = dmap P ++ [x.data.toList] := by simp [dmap]
theorem CutI.hit {s : ByteArray} {c : UInt8} {P : List ByteArray} {f i : Nat} (h : CutI s c P f i) (hb : s[i]? = some c) : CutI s c (P ++ [s.extract f i]) (i + 1) (i + 1) := by
  unfold CutI at *
  rw [drop_at (bget hb), cutL_hit] at h
  rw [Nat.sub_self, List.take_zero, att_nil (cutL_ne _ _), dmap_app, ext_data, List.append_assoc]
  simpa [att] using h
theorem CutI.fin {s : ByteArray} {c : UInt8} {P : List ByteArray} {f : Nat} (h : CutI s c P f s.size) : P ++ [s.extract f s.size] = pieces s ⟨#[c]⟩ := by
  unfold CutI at h
  refine map_data_inj ?_
  have e : s.data.toList.drop s.size = [] := List.drop_of_length_le (by rw [ba_len]; exact Nat.le_refl _)
  rw [e] at h
  rw [pieces_cut, ← h]
  have := dmap_app P (s.extract f s.size)
  unfold dmap at *
  rw [this, ext_data]
  simp [att, cutL]
theorem CutI.init (s : ByteArray) (c : UInt8) : CutI s c [] 0 0 := by
  unfold CutI
  simp [dmap, att_nil (cutL_ne _ _)]
def txV (P : List ByteArray) : AV := if P = [] then .sl true 0 [] else .lsl 0 0 P.length
def txB (P : List ByteArray) : List Blk := if P = [] then [] else [.cells true false 1 (P.map fun x => [strV x])]
def I36 (s : ByteArray) (c : UInt8) (n : Nat) (st : St) : Prop := ∃ (P : List ByteArray) (f i : Nat), n = s.size + 1 - i ∧ f ≤ i ∧ P.length ≤ i ∧
  ((i ≤ s.size ∧ CutI s c P f i) ∨ (i = s.size + 1 ∧ P = pieces s ⟨#[c]⟩)) ∧ st = ⟨[(0, strV s), (1, .lit (.int .u8 c.toNat)), (5, txV P), (6, i64 f), (7, i64 i)], txB P⟩
theorem I36.mk' {s : ByteArray} {c : UInt8} {P : List ByteArray} {f i : Nat} (h1 : f ≤ i) (h2 : P.length ≤ i) (h : (i ≤ s.size ∧ CutI s c P f i) ∨ (i = s.size + 1 ∧ P = pieces s ⟨#[c]⟩)) : I36 s c (s.size + 1 - i) ⟨[(0, strV s), (1, .lit (.int .u8 c.toNat)), (5, txV P), (6, i64 f), (7, i64 i)], txB P⟩ :=
  ⟨P, f, i, rfl, h1, h2, h, rfl⟩
theorem txV_app (P : List ByteArray) (x : ByteArray) : txV (P ++ [x]) = .lsl 0 0 (P.length + 1) := by simp [txV]
theorem txB_app (P : List ByteArray) (x : ByteArray) : txB (P ++ [x]) = [.cells true false 1 (P.map (fun x => [strV x]) ++ [[strV x]])] := by simp [txB]
theorem pieces_ne (s : ByteArray) (c : UInt8) : pieces s ⟨#[c]⟩ ≠ [] := fun h => cutL_ne c s.data.toList (by rw [← pieces_cut, h]; rfl)
theorem take_txt (P : List ByteArray) : List.take P.length (P.map fun x => [strV x]) = P.map fun x => [strV x] := List.take_of_length_le (by simp)
set_option maxHeartbeats 8000000 in
theorem k50 {s : ByteArray} (c : UInt8) (hs : s.size ≤ 1000) : Fn Tryz.prog 50 [strV s, .lit (.int .u8 c.toNat)] (.lsl 0 0 (pieces s ⟨#[c]⟩).length) [.cells true false 1 ((pieces s ⟨#[c]⟩).map fun x => [strV x])] := by
  refine fn_of e50 ?_
  unfold c50
  repeat' (first | (with_reducible first | refine T_seq ?_ | refine T_reg ?_ | refine T_skip ?_ | refine T_exit ?_ | refine T_block ?_ | refine T_cond_t rfl ?_ | refine T_cond_f rfl ?_ | refine T_ret ?_ | refine leave_of (.inr rfl) _ rfl ?_ | refine leave_of (.inl rfl) _ rfl ?_ | refine wif_intro ?_ (fun hc => ?_) | refine And.intro ?_ ?_ | intro hc) | simp (maxSteps := 4000000) only [wops_nil, wops_cons, wstep_none, wrun_mv, wop, aop, ev, put_some, writes, ores_some, thenK, List.map_cons, List.map_nil, List.length_nil, List.append_nil, List.replicate_zero, List.zipIdx_cons, List.zipIdx_nil, Nat.reduceAdd, Nat.zero_add, *] | simp (disch := omega) only [getD_ints, wrapI] | omega)
  refine T_loop_keep [0, 1, 5, 6, 7] (I36 s c) (s.size + 1) ⟨[], by simp, by simp, by simp, [], 0, 0, rfl, Nat.le_refl _, by simp, .inl ⟨Nat.zero_le _, CutI.init s c⟩, ?_⟩ ?_
  · simp [St.keep, get_mk, look, ren, renR, renB, hget, txV, txB]
  rintro n st ⟨P, f, i, rfl, hfi, hPi, hi, rfl⟩
  have hlP : (P.map fun x => [strV x]).length = P.length := List.length_map _
  rcases hi with ⟨his, hC⟩ | ⟨hie, hPe⟩
  · have hlt : s.size + 1 - (i + 1) < s.size + 1 - i := by omega
    have d2 : decide ((i : Int) ≤ (s.size : Int)) = true := decide_eq_true (by omega)
    by_cases hie : i = s.size
    · have hst := I36.mk' (s := s) (c := c) (P := P ++ [s.extract f i]) (f := i + 1) (i := i + 1) (Nat.le_refl _) (by simp; omega) (.inr ⟨by omega, by subst hie; exact hC.fin⟩)
      rw [txV_app, txB_app] at hst
      have d1 : ((i : Int) == (s.size : Int)) = true := by simp only [beq_iff_eq]; omega
      replace hst := PLift.up hst
      clear hC hie
      by_cases hP : P = []
      · subst hP
        simp only [txV, txB, if_true]
        clear hlP hPi
        unfold c50l0
        repeat' (first | (with_reducible first | refine T_seq ?_ | refine T_reg ?_ | refine T_skip ?_ | refine T_exit ?_ | refine T_block ?_ | refine T_cond_t rfl ?_ | refine T_cond_f rfl ?_ | refine T_ret ?_ | refine leave_of (.inr rfl) _ rfl ?_ | refine leave_of (.inl rfl) _ rfl ?_ | refine wif_intro ?_ (fun hc => ?_) | refine And.intro ?_ ?_ | intro hc) | simp (maxSteps := 4000000) only [wops_nil, wops_cons, wstep_none, wstep_some, wguard_tf, wrun_mv, wrun_pick, wrun_bin, wrun_slcS, wrun_lenS, wrun_bslice, wrun_app, wop, aop, ev, look, put_some, writes, ores_some, ores_ite_none, ores_map, ores_bind, binV, thenK, blockK, intV, elsOf, szOk, hget, fillA, putCells, AV.parts, isOne, boundOf, List.flatten_cons, List.flatten_nil, rowsOf, List.map_cons, List.map_nil, List.length_cons, List.length_nil, List.getElem?_cons_zero, List.getElem?_cons_succ, List.set_cons_zero, List.set_cons_succ, List.take_succ_cons, List.take_zero, List.take_nil, List.drop_succ_cons, List.drop_zero, List.drop_nil, List.nil_append, List.append_nil, List.replicate_zero, List.replicate_succ, List.all_cons, List.all_nil, List.isEmpty_cons, Option.getD_some, Option.map_some, if_true, if_false, Nat.reduceEqDiff, Nat.reduceAdd, Nat.reduceMul, Nat.reduceLeDiff, Nat.add_zero, Nat.zero_add, Nat.sub_zero, Nat.mul_one, Nat.le_refl, reduceCtorEq, Bool.and_true, Bool.or_true, eq_self, true_and, and_self, beq_self_eq_true, List.all_cons, Int.toNat_natCast, *] | simp (disch := omega) only [wrapI] | omega)
        all_goals first | omega | exact ⟨_, hlt, [1], by simp, by simp, by simpa [St.keep, get_mk, look, ren, renL, renR, renB, renO, keepρ, pos, hget, renR_txt, renR_app4] using hst.down⟩
      · simp only [txV, txB, hP, if_false]
        unfold c50l0
        repeat' (first | (with_reducible first | refine T_seq ?_ | refine T_reg ?_ | refine T_skip ?_ | refine T_exit ?_ | refine T_block ?_ | refine T_cond_t rfl ?_ | refine T_cond_f rfl ?_ | refine T_ret ?_ | refine leave_of (.inr rfl) _ rfl ?_ | refine leave_of (.inl rfl) _ rfl ?_ | refine wif_intro ?_ (fun hc => ?_) | refine And.intro ?_ ?_ | intro hc) | simp (maxSteps := 4000000) only [wops_nil, wops_cons, wstep_none, wstep_some, wguard_tf, wrun_mv, wrun_pick, wrun_bin, wrun_slcS, wrun_lenS, wrun_bslice, wrun_app, wop, aop, ev, look, put_some, writes, ores_some, ores_ite_none, ores_map, ores_bind, binV, thenK, blockK, intV, elsOf, szOk, hget, fillA, putCells, AV.parts, isOne, boundOf, List.flatten_cons, List.flatten_nil, rowsOf, List.map_cons, List.map_nil, List.length_cons, List.length_nil, List.getElem?_cons_zero, List.getElem?_cons_succ, List.set_cons_zero, List.set_cons_succ, List.take_succ_cons, List.take_zero, List.take_nil, List.drop_succ_cons, List.drop_zero, List.drop_nil, List.cons_append, List.nil_append, List.append_nil, List.replicate_zero, List.replicate_succ, List.all_cons, List.all_nil, List.isEmpty_cons, Option.getD_some, Option.map_some, if_true, if_false, Nat.reduceEqDiff, Nat.reduceAdd, Nat.reduceLeDiff, Nat.add_zero, Nat.zero_add, Nat.sub_zero, Nat.mul_one, Nat.le_refl, reduceCtorEq, Bool.and_true, Bool.and_false, Bool.or_true, eq_self, true_and, and_self, beq_self_eq_true, List.all_cons, Int.toNat_natCast, take_txt, *] | simp (disch := omega) only [wrapI] | omega)
        all_goals first | omega | exact ⟨_, hlt, [2], by simp, by simp, by simpa [St.keep, get_mk, look, ren, renL, renR, renB, renO, keepρ, pos, hget, renR_txt, renR_app4] using hst.down⟩
    · obtain ⟨b, g⟩ : ∃ b, s[i]? = some b := ⟨s[i], getElem?_pos s i (by omega)⟩
      have d1 : ((i : Int) == (s.size : Int)) = false := by simp only [beq_eq_false_iff_ne]; omega
      by_cases hbc : b = c
      · subst hbc
        have hst := I36.mk' (s := s) (c := b) (P := P ++ [s.extract f i]) (f := i + 1) (i := i + 1) (Nat.le_refl _) (by simp; omega) (.inl ⟨by omega, hC.hit g⟩)
        rw [txV_app, txB_app] at hst
        have d3 : (((b.toNat : Nat) : Int) == ((b.toNat : Nat) : Int)) = true := by simp
        replace hst := PLift.up hst
        clear hC hie
        by_cases hP : P = []
        · subst hP
          simp only [txV, txB, if_true]
          clear hlP hPi
          unfold c50l0
          repeat' (first | (with_reducible first | refine T_seq ?_ | refine T_reg ?_ | refine T_skip ?_ | refine T_exit ?_ | refine T_block ?_ | refine T_cond_t rfl ?_ | refine T_cond_f rfl ?_ | refine T_ret ?_ | refine leave_of (.inr rfl) _ rfl ?_ | refine leave_of (.inl rfl) _ rfl ?_ | refine wif_intro ?_ (fun hc => ?_) | refine And.intro ?_ ?_ | intro hc) | simp (maxSteps := 4000000) only [wops_nil, wops_cons, wstep_none, wstep_some, wguard_ff, wrun_mv, wrun_pick, wrun_bin, wrun_idxS, wrun_slcS, wrun_lenS, wrun_bslice, wrun_app, wop, aop, ev, look, put_some, writes, ores_some, ores_ite_none, ores_map, ores_bind, binV, thenK, blockK, intV, elsOf, szOk, hget, fillA, putCells, AV.parts, isOne, boundOf, List.flatten_cons, List.flatten_nil, rowsOf, List.map_cons, List.map_nil, List.length_cons, List.length_nil, List.getElem?_cons_zero, List.getElem?_cons_succ, List.set_cons_zero, List.set_cons_succ, List.take_succ_cons, List.take_zero, List.take_nil, List.drop_succ_cons, List.drop_zero, List.drop_nil, List.nil_append, List.append_nil, List.replicate_zero, List.replicate_succ, List.all_cons, List.all_nil, List.isEmpty_cons, Option.getD_some, Option.map_some, if_true, if_false, Nat.reduceEqDiff, Nat.reduceAdd, Nat.reduceMul, Nat.reduceLeDiff, Nat.add_zero, Nat.zero_add, Nat.sub_zero, Nat.mul_one, Nat.le_refl, Nat.zero_ne_one, reduceCtorEq, Bool.and_true, Bool.or_true, Bool.false_eq_true, eq_self, true_and, and_self, beq_self_eq_true, List.all_cons, Int.toNat_natCast, *] | simp (disch := omega) only [wrapI] | omega)
          all_goals first | omega | exact ⟨_, hlt, [1], by simp, by simp, by simpa [St.keep, get_mk, look, ren, renL, renR, renB, renO, keepρ, pos, hget, renR_txt, renR_app4] using hst.down⟩
        · simp only [txV, txB, hP, if_false]
          unfold c50l0
          repeat' (first | (with_reducible first | refine T_seq ?_ | refine T_reg ?_ | refine T_skip ?_ | refine T_exit ?_ | refine T_block ?_ | refine T_cond_t rfl ?_ | refine T_cond_f rfl ?_ | refine T_ret ?_ | refine leave_of (.inr rfl) _ rfl ?_ | refine leave_of (.inl rfl) _ rfl ?_ | refine wif_intro ?_ (fun hc => ?_) | refine And.intro ?_ ?_ | intro hc) | simp (maxSteps := 4000000) only [wops_nil, wops_cons, wstep_none, wstep_some, wguard_ff, wrun_mv, wrun_pick, wrun_bin, wrun_idxS, wrun_slcS, wrun_lenS, wrun_bslice, wrun_app, wop, aop, ev, look, put_some, writes, ores_some, ores_ite_none, ores_map, ores_bind, binV, thenK, blockK, intV, elsOf, szOk, hget, fillA, putCells, AV.parts, isOne, boundOf, List.flatten_cons, List.flatten_nil, rowsOf, List.map_cons, List.map_nil, List.length_cons, List.length_nil, List.getElem?_cons_zero, List.getElem?_cons_succ, List.set_cons_zero, List.set_cons_succ, List.take_succ_cons, List.take_zero, List.take_nil, List.drop_succ_cons, List.drop_zero, List.drop_nil, List.cons_append, List.nil_append, List.append_nil, List.replicate_zero, List.replicate_succ, List.all_cons, List.all_nil, List.isEmpty_cons, Option.getD_some, Option.map_some, if_true, if_false, Nat.reduceEqDiff, Nat.reduceAdd, Nat.reduceLeDiff, Nat.add_zero, Nat.zero_add, Nat.sub_zero, Nat.mul_one, Nat.le_refl, Nat.zero_ne_one, reduceCtorEq, Bool.and_true, Bool.and_false, Bool.or_true, Bool.false_eq_true, eq_self, true_and, and_self, beq_self_eq_true, List.all_cons, Int.toNat_natCast, take_txt, *] | simp (disch := omega) only [wrapI] | omega)
          all_goals first | omega | exact ⟨_, hlt, [2], by simp, by simp, by simpa [St.keep, get_mk, look, ren, renL, renR, renB, renO, keepρ, pos, hget, renR_txt, renR_app4] using hst.down⟩
      · have hst := I36.mk' (s := s) (c := c) (P := P) (f := f) (i := i + 1) (by omega) (by omega) (.inl ⟨by omega, hC.miss hfi g hbc⟩)
        have hbn : b.toNat ≠ c.toNat := fun h => hbc (UInt8.toNat_inj.1 h)
        have d3 : (((b.toNat : Nat) : Int) == ((c.toNat : Nat) : Int)) = false := by simp only [beq_eq_false_iff_ne]; omega
        replace hst := PLift.up hst
        clear hC hie
        by_cases hP : P = []
        · subst hP
          simp only [txV, txB, if_true] at hst ⊢
          clear hlP hPi
          unfold c50l0
          repeat' (first | (with_reducible first | refine T_seq ?_ | refine T_reg ?_ | refine T_skip ?_ | refine T_exit ?_ | refine T_block ?_ | refine T_cond_t rfl ?_ | refine T_cond_f rfl ?_ | refine T_ret ?_ | refine leave_of (.inr rfl) _ rfl ?_ | refine leave_of (.inl rfl) _ rfl ?_ | refine wif_intro ?_ (fun hc => ?_) | refine And.intro ?_ ?_ | intro hc) | simp (maxSteps := 4000000) only [wops_nil, wops_cons, wstep_none, wstep_some, wguard_ff, wrun_mv, wrun_pick, wrun_bin, wrun_idxS, wrun_lenS, wop, aop, ev, look, put_some, writes, ores_some, ores_ite_none, binV, thenK, blockK, intV, List.length_nil, List.append_nil, List.replicate_zero, Option.map_some, if_true, if_false, Nat.reduceEqDiff, Nat.le_refl, Nat.zero_ne_one, reduceCtorEq, Bool.false_eq_true, eq_self, true_and, and_false, Nat.not_lt_zero, Int.toNat_natCast, *] | simp (disch := omega) only [wrapI] | omega)
          all_goals first | omega | exact ⟨_, hlt, [], by simp, by simp, by simpa [St.keep, get_mk, look, ren, renL, renR, renB, renO, keepρ, pos, hget, txV, txB] using hst.down⟩
        · simp only [txV, txB, hP, if_false]
          unfold c50l0
          repeat' (first | (with_reducible first | refine T_seq ?_ | refine T_reg ?_ | refine T_skip ?_ | refine T_exit ?_ | refine T_block ?_ | refine T_cond_t rfl ?_ | refine T_cond_f rfl ?_ | refine T_ret ?_ | refine leave_of (.inr rfl) _ rfl ?_ | refine leave_of (.inl rfl) _ rfl ?_ | refine wif_intro ?_ (fun hc => ?_) | refine And.intro ?_ ?_ | intro hc) | simp (maxSteps := 4000000) only [wops_nil, wops_cons, wstep_none, wstep_some, wguard_ff, wrun_mv, wrun_pick, wrun_bin, wrun_idxS, wrun_lenS, wop, aop, ev, look, put_some, writes, ores_some, ores_ite_none, binV, thenK, blockK, intV, List.length_cons, List.length_nil, List.append_nil, List.replicate_zero, Option.map_some, if_true, if_false, Nat.reduceEqDiff, Nat.reduceLeDiff, Nat.zero_add, Nat.zero_ne_one, reduceCtorEq, Bool.false_eq_true, eq_self, true_and, Int.toNat_natCast, *] | simp (disch := omega) only [wrapI] | omega)
          all_goals first | omega | exact ⟨_, hlt, [0], by simp, by simp, by simpa [St.keep, get_mk, look, ren, renL, renR, renB, renO, keepρ, pos, hget, renR_txt, txV, txB, hP] using hst.down⟩
  · have hP : P ≠ [] := hPe ▸ pieces_ne s c
    have d2 : decide ((i : Int) ≤ (s.size : Int)) = false := decide_eq_false (by omega)
    rw [← hPe]
    clear hPe hPi hie hfi
    simp only [txV, txB, hP, if_false]
    unfold c50l0
    repeat' (first | (with_reducible first | refine T_seq ?_ | refine T_reg ?_ | refine T_skip ?_ | refine T_exit ?_ | refine T_block ?_ | refine T_cond_t rfl ?_ | refine T_cond_f rfl ?_ | refine T_ret ?_ | refine leave_ids (.inr rfl) _ [0] rfl (by simp) (by simp) ?_ | refine leave_ids (.inl rfl) _ [0] rfl (by simp) (by simp) ?_ | refine wif_intro ?_ (fun hc => ?_) | refine And.intro ?_ ?_ | intro hc) | simp (maxSteps := 4000000) only [wops_nil, wops_cons, wstep_none, wrun_mv, wrun_bin, wrun_lenS, get_mk, wop, aop, ev, look, put_some, writes, ores_some, binV, thenK, blockK, intV, hget, tupOf, List.map_cons, List.map_nil, List.length_cons, List.length_nil, List.getElem?_cons_zero, List.append_nil, List.replicate_zero, Option.getD_some, Option.map_some, Option.map_none, if_true, if_false, Nat.reduceEqDiff, Nat.zero_add, reduceCtorEq, eq_self, ren, renB, renO, keepρ, pos, Nat.not_lt_zero, renR_txt, *] | simp (disch := omega) only [getD_ints, wrapI] | omega)
end Go.Abs
