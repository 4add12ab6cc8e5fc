import Derived.Test.YtodheeifecoebaaGreatDoorPCmin
import Derived.Test.YtodheeifecoebaaGreatDoorK45x
set_option linter.all false
set_option linter.unusedVariables false
set_option linter.unusedSimpArgs false
set_option linter.unusedSectionVars false
namespace Go.Abs
open Go.Proofs
/-- back along the arcs -/
def bk (by_ : List Ar) (u : Int) : Nat → Int
  | 0 => u
  | k + 1 => (by_.getD (bk by_ u k).toNat ar0).f
def sgs (by_ : List Ar) (u : Int) : Nat → List Int
  | 0 => []
  | k + 1 => sgs by_ u k ++ [(by_.getD (bk by_ u k).toNat ar0).sg]
theorem sgs_len (by_ : List Ar) (u : Int) : ∀ k, (sgs by_ u k).length = k
  | 0 => rfl
  | k + 1 => by unfold sgs; simp [sgs_len by_ u k]
def okBy (by_ : List Ar) (z : Nat) : Prop := ∀ k, 0 ≤ (by_.getD k ar0).f ∧ (by_.getD k ar0).f < z
theorem bk_r {by_ : List Ar} {z : Nat} (h : okBy by_ z) {u : Int} (hu : 0 ≤ u ∧ u < z) : ∀ k, 0 ≤ bk by_ u k ∧ bk by_ u k < z
  | 0 => hu
  | k + 1 => h _
theorem okBy_relax {s : CS} {a : Ar} {z : Nat} (h : okBy s.by_ z) (ha : 0 ≤ a.f ∧ a.f < z) : okBy (relaxS s a).by_ z := by
  unfold relaxS
  split
  · intro k
    dsimp only
    rw [getD_set_ar]
    split
    · exact ha
    · exact h k
  · exact h
theorem okBy_rlx {A : List Ar} {s : CS} {z : Nat} (h : okBy s.by_ z) (hA : okAr A z) : ∀ k, k ≤ A.length → okBy (rlx A s k).by_ z
  | 0, _ => h
  | k + 1, hk => okBy_relax (okBy_rlx h hA k (by omega)) (hA k (by omega)).1
theorem okBy_rnds {A : List Ar} {z : Nat} (hz : 1 ≤ z) (hA : okAr A z) : ∀ r, okBy (rnds A z r).by_ z
  | 0 => fun k => by
      have : (rnds A z 0).by_.getD k ar0 = ar0 := by
        show (List.replicate z ar0).getD k ar0 = ar0
        rw [List.getD_eq_getElem?_getD, List.getElem?_replicate]; split <;> rfl
      rw [this]; show (0 : Int) ≤ 0 ∧ (0 : Int) < z; omega
  | r + 1 => okBy_rlx (s := ⟨(rnds A z r).h, (rnds A z r).by_, -1⟩) (okBy_rnds hz hA r) hA A.length (Nat.le_refl _)
theorem at_relax {s : CS} {a : Ar} {z : Nat} (h : s.at_ < z) (ha : a.t < z) : (relaxS s a).at_ < z := by
  unfold relaxS; split
  · exact ha
  · exact h
theorem at_rlx {A : List Ar} {s : CS} {z : Nat} (h : s.at_ < z) (hA : okAr A z) : ∀ k, k ≤ A.length → (rlx A s k).at_ < z
  | 0, _ => h
  | k + 1, hk => at_relax (at_rlx h hA k (by omega)) (hA k (by omega)).2.1.2
theorem at_rnds {A : List Ar} {z : Nat} (hA : okAr A z) : ∀ r, (rnds A z r).at_ < z
  | 0 => by show (-1 : Int) < z; omega
  | r + 1 => at_rlx (s := ⟨(rnds A z r).h, (rnds A z r).by_, -1⟩) (by show (-1 : Int) < z; omega) hA A.length (Nat.le_refl _)
def heap95 (A : List Ar) (h : List Int) (by_ : List Ar) : List Blk := [.cells true false 4 (arows A), .cells true false 1 (h.map fun x => [i64 x]), .cells true false 4 (arows by_)]
def S95o (A : List Ar) (z : Nat) (r : Nat) : St := ⟨[(0, i64 z), (5, .lsl 0 0 A.length), (6, .lsl 1 0 z), (7, .lsl 2 0 z), (8, i64 (rnds A z r).at_), (21, i64 ((z : Int) + 1)), (22, i64 r)], heap95 A (rnds A z r).h (rnds A z r).by_⟩
def S95b (z : Nat) (by_ : List Ar) (u : Int) (H : List Blk) (k : Nat) : St := ⟨[(7, .lsl 2 0 z), (8, i64 (bk by_ u k)), (61, i64 z), (62, i64 k)], H⟩
def sV (id : Nat) (xs : List Int) : AV := if xs = [] then .sl true 0 [] else .lsl id 0 xs.length
def sB (xs : List Int) : List Blk := if xs = [] then [] else [.cells true false 1 (xs.map fun x => [i64 x])]
def S95c (z : Nat) (by_ : List Ar) (u : Int) (H : List Blk) (k : Nat) : St := ⟨[(7, .lsl 2 0 z), (8, i64 u), (12, sV 3 (sgs by_ u k)), (13, i64 (bk by_ u k))], H ++ sB (sgs by_ u k)⟩
theorem zeros_arows (n : Nat) : List.replicate n [AV.lit (Value.int IntKind.i64 0), AV.lit (Value.int IntKind.i64 0), AV.lit (Value.int IntKind.i64 0), AV.lit (Value.int IntKind.i64 0)] = arows (List.replicate n ar0) := by
  unfold arows; rw [List.map_replicate]
theorem zeros_ints (n : Nat) : List.replicate n [AV.lit (Value.int IntKind.i64 0)] = (List.replicate n (0 : Int)).map fun x => [i64 x] := by rw [List.map_replicate]
theorem renR_zeros (ρ : Nat → Option Nat) (n : Nat) : renR ρ (List.replicate n [i64 0]) = List.replicate n [i64 0] := renR_plain ρ _ (by rw [show List.replicate n [i64 0] = (List.replicate n (0 : Int)).map fun x => [i64 x] from zeros_ints n]; exact plainR_ints _)
set_option maxHeartbeats 8000000 in
theorem k41 {nil : Bool} {l : List Rd} {A : List Ar} {z : Nat} {R : AV} {new : List Blk} (hl : l.length ≤ 100) (hrd : okRd l) (hz : 1 ≤ z ∧ z ≤ 40) (he : A = arcsL l l.length) (hA : okAr A z) (hne : A ≠ [])
    (hnil : ∀ r, r ≤ z → (rnds A z (r + 1)).at_ < 0 → R = .sl true 0 [] ∧ new = [])
    (hcyc : (∀ r, r ≤ z → 0 ≤ (rnds A z (r + 1)).at_) → ∃ p, 1 ≤ p ∧ p ≤ z ∧ (∀ k, 0 < k → k < p → bk (rnds A z (z + 1)).by_ (bk (rnds A z (z + 1)).by_ (rnds A z (z + 1)).at_ z) k ≠ bk (rnds A z (z + 1)).by_ (rnds A z (z + 1)).at_ z) ∧
      bk (rnds A z (z + 1)).by_ (bk (rnds A z (z + 1)).by_ (rnds A z (z + 1)).at_ z) p = bk (rnds A z (z + 1)).by_ (rnds A z (z + 1)).at_ z ∧
      R = .lsl 0 0 p ∧ new = [.cells true false 1 ((sgs (rnds A z (z + 1)).by_ (bk (rnds A z (z + 1)).by_ (rnds A z (z + 1)).at_ z) p).reverse.map fun x => [i64 x])]) :
    Fn Tryz.prog 41 [i64 z, rdgs nil l] R new := by
  refine fn_of e41 ?_
  have h64 := k64 nil l (by omega) hrd
  rw [← he] at h64
  have hn : A.length ≤ 200 := by have := arcsL_len l l.length; rw [← he] at this; omega
  simp only [arV, arB, hne, if_false] at h64
  have hal := arows_len A
  replace hnil : id (∀ r, r ≤ z → (rnds A z (r + 1)).at_ < 0 → R = .sl true 0 [] ∧ new = []) := hnil
  replace hcyc := id hcyc
  unfold c41
  have hcyc2 := hcyc
  clear hcyc hne he
  generalize hq : (∃ p, 1 ≤ p ∧ p ≤ z ∧ (∀ k, 0 < k → k < p → bk (rnds A z (z + 1)).by_ (bk (rnds A z (z + 1)).by_ (rnds A z (z + 1)).at_ z) k ≠ bk (rnds A z (z + 1)).by_ (rnds A z (z + 1)).at_ z) ∧ _) = Q at hcyc2
  replace hq : id (_ = Q) := hq
  replace hcyc2 : id ((∀ r, r ≤ z → 0 ≤ (rnds A z (r + 1)).at_) → Q) := hcyc2
  repeat' (first | ((with_reducible refine T_calm ?_ ?_); rfl) | (with_reducible first | refine T_seq ?_ | refine T_reg ?_ | refine T_draw ?_ | refine T_skip ?_ | refine T_exit ?_ | refine T_block ?_ | refine T_cond_t rfl ?_ | refine T_cond_f rfl ?_ | refine wdW_cons rfl ?_ | (show wcall _ false (.lit (.func (.func 64) _ _)) _ _ _ _; refine wcall_fn (h64) rfl (by simp [plainL, plain]) ?_) | (show wcallX _ false (.lit (.func (.func 64) _ _)) _ _ _ _; refine wcallX_fn (h64) rfl (by simp [plainL, plain, plainR, renR_arows, zeros_arows, zeros_ints]) ?_) | refine T_ret ?_ | refine leave_of (.inr rfl) _ rfl ?_ | refine leave_of (.inl rfl) _ rfl ?_ | refine wif_intro ?_ (fun hc => ?_) | refine And.intro ?_ ?_ | intro hc) | simp (maxSteps := 4000000) only [wops_nil, wops_cons, wstep_none, wrun_call, wrun_mv, wrun_bin, wrun_mks, wrunX_mv, wrunX_mks, wdW_nil, wstepX_none, wop, aop, ev, look, put_some, writes, ores_some, ores_ite_none, binV, thenK, List.map_cons, List.map_nil, List.length_cons, List.length_nil, List.getElem?_cons_zero, List.getElem?_cons_succ, List.set_cons_zero, List.set_cons_succ, List.cons_append, List.nil_append, List.append_nil, List.replicate_zero, List.replicate_succ, List.zipIdx_cons, List.zipIdx_nil, Option.map_some, if_true, if_false, Nat.reduceEqDiff, Nat.reduceAdd, Nat.add_zero, Nat.zero_add, Nat.zero_ne_one, reduceCtorEq, eq_self, true_and, and_true, Int.reduceNeg, freeze, lidsL, lids, List.flatMap_cons, List.flatMap_nil, ren, renB, shiftρ, renR_arows, zeros_arows, zeros_ints, *] | simp (disch := omega) only [wrapI] | (with_reducible show wcall _ false (.lit (.func (.func 64) _ _)) _ _ _ _; refine wcall_fn (h64) ?_ ?_ ?_; (next => simp [rfyL, rfy, hget, ints, take_rfy, renR_arows, zeros_arows, zeros_ints]); (next => simp [plainL, plain, plainR, renR_arows, zeros_arows, zeros_ints])) | (with_reducible show wcallX _ false (.lit (.func (.func 64) _ _)) _ _ _ _; refine wcallX_fn (h64) ?_ ?_ ?_; (next => simp [rfyL, rfy, hget, ints, take_rfy, renR_arows, zeros_arows, zeros_ints]); (next => simp [plainL, plain, plainR, renR_arows, zeros_arows, zeros_ints])) | omega)
  refine T_for_keep [0, 5, 6, 7, 8, 21, 22] (S95o A z) (z + 1) (fun r => ∀ r', r' < r → 0 ≤ (rnds A z (r' + 1)).at_) 0 ⟨[0, 1, 2], by simp, by simp, by simp, ?_⟩ (fun r' hr' => by omega) (Nat.zero_le _) ?_
  · simp [St.keep, get_mk, look, ren, renB, renO, keepρ, pos, hget, renR_arows, S95o, heap95, rnds, renR_zeros]
  intro r hr hI
  replace hI : id (∀ r', r' < r → 0 ≤ (rnds A z (r' + 1)).at_) := hI
  unfold c41l1
  by_cases hrz : r < z + 1
  · have hok := rnds_ok hA hn r
    have hat := at_rnds hA (r + 1)
    unfold S95o heap95
    repeat' (first | ((with_reducible refine T_calm ?_ ?_); rfl) | (with_reducible first | refine T_seq ?_ | refine T_reg ?_ | refine T_draw ?_ | refine T_skip ?_ | refine T_exit ?_ | refine T_block ?_ | refine T_cond_t rfl ?_ | refine T_cond_f rfl ?_ | refine wdW_cons rfl ?_ | ((first | refine T_cond rfl (fun hc => ?_) (fun hc => ?_) | refine wguard_split (fun hc => ?_) (fun hc => ?_) | refine wguardX_split (fun hc => ?_) (fun hc => ?_)) <;> have hd := hc <;> (try simp (disch := omega) only [wrapI] at hd) <;> have hs := hd <;> (try simp only [decide_eq_true_eq, decide_eq_false_iff_not, Int.not_lt] at hd) <;> (try simp at hs)) | refine T_ret ?_ | refine leave_of (.inr rfl) _ rfl ?_ | refine leave_of (.inl rfl) _ rfl ?_ | refine wif_intro ?_ (fun hc => ?_) | refine And.intro ?_ ?_ | intro hc) | simp (maxSteps := 4000000) only [wops_nil, wops_cons, wstep_none, wrun_mv, wrun_bin, wrun_len, wop, aop, ev, look, put_some, writes, ores_some, ores_map, ores_bind, binV, thenK, blockK, intV, lenOf, hget, List.length_cons, List.length_nil, List.getElem?_cons_zero, List.append_nil, List.replicate_zero, Option.pure_def, Option.bind_eq_bind, Option.getD_some, Option.map_some, if_true, if_false, Nat.reduceEqDiff, Nat.reduceAdd, Nat.zero_add, reduceCtorEq, eq_self, true_and, decide_true, Int.reduceNeg, *] | simp (disch := omega) only [getD_ints, wrapI] | omega)
    refine T_for_keep [0, 5, 6, 7, 8, 21, 22, 24, 25, 26] (fun k => S95i A z r (rlx A ⟨(rnds A z r).h, (rnds A z r).by_, -1⟩ k) k) A.length (fun _ => True) 0 ⟨[0, 1, 2], by simp, by simp, by simp, ?_⟩ trivial (Nat.zero_le _) ?_
    · simp [St.keep, get_mk, look, ren, renB, renO, keepρ, pos, hget, renR_arows, renR_ints, S95i, rlx]
    intro k hk _
    by_cases hkn : k < A.length
    · exact k41i (z := z) (r := r) (s0 := ⟨(rnds A z r).h, (rnds A z r).by_, -1⟩) (B := 200000000 * (r : Int)) (by omega) (by omega) hn hA ⟨hok.hl, hok.bl, hok.hr⟩ (by omega) _ k hkn
    · have hke : k = A.length := by omega
      subst hke
      have e : rlx A ⟨(rnds A z r).h, (rnds A z r).by_, -1⟩ A.length = rnds A z (r + 1) := rfl
      rw [e]
      unfold c41l0 S95i
      by_cases hneg : (rnds A z (r + 1)).at_ < 0
      · obtain ⟨rfl, rfl⟩ := hnil r (by omega) hneg
        have hb : decide ((rnds A z (r + 1)).at_ < 0) = true := by simp [hneg]
        repeat' (first | ((with_reducible refine T_calm ?_ ?_); rfl) | (with_reducible first | refine T_seq ?_ | refine T_reg ?_ | refine T_draw ?_ | refine T_skip ?_ | refine T_exit ?_ | refine T_block ?_ | refine T_cond_t rfl ?_ | refine T_cond_f rfl ?_ | refine wdW_cons rfl ?_ | ((first | refine T_cond rfl (fun hc => ?_) (fun hc => ?_) | refine wguard_split (fun hc => ?_) (fun hc => ?_) | refine wguardX_split (fun hc => ?_) (fun hc => ?_)) <;> have hd := hc <;> (try simp (disch := omega) only [wrapI] at hd) <;> have hs := hd <;> (try simp only [decide_eq_true_eq, decide_eq_false_iff_not, Int.not_lt] at hd) <;> (try simp at hs)) | refine T_ret ?_ | refine leave_of (.inr rfl) _ rfl ?_ | refine leave_of (.inl rfl) _ rfl ?_ | refine wif_intro ?_ (fun hc => ?_) | refine And.intro ?_ ?_ | intro hc) | simp (maxSteps := 4000000) only [wops_nil, wops_cons, wstep_none, wrun_mv, wrun_bin, get_mk, wop, aop, ev, look, put_some, writes, ores_some, binV, thenK, blockK, tupOf, List.length_cons, List.length_nil, List.append_nil, List.replicate_zero, Option.map_some, if_true, if_false, Nat.reduceEqDiff, Nat.reduceAdd, Nat.zero_add, reduceCtorEq, eq_self, and_true, false_and, decide_true, Int.reduceNeg, ren, renR, *] | simp (disch := omega) only [getD_ints, wrapI] | omega)
      · have hb : decide ((rnds A z (r + 1)).at_ < 0) = false := by simp [hneg]
        repeat' (first | ((with_reducible refine T_calm ?_ ?_); rfl) | (with_reducible first | refine T_seq ?_ | refine T_reg ?_ | refine T_draw ?_ | refine T_skip ?_ | refine T_exit ?_ | refine T_block ?_ | refine T_cond_t rfl ?_ | refine T_cond_f rfl ?_ | refine wdW_cons rfl ?_ | ((first | refine T_cond rfl (fun hc => ?_) (fun hc => ?_) | refine wguard_split (fun hc => ?_) (fun hc => ?_) | refine wguardX_split (fun hc => ?_) (fun hc => ?_)) <;> have hd := hc <;> (try simp (disch := omega) only [wrapI] at hd) <;> have hs := hd <;> (try simp only [decide_eq_true_eq, decide_eq_false_iff_not, Int.not_lt] at hd) <;> (try simp at hs)) | refine T_ret ?_ | refine leave_of (.inr rfl) _ rfl ?_ | refine leave_of (.inl rfl) _ rfl ?_ | refine wif_intro ?_ (fun hc => ?_) | refine And.intro ?_ ?_ | intro hc) | simp (maxSteps := 4000000) only [wops_nil, wops_cons, wstep_none, wrun_mv, wrun_bin, wop, aop, ev, look, put_some, writes, ores_some, binV, thenK, blockK, List.length_cons, List.length_nil, List.append_nil, List.replicate_zero, Option.map_some, if_true, if_false, Nat.reduceEqDiff, Nat.reduceAdd, Nat.reduceLeDiff, Nat.zero_add, reduceCtorEq, eq_self, true_and, and_true, false_and, decide_false, Int.reduceNeg, *] | simp (disch := omega) only [wrapI] | omega)
        · rename_i r'
          have hr' : r' < r + 1 := hc
          by_cases hrr : r' = r
          · subst hrr; omega
          · exact hI r' (by omega)
        · skip
          refine ⟨[0, 1, 2], by simp, by simp, ?_⟩
          simp [St.keep, get_mk, look, ren, renB, renO, keepρ, pos, hget, renR_ints, renR_arows]
  · have hrz2 : r = z + 1 := by omega
    subst hrz2
    have hqq : Q := hcyc2 fun r hr => hI r (by omega)
    rw [← show _ = Q from hq] at hqq
    obtain ⟨p, hp1, hpz, hp2, hp3, hR, hnew⟩ := hqq
    subst hR hnew
    have hI0 : id (0 ≤ (rnds A z (z + 1)).at_) := hI z (by omega)
    clear hq hcyc2 hnil hI
    have hby := okBy_rnds hz.1 hA (z + 1)
    have hok := rnds_ok hA hn (z + 1)
    have hat := at_rnds hA (z + 1)
    unfold S95o heap95
    repeat' (first | ((with_reducible refine T_calm ?_ ?_); rfl) | (with_reducible first | refine T_seq ?_ | refine T_reg ?_ | refine T_draw ?_ | refine T_skip ?_ | refine T_exit ?_ | refine T_block ?_ | refine T_cond_t rfl ?_ | refine T_cond_f rfl ?_ | refine wdW_cons rfl ?_ | ((first | refine T_cond rfl (fun hc => ?_) (fun hc => ?_) | refine wguard_split (fun hc => ?_) (fun hc => ?_) | refine wguardX_split (fun hc => ?_) (fun hc => ?_)) <;> have hd := hc <;> (try simp (disch := omega) only [wrapI] at hd) <;> have hs := hd <;> (try simp only [decide_eq_true_eq, decide_eq_false_iff_not, Int.not_lt] at hd) <;> (try simp at hs)) | refine T_ret ?_ | refine leave_of (.inr rfl) _ rfl ?_ | refine leave_of (.inl rfl) _ rfl ?_ | refine wif_intro ?_ (fun hc => ?_) | refine And.intro ?_ ?_ | intro hc) | simp (maxSteps := 4000000) only [wops_nil, wops_cons, wstep_none, wrun_mv, wrun_bin, wop, aop, ev, look, put_some, writes, ores_some, binV, thenK, blockK, List.length_cons, List.length_nil, List.append_nil, List.replicate_zero, Option.map_some, if_true, if_false, Nat.reduceEqDiff, Nat.reduceAdd, Nat.zero_add, reduceCtorEq, eq_self, false_and, Int.reduceNeg, *] | simp (disch := omega) only [getD_ints, wrapI] | omega)
    refine T_for [7, 8, 61, 62] (fun k => S95b z (rnds A z (z + 1)).by_ (rnds A z (z + 1)).at_ (heap95 A (rnds A z (z + 1)).h (rnds A z (z + 1)).by_) k) z (fun _ => True) 0 rfl trivial (Nat.zero_le _) ?_
    have hat0 : 0 ≤ (rnds A z (z + 1)).at_ := hI0
    generalize rnds A z (z + 1) = s at *
    obtain ⟨hh, by_, at_⟩ := s
    obtain ⟨hl1, hl2, hl3⟩ := hok
    dsimp only at hby hl1 hl2 hl3 hat hat0 hp2 hp3
    have hbl := arows_len by_
    have hbk := bk_r hby ⟨hat0, hat⟩
    intro k hk _
    have hbkk := hbk k
    unfold c41l2 S95b heap95
    by_cases hkz : k < z
    · have hgb := arows_get (l := by_) (k := (bk by_ at_ k).toNat) (by omega)
      repeat' (first | ((with_reducible refine T_calm ?_ ?_); rfl) | (with_reducible first | refine T_seq ?_ | refine T_reg ?_ | refine T_draw ?_ | refine T_skip ?_ | refine T_exit ?_ | refine T_block ?_ | refine T_cond_t rfl ?_ | refine T_cond_f rfl ?_ | refine wdW_cons rfl ?_ | ((first | refine T_cond rfl (fun hc => ?_) (fun hc => ?_) | refine wguard_split (fun hc => ?_) (fun hc => ?_) | refine wguardX_split (fun hc => ?_) (fun hc => ?_)) <;> have hd := hc <;> (try simp (disch := omega) only [wrapI] at hd) <;> have hs := hd <;> (try simp only [decide_eq_true_eq, decide_eq_false_iff_not, Int.not_lt] at hd) <;> (try simp at hs)) | refine T_ret ?_ | refine leave_of (.inr rfl) _ rfl ?_ | refine leave_of (.inl rfl) _ rfl ?_ | refine wif_intro ?_ (fun hc => ?_) | refine And.intro ?_ ?_ | intro hc) | simp (maxSteps := 4000000) only [wops_nil, wops_cons, wstep_none, wrun_mv, wrun_bin, wrun_load, wrun_faddr, wrun_iaddrS, wop, aop, ev, look, put_some, writes, ores_some, binV, thenK, blockK, value, cut, hget, mkAgg, List.length_cons, List.length_nil, List.getElem?_cons_zero, List.getElem?_cons_succ, List.take_succ_cons, List.take_zero, List.drop_zero, List.append_nil, List.replicate_zero, Option.getD_some, Option.map_some, if_true, if_false, Nat.reduceEqDiff, Nat.reduceAdd, Nat.add_zero, Nat.zero_add, reduceCtorEq, Bool.false_eq_true, eq_self, true_and, and_self, decide_true, *] | simp (disch := omega) only [wrapI] | omega)
      exact rfl
    · have hkz2 : k = z := by omega
      subst hkz2
      have hu := hbk k
      generalize bk by_ at_ k = u at *
      repeat' (first | ((with_reducible refine T_calm ?_ ?_); rfl) | (with_reducible first | refine T_seq ?_ | refine T_reg ?_ | refine T_draw ?_ | refine T_skip ?_ | refine T_exit ?_ | refine T_block ?_ | refine T_cond_t rfl ?_ | refine T_cond_f rfl ?_ | refine wdW_cons rfl ?_ | ((first | refine T_cond rfl (fun hc => ?_) (fun hc => ?_) | refine wguard_split (fun hc => ?_) (fun hc => ?_) | refine wguardX_split (fun hc => ?_) (fun hc => ?_)) <;> have hd := hc <;> (try simp (disch := omega) only [wrapI] at hd) <;> have hs := hd <;> (try simp only [decide_eq_true_eq, decide_eq_false_iff_not, Int.not_lt] at hd) <;> (try simp at hs)) | refine T_ret ?_ | refine leave_of (.inr rfl) _ rfl ?_ | refine leave_of (.inl rfl) _ rfl ?_ | refine wif_intro ?_ (fun hc => ?_) | refine And.intro ?_ ?_ | intro hc) | simp (maxSteps := 4000000) only [wops_nil, wops_cons, wstep_none, wrun_mv, wrun_bin, wop, aop, ev, look, put_some, writes, ores_some, binV, thenK, blockK, List.length_cons, List.length_nil, List.append_nil, List.replicate_zero, Option.map_some, if_true, if_false, Nat.reduceEqDiff, Nat.reduceAdd, Nat.zero_add, reduceCtorEq, eq_self, and_true, false_and, *] | simp (disch := omega) only [getD_ints, wrapI] | omega)
      refine T_for_keep [7, 8, 12, 13] (fun j => S95c k by_ u [.cells true false 4 (arows A), .cells true false 1 (hh.map fun x => [i64 x]), .cells true false 4 (arows by_)] j) p (fun _ => True) 0 ⟨[0, 1, 2], by simp, by simp, by simp, ?_⟩ trivial (Nat.zero_le _) ?_
      · simp [St.keep, get_mk, look, ren, renR, renB, renO, keepρ, pos, hget, renR_arows, renR_ints, S95c, sgs, sV, sB, bk]
      intro j hj _
      have hbj := bk_r hby hu j
      have hsl := sgs_len by_ u j
      by_cases hjp : j < p
      · have hgb := arows_get (l := by_) (k := (bk by_ u j).toNat) (by omega)
        have esg : sgs by_ u (j + 1) = sgs by_ u j ++ [(by_.getD (bk by_ u j).toNat ar0).sg] := rfl
        have ebk : bk by_ u (j + 1) = (by_.getD (bk by_ u j).toNat ar0).f := rfl
        have esn : sgs by_ u (j + 1) ≠ [] := by rw [esg]; simp
        unfold c41l3 S95c
        rw [ebk]
        simp only [sV, sB, esn, if_false]
        rw [esg]
        have hp4 := hp2
        clear esg ebk esn hp2 hp3
        by_cases hj0 : j = 0
        · subst hj0
          have hs0 : sgs by_ u 0 = [] := rfl
          simp only [hs0, if_true]
          clear hp4
          repeat' (first | ((with_reducible refine T_calm ?_ ?_); rfl) | (with_reducible first | refine T_seq ?_ | refine T_reg ?_ | refine T_draw ?_ | refine T_skip ?_ | refine T_exit ?_ | refine T_block ?_ | refine T_cond_t rfl ?_ | refine T_cond_f rfl ?_ | refine wdW_cons rfl ?_ | ((first | refine T_cond rfl (fun hc => ?_) (fun hc => ?_) | refine wguard_split (fun hc => ?_) (fun hc => ?_) | refine wguardX_split (fun hc => ?_) (fun hc => ?_)) <;> have hd := hc <;> (try simp (disch := omega) only [wrapI] at hd) <;> have hs := hd <;> (try simp only [beq_iff_eq, beq_eq_false_iff_ne, Bool.not_false, ne_eq] at hd) <;> (try simp at hs)) | refine T_ret ?_ | refine leave_of (.inr rfl) _ rfl ?_ | refine leave_of (.inl rfl) _ rfl ?_ | refine wif_intro ?_ (fun hc => ?_) | refine And.intro ?_ ?_ | intro hc) | simp (maxSteps := 4000000) only [wops_nil, wops_cons, wstep_none, wstep_some, wguard_tf, wrun_mv, wrun_pick, wrun_bin, wrun_load, wrun_faddr, wrun_iaddrS, wrun_len, wrun_bslice, wrun_app, wop, aop, ev, look, put_some, writes, ores_some, ores_map, ores_bind, binV, thenK, blockK, intV, lenOf, elsOf, szOk, value, cut, hget, fillA, putCells, AV.parts, isOne, mkAgg, List.flatten_cons, List.flatten_nil, rowsOf, List.map_cons, List.map_nil, List.length_cons, List.length_nil, List.getElem?_cons_zero, List.getElem?_cons_succ, List.set_cons_zero, List.set_cons_succ, List.take_succ_cons, List.take_zero, List.take_nil, List.drop_succ_cons, List.drop_zero, List.drop_nil, List.cons_append, List.nil_append, List.append_nil, List.replicate_zero, List.replicate_succ, List.all_cons, List.all_nil, List.isEmpty_cons, Option.pure_def, Option.bind_eq_bind, Option.getD_some, Option.map_some, if_true, if_false, Nat.reduceEqDiff, Nat.reduceAdd, Nat.reduceMul, Nat.reduceLeDiff, Nat.add_zero, Nat.zero_add, Nat.sub_zero, Nat.mul_one, Nat.le_refl, reduceCtorEq, Bool.and_true, Bool.or_true, Bool.false_eq_true, eq_self, true_and, and_self, beq_self_eq_true, List.all_cons, *] | simp (disch := omega) only [getD_ints, wrapI] | omega)
          refine ⟨[0, 1, 2, 4], by simp, by simp, ?_⟩
          simp [St.keep, get_mk, look, ren, renL, renR, renB, renO, keepρ, pos, hget, renR_ints, renR_arows]
        · have hne : ((bk by_ u j) != u) = true := by simp; exact hp4 j (by omega) hjp
          have hs0 : sgs by_ u j ≠ [] := fun h => by rw [h] at hsl; simp at hsl; omega
          have hj1 : ((j : Int) == 0) = false := by simp; omega
          simp only [hs0, if_false]
          clear hp4
          repeat' (first | ((with_reducible refine T_calm ?_ ?_); rfl) | (with_reducible first | refine T_seq ?_ | refine T_reg ?_ | refine T_draw ?_ | refine T_skip ?_ | refine T_exit ?_ | refine T_block ?_ | refine T_cond_t rfl ?_ | refine T_cond_f rfl ?_ | refine wdW_cons rfl ?_ | refine T_ret ?_ | refine leave_of (.inr rfl) _ rfl ?_ | refine leave_of (.inl rfl) _ rfl ?_ | refine wif_intro ?_ (fun hc => ?_) | refine And.intro ?_ ?_ | intro hc) | simp (maxSteps := 4000000) only [wops_nil, wops_cons, wstep_none, wstep_some, wguard_ff, wrun_mv, wrun_pick, wrun_bin, wrun_load, wrun_faddr, wrun_iaddrS, wrun_len, wrun_bslice, wrun_app, wop, aop, ev, look, put_some, writes, ores_some, ores_ite_none, ores_map, ores_bind, binV, thenK, blockK, intV, lenOf, elsOf, szOk, value, cut, hget, fillA, putCells, AV.parts, isOne, mkAgg, List.flatten_cons, List.flatten_nil, rowsOf, List.map_cons, List.map_nil, List.length_cons, List.length_nil, List.getElem?_cons_zero, List.getElem?_cons_succ, List.set_cons_zero, List.set_cons_succ, List.take_succ_cons, List.take_zero, List.take_nil, List.drop_succ_cons, List.drop_zero, List.drop_nil, List.cons_append, List.nil_append, List.append_nil, List.replicate_zero, List.replicate_succ, List.all_cons, List.all_nil, List.isEmpty_cons, List.length_append, List.length_map, Option.pure_def, Option.bind_eq_bind, Option.getD_some, Option.map_some, if_true, if_false, Nat.reduceEqDiff, Nat.reduceAdd, Nat.reduceLeDiff, Nat.add_zero, Nat.zero_add, Nat.sub_zero, Nat.mul_one, Nat.le_refl, reduceCtorEq, Bool.and_true, Bool.and_false, Bool.or_true, Bool.false_eq_true, eq_self, true_and, and_self, beq_self_eq_true, List.all_cons, *] | simp (disch := omega) only [getD_ints, wrapI] | omega)
          have hts : List.take j (List.map (fun x => [i64 x]) (sgs by_ u j)) = List.map (fun x => [i64 x]) (sgs by_ u j) := by rw [List.take_of_length_le (by simp [hsl])]
          refine ⟨[0, 1, 2, 5], by simp, by simp, ?_⟩
          simp [St.keep, get_mk, look, ren, renL, renR, renB, renO, keepρ, pos, hget, renR_ints, renR_arows, renR_app4, hts]
      · have hjp2 : j = p := by omega
        subst hjp2
        unfold c41l3 S95c
        have hne : ((bk by_ u j) != u) = false := by simp; exact hp3
        have hs0 : sgs by_ u j ≠ [] := fun h => by rw [h] at hsl; simp at hsl; omega
        have hj1 : ((j : Int) == 0) = false := by simp; omega
        simp only [sV, sB, hs0, if_false]
        clear hp2 hp3
        have h65 := k65 (H := [.cells true false 4 (arows A), .cells true false 1 (hh.map fun x => [i64 x]), .cells true false 4 (arows by_), .cells true false 1 ((sgs by_ u j).map fun x => [i64 x])]) (ib := 3) (sgs by_ u j) (by omega) (by omega) rfl
        rw [hsl] at h65
        repeat' (first | ((with_reducible refine T_calm ?_ ?_); rfl) | (with_reducible first | refine T_seq ?_ | refine T_reg ?_ | refine T_draw ?_ | refine T_skip ?_ | refine T_exit ?_ | refine T_block ?_ | refine T_cond_t rfl ?_ | refine T_cond_f rfl ?_ | refine wdW_cons rfl ?_ | refine T_ret ?_ | refine leave_of (.inr rfl) _ rfl ?_ | refine leave_of (.inl rfl) _ rfl ?_ | refine wif_intro ?_ (fun hc => ?_) | refine And.intro ?_ ?_ | intro hc) | simp (maxSteps := 4000000) only [wops_nil, wops_cons, wstep_none, wstep_some, wguard_ff, wrun_call, wrun_mv, wrun_pick, wrun_bin, wrun_len, wop, aop, ev, look, put_some, writes, ores_some, ores_map, ores_bind, binV, thenK, blockK, intV, lenOf, hget, List.map_cons, List.map_nil, List.length_cons, List.length_nil, List.getElem?_cons_zero, List.getElem?_cons_succ, List.cons_append, List.nil_append, List.append_nil, List.replicate_zero, Option.pure_def, Option.bind_eq_bind, Option.getD_some, Option.map_some, if_true, if_false, Nat.reduceEqDiff, Nat.reduceAdd, Nat.zero_add, reduceCtorEq, Bool.false_eq_true, eq_self, and_true, false_and, *] | simp (disch := omega) only [getD_ints, wrapI] | omega)
        refine wcall_raw (h65.mono ?_)
        rintro r H' rfl
        repeat' (first | ((with_reducible refine T_calm ?_ ?_); rfl) | (with_reducible first | refine T_seq ?_ | refine T_reg ?_ | refine T_draw ?_ | refine T_skip ?_ | refine T_exit ?_ | refine T_block ?_ | refine T_cond_t rfl ?_ | refine T_cond_f rfl ?_ | refine wdW_cons rfl ?_ | refine T_ret ?_ | refine leave_ids (.inr rfl) _ [3] rfl (by simp) (by simp) ?_ | refine leave_ids (.inl rfl) _ [3] rfl (by simp) (by simp) ?_ | refine wif_intro ?_ (fun hc => ?_) | refine And.intro ?_ ?_ | intro hc) | simp (maxSteps := 4000000) only [wops_nil, wops_cons, wstep_none, wrun_mv, get_mk, wop, aop, ev, look, put_some, writes, ores_some, thenK, hget, tupOf, List.map_cons, List.map_nil, List.length_cons, List.length_nil, List.getElem?_cons_zero, List.getElem?_cons_succ, List.set_cons_zero, List.set_cons_succ, List.append_nil, List.replicate_zero, Option.getD_some, Option.map_some, Option.map_none, if_true, if_false, Nat.reduceEqDiff, Nat.reduceAdd, Nat.zero_add, eq_self, ren, renB, renO, keepρ, pos, Nat.not_lt_zero, renR_ints, *] | simp (disch := omega) only [getD_ints, wrapI] | omega)
end Go.Abs
