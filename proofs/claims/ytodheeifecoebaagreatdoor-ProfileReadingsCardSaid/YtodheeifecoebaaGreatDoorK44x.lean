import Derived.Test.YtodheeifecoebaaGreatDoorPCmin
import Derived.Test.YtodheeifecoebaaGreatDoorK40x
set_option linter.all false
set_option linter.unusedVariables false
set_option linter.unusedSimpArgs false
set_option linter.unusedSectionVars false
namespace Go.Abs
open Go.Proofs
/-- the state of the search for a circle: heights, the arcs that set them, the last zone that fell -/
structure CS where
  h : List Int
  by_ : List Ar
  at_ : Int
def relaxS (s : CS) (a : Ar) : CS :=
  if s.h.getD a.f.toNat 0 + a.len < s.h.getD a.t.toNat 0 then ⟨s.h.set a.t.toNat (s.h.getD a.f.toNat 0 + a.len), s.by_.set a.t.toNat a, a.t⟩ else s
def rlx (A : List Ar) (s : CS) : Nat → CS
  | 0 => s
  | k + 1 => relaxS (rlx A s k) (A.getD k ar0)
def rnds (A : List Ar) (z : Nat) : Nat → CS
  | 0 => ⟨List.replicate z 0, List.replicate z ar0, -1⟩
  | r + 1 => rlx A ⟨(rnds A z r).h, (rnds A z r).by_, -1⟩ A.length
/-- arcs between zones, none of them long -/
def okAr (A : List Ar) (z : Nat) : Prop := ∀ k, k < A.length → (0 ≤ (A.getD k ar0).f ∧ (A.getD k ar0).f < z) ∧ (0 ≤ (A.getD k ar0).t ∧ (A.getD k ar0).t < z) ∧ -1000000 ≤ (A.getD k ar0).len ∧ (A.getD k ar0).len ≤ 1000000
/-- sizes, and heights within a bound -/
structure CSok (z : Nat) (B : Int) (s : CS) : Prop where
  hl : s.h.length = z
  bl : s.by_.length = z
  hr : ∀ k, -B ≤ s.h.getD k 0 ∧ s.h.getD k 0 ≤ 0
theorem getD_set_int (l : List Int) (i k : Nat) (v : Int) : (l.set i v).getD k 0 = if i = k ∧ i < l.length then v else l.getD k 0 := by
  simp only [List.getD_eq_getElem?_getD]
  by_cases h : i = k
  · subst h
    by_cases h2 : i < l.length
    · simp [h2]
    · rw [List.set_eq_of_length_le (by omega), if_neg (by omega)]
  · rw [List.getElem?_set_ne h, if_neg (fun h200 => h h200.1)]
theorem getD_set_ar (l : List Ar) (i k : Nat) (v : Ar) : (l.set i v).getD k ar0 = if i = k ∧ i < l.length then v else l.getD k ar0 := by
  simp only [List.getD_eq_getElem?_getD]
  by_cases h : i = k
  · subst h
    by_cases h2 : i < l.length
    · simp [h2]
    · rw [List.set_eq_of_length_le (by omega), if_neg (by omega)]
  · rw [List.getElem?_set_ne h, if_neg (fun h200 => h h200.1)]
theorem relaxS_ok {z : Nat} {B : Int} {s : CS} {a : Ar} (h : CSok z B s) (hb : 0 ≤ B) (hl : -1000000 ≤ a.len) : CSok z (B + 1000000) (relaxS s a) := by
  unfold relaxS
  split
  · rename_i hc
    refine ⟨by simp [h.hl], by simp [h.bl], fun k => ?_⟩
    dsimp only
    rw [getD_set_int]
    have h1 := h.hr a.f.toNat
    have h2 := h.hr a.t.toNat
    have h200 := h.hr k
    split <;> omega
  · exact ⟨h.hl, h.bl, fun k => by have := h.hr k; omega⟩
theorem rlx_ok {z : Nat} {B : Int} {A : List Ar} {s : CS} (h : CSok z B s) (hb : 0 ≤ B) (hA : okAr A z) : ∀ k, k ≤ A.length → CSok z (B + 1000000 * k) (rlx A s k)
  | 0, _ => by simpa [rlx] using h
  | k + 1, hk => by
    have := relaxS_ok (a := A.getD k ar0) (rlx_ok h hb hA k (by omega)) (by omega) (hA k (by omega)).2.2.1
    have e : B + 1000000 * ((k + 1 : Nat) : Int) = B + 1000000 * (k : Int) + 1000000 := by omega
    rw [e]; exact this
theorem rnds_ok {z : Nat} {A : List Ar} (hA : okAr A z) (hn : A.length ≤ 200) : ∀ r : Nat, CSok z (200000000 * (r : Int)) (rnds A z r)
  | 0 => ⟨by simp [rnds], by simp [rnds], fun k => by
      have : (rnds A z 0).h.getD k 0 = 0 := by
        show (List.replicate z (0 : Int)).getD k 0 = 0
        rw [List.getD_eq_getElem?_getD, List.getElem?_replicate]; split <;> rfl
      rw [this]; simp⟩
  | r + 1 => by
    have h := rnds_ok hA hn r
    have h2 := rlx_ok (A := A) (s := ⟨(rnds A z r).h, (rnds A z r).by_, -1⟩) (B := 200000000 * (r : Int)) (z := z) ⟨h.hl, h.bl, h.hr⟩ (by omega) hA A.length (Nat.le_refl _)
    exact ⟨h2.hl, h2.bl, fun k => by have := h2.hr k; show _ ≤ (rlx A _ A.length).h.getD k 0 ∧ (rlx A _ A.length).h.getD k 0 ≤ 0; omega⟩
theorem set_ints (l : List Int) (i : Nat) (v : Int) : (l.map fun x => [i64 x]).set i [i64 v] = (l.set i v).map fun x => [i64 x] := by rw [List.map_set]
theorem set_ints' (ρ : Nat → Option Nat) (l : List Int) (i : Nat) (v : Int) : renR ρ ((l.map fun x => [i64 x]).set i [i64 v]) = (l.set i v).map fun x => [i64 x] := by rw [set_ints, renR_ints]
theorem set_arows (l : List Ar) (i : Nat) (v : Ar) : (arows l).set i (arow v) = arows (l.set i v) := by unfold arows; rw [List.map_set]
def S95i (A : List Ar) (z : Nat) (r : Nat) (s : CS) (k : Nat) : St := ⟨[(0, i64 z), (5, .lsl 0 0 A.length), (6, .lsl 1 0 z), (7, .lsl 2 0 z), (8, i64 s.at_), (21, i64 ((z : Int) + 1)), (22, i64 r), (24, .lsl 0 0 A.length), (25, i64 A.length), (26, i64 k)],
  [.cells true false 4 (arows A), .cells true false 1 (s.h.map fun x => [i64 x]), .cells true false 4 (arows s.by_)]⟩
set_option maxHeartbeats 8000000 in
theorem k41i {A : List Ar} {z r : Nat} {B : Int} {s0 : CS} (hz : z ≤ 1000) (hr : r ≤ 1000) (hn : A.length ≤ 200) (hA : okAr A z) (hs : CSok z B s0) (hB : 0 ≤ B ∧ B ≤ 100000000000000) (K : Exit → St → Prop) (k : Nat) (hk : k < A.length) :
   T none Tryz.prog muts 95 0 c41l0 (S95i A z r (rlx A s0 k) k) (thenK (fun s' => (k < A.length ∧ True) ∧ ∃ ids : List Nat, 0 ≤ s'.heap.length ∧ (∀ id ∈ ids, 0 ≤ id ∧ id < s'.heap.length) ∧ ids.Nodup ∧ s'.keep 0 [0, 5, 6, 7, 8, 21, 22, 24, 25, 26] ids = S95i A z r (rlx A s0 (k + 1)) (k + 1)) K) := by
  have hs2 := rlx_ok hs (by omega) hA k (by omega)
  have ⟨ha1, ha2, ha3, ha4⟩ := hA k hk
  rw [rlx]
  generalize rlx A s0 k = s at *
  obtain ⟨hl, hbl, hrr⟩ := hs2
  have h1 := hrr (A.getD k ar0).f.toNat
  have h2 := hrr (A.getD k ar0).t.toNat
  clear hrr hs hA
  obtain ⟨h, by_, at_⟩ := s
  dsimp only at hl hbl h1 h2
  have hg : (arows A).getD ((k : Nat) : Int).toNat [] = arow (A.getD k ar0) := arows_get hk
  have hal := arows_len A
  have hbl2 := arows_len by_
  generalize A.getD k ar0 = a at *
  have hz1 : (h.map fun x => [i64 x]).length = h.length := by simp
  by_cases hc : h.getD a.f.toNat 0 + a.len < h.getD a.t.toNat 0
  · have e : relaxS ⟨h, by_, at_⟩ a = ⟨h.set a.t.toNat (h.getD a.f.toNat 0 + a.len), by_.set a.t.toNat a, a.t⟩ := if_pos hc
    rw [e]
    unfold c41l0 S95i
    have hgb := arows_get (l := by_) (k := a.t.toNat) (by omega)
    repeat' (first | ((with_reducible refine T_calm ?_ ?_); rfl) | (with_reducible first | refine T_seq ?_ | refine T_reg ?_ | refine T_draw ?_ | refine T_skip ?_ | refine T_exit ?_ | refine T_block ?_ | refine T_cond_t rfl ?_ | refine T_cond_f rfl ?_ | refine wdW_cons rfl ?_ | ((first | refine T_cond rfl (fun hc => ?_) (fun hc => ?_) | refine wguard_split (fun hc => ?_) (fun hc => ?_) | refine wguardX_split (fun hc => ?_) (fun hc => ?_)) <;> have hd := hc <;> (try simp (disch := omega) only [wrapI] at hd) <;> have hs := hd <;> (try simp only [decide_eq_true_eq, decide_eq_false_iff_not, Int.not_lt] at hd) <;> (try simp at hs)) | refine T_ret ?_ | refine leave_of (.inr rfl) _ rfl ?_ | refine leave_of (.inl rfl) _ rfl ?_ | refine wif_intro ?_ (fun hc => ?_) | refine And.intro ?_ ?_ | intro hc) | simp (maxSteps := 4000000) only [wops_nil, wops_cons, wstep_none, wrun_mv, wrun_bin, wrun_load, wrun_store, wrun_faddr, wrun_iaddrS, wrun_alloc, wrunX_mv, wrunX_load, wrunX_store, wrunX_faddr, wrunX_iaddrS, wdW_nil, wstepX_none, wop, aop, ev, look, put_some, put_none, writes, ores_some, ores_ite_none, ores_map, binV, thenK, blockK, value, cut, hget, putCells, AV.parts, isOne, toLits, mkAgg, ofValue_int, List.map_cons, List.map_nil, List.length_cons, List.length_nil, List.getElem?_cons_zero, List.getElem?_cons_succ, List.set_cons_zero, List.set_cons_succ, List.take_succ_cons, List.take_zero, List.take_nil, List.drop_succ_cons, List.drop_zero, List.drop_nil, List.cons_append, List.nil_append, List.append_nil, List.append_assoc, List.replicate_zero, List.replicate_succ, List.getD_cons_zero, List.all_cons, List.all_nil, Option.getD_some, Option.map_some, if_true, if_false, Nat.reduceEqDiff, Nat.reduceAdd, Nat.reduceLeDiff, Nat.reduceLT, Nat.add_zero, Nat.zero_add, Nat.le_refl, reduceCtorEq, Bool.and_true, Bool.false_eq_true, eq_self, true_and, and_true, and_self, decide_true, List.all_cons, set_ints, set_arows, *] | simp (disch := omega) only [getD_ints, wrapI] | omega)
    refine ⟨[0, 1, 2], by simp, by simp, ?_⟩
    simp [St.keep, get_mk, look, ren, renB, renO, keepρ, pos, hget, renR_arows, set_ints']
  · have e : relaxS ⟨h, by_, at_⟩ a = ⟨h, by_, at_⟩ := if_neg hc
    rw [e]
    unfold c41l0 S95i
    repeat' (first | ((with_reducible refine T_calm ?_ ?_); rfl) | (with_reducible first | refine T_seq ?_ | refine T_reg ?_ | refine T_draw ?_ | refine T_skip ?_ | refine T_exit ?_ | refine T_block ?_ | refine T_cond_t rfl ?_ | refine T_cond_f rfl ?_ | refine wdW_cons rfl ?_ | ((first | refine T_cond rfl (fun hc => ?_) (fun hc => ?_) | refine wguard_split (fun hc => ?_) (fun hc => ?_) | refine wguardX_split (fun hc => ?_) (fun hc => ?_)) <;> have hd := hc <;> (try simp (disch := omega) only [wrapI] at hd) <;> have hs := hd <;> (try simp only [decide_eq_true_eq, decide_eq_false_iff_not, Int.not_lt] at hd) <;> (try simp at hs)) | refine T_ret ?_ | refine leave_of (.inr rfl) _ rfl ?_ | refine leave_of (.inl rfl) _ rfl ?_ | refine wif_intro ?_ (fun hc => ?_) | refine And.intro ?_ ?_ | intro hc) | simp (maxSteps := 4000000) only [wops_nil, wops_cons, wstep_none, wrun_mv, wrun_bin, wrun_load, wrun_store, wrun_faddr, wrun_iaddrS, wrun_alloc, wop, aop, ev, look, put_some, put_none, writes, ores_some, ores_ite_none, ores_map, binV, thenK, blockK, value, cut, hget, putCells, AV.parts, isOne, toLits, mkAgg, ofValue_int, List.map_cons, List.map_nil, List.length_cons, List.length_nil, List.getElem?_cons_zero, List.getElem?_cons_succ, List.set_cons_zero, List.set_cons_succ, List.take_succ_cons, List.take_zero, List.take_nil, List.drop_succ_cons, List.drop_zero, List.drop_nil, List.cons_append, List.nil_append, List.append_nil, List.append_assoc, List.replicate_zero, List.replicate_succ, List.getD_cons_zero, List.all_cons, List.all_nil, Option.getD_some, Option.map_some, if_true, if_false, Nat.reduceEqDiff, Nat.reduceAdd, Nat.reduceLeDiff, Nat.reduceLT, Nat.add_zero, Nat.zero_add, Nat.le_refl, reduceCtorEq, Bool.and_true, Bool.false_eq_true, eq_self, true_and, and_true, and_self, decide_true, decide_false, List.all_cons, *] | simp (disch := omega) only [getD_ints, wrapI] | omega)
    refine ⟨[0, 1, 2], by simp, by simp, ?_⟩
    simp [St.keep, get_mk, look, ren, renB, renO, keepρ, pos, hget, renR_ints, renR_arows]
end Go.Abs
