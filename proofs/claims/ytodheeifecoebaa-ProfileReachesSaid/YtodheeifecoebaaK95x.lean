import Derived.Test.YtodheeifecoebaaK94x
set_option linter.all false
set_option linter.unusedVariables false
set_option linter.unusedSimpArgs false
set_option linter.unusedSectionVars false
namespace Go.Abs
open Go.Proofs
theorem set_set_app {H : List Blk} {i : Nat} {b : Blk} (h : H[i]? = some b) (c : Blk) (X : List Blk) (d : Blk) (j : Nat) (hj : ∃ b2, H[j]? = some b2) : (H.set i c ++ X).set j d = (H.set i c).set j d ++ X := by
  obtain ⟨b2, h2⟩ := hj
  rw [List.set_append_left _ _ (by rw [List.length_set]; exact (List.getElem?_eq_some_iff.1 h2).1)]
set_option maxHeartbeats 8000000 in
theorem k70l2 {z : Nat} {nil : Bool} {l : List Rd} {D : List (List Int)} (hz : z ≤ 40) (hl : l.length ≤ 100) (hs : Sq z D) (K : Exit → St → Prop) (k : Nat) (hk : k < l.length)
    (hr : ((0 ≤ (l.getD k rd0).a ∧ (l.getD k rd0).a < z) ∧ (0 ≤ (l.getD k rd0).b ∧ (l.getD k rd0).b < z)) ∧ (l.getD k rd0).a ≠ (l.getD k rd0).b ∧ (-1000000 ≤ (l.getD k rd0).lo ∧ (l.getD k rd0).lo ≤ 1000000)) (H : List Blk) (hH : IsQ z D H) :
    T none Try.prog muts 174 0 c70l2 ⟨[(0, i64 z), (1, rdgs nil l), (6, .lsl 0 0 z), (9, i64 k)], H⟩ (thenK (fun s' => k < l.length ∧ IsQ z (mset (mset D (l.getD k rd0).a.toNat (l.getD k rd0).b.toNat (min (mget D (l.getD k rd0).a.toNat (l.getD k rd0).b.toNat) (l.getD k rd0).hi)) (l.getD k rd0).b.toNat (l.getD k rd0).a.toNat (min (mget D (l.getD k rd0).b.toNat (l.getD k rd0).a.toNat) (-(l.getD k rd0).lo))) s'.heap ∧ (s'.only [0, 1, 6, 9]).slots = [(0, i64 z), (1, rdgs nil l), (6, .lsl 0 0 z), (9, i64 ((k + 1 : Nat) : Int))]) K) := by
  have hg : (rows4 l).getD ((k : Nat) : Int).toNat [] = rrow (l.getD k rd0) := rows4_get hk
  have hrl := rows4_len l
  generalize l.getD k rd0 = r at *
  obtain ⟨⟨ha, hb⟩, hne, hlo⟩ := hr
  have haz : r.a.toNat < z := by omega
  have hbz : r.b.toNat < z := by omega
  have hab : r.a.toNat ≠ r.b.toNat := by omega
  have hm1 := hH.mset hs haz r.b.toNat (min (mget D r.a.toNat r.b.toNat) r.hi)
  have hs1 := hs.mset r.a.toNat r.b.toNat (min (mget D r.a.toNat r.b.toNat) r.hi)
  have hm2 := hm1.mset hs1 hbz r.a.toNat (min (mget D r.b.toNat r.a.toNat) (-r.lo))
  have erow : (mset D r.a.toNat r.b.toNat (min (mget D r.a.toNat r.b.toNat) r.hi)).getD r.b.toNat [] = D.getD r.b.toNat [] := by
    unfold Abs.mset; rw [getD_set_row, if_neg (fun h => hab h.1)]
  rw [erow] at hm2
  have hm3 : ∀ c : Blk, IsQ z _ _ := fun c => hm2.app [c]
  have htt := hH.t
  have hra := hH.r r.a.toNat haz
  have hrb := hH.r r.b.toNat hbz
  have hT1 := at_app htt
  have hT2 : ∀ c X, (H.set (1 + r.a.toNat) c ++ X)[0]? = some (.cells true false 1 ((List.range z).map fun i => [AV.lsl (1 + i) 0 z])) := fun c X => at_app (by rw [List.getElem?_set_ne (by omega)]; exact htt) X
  have hra1 := at_app hra
  have hsa1 := set_app hra
  have hrb2 : ∀ c X, (H.set (1 + r.a.toNat) c ++ X)[1 + r.b.toNat]? = some (.cells true false 1 ((D.getD r.b.toNat []).map fun x => [i64 x])) := fun c X => at_app (by rw [List.getElem?_set_ne (by omega)]; exact hrb) X
  have hsb2 := fun c X d => set_set_app hra c X d (1 + r.b.toNat) ⟨_, hrb⟩
  have he1 := end_at H
  have he2 := end_set H
  have he3 : ∀ c b : Blk, (H.set (1 + r.a.toNat) c ++ [b])[H.length]? = some b := fun c b => by
    have := end_at (H.set (1 + r.a.toNat) c) b
    rwa [List.length_set] at this
  have hta := qRows_get haz
  have htb := qRows_get hbz
  have hqa := hs.hr r.a.toNat haz
  have hqb := hs.hr r.b.toNat hbz
  have g1 : ((D.getD r.a.toNat []).map fun x => [i64 x]).getD r.b.toNat [] = [i64 (mget D r.a.toNat r.b.toNat)] := getD_ints (by omega)
  have g2 : ((D.getD r.b.toNat []).map fun x => [i64 x]).getD r.a.toNat [] = [i64 (mget D r.b.toNat r.a.toNat)] := getD_ints (by omega)
  have hla : ((D.getD r.a.toNat []).map fun x => [i64 x]).length = z := by rw [List.length_map]; exact hqa
  have hlb : ((D.getD r.b.toNat []).map fun x => [i64 x]).length = z := by rw [List.length_map]; exact hqb
  have em : (if r.hi < mget D r.a.toNat r.b.toNat then r.hi else mget D r.a.toNat r.b.toNat) = min (mget D r.a.toNat r.b.toNat) r.hi := by rw [Int.min_def]; split <;> split <;> omega
  have em2 : (if -r.lo < mget D r.b.toNat r.a.toNat then -r.lo else mget D r.b.toNat r.a.toNat) = min (mget D r.b.toNat r.a.toNat) (-r.lo) := by rw [Int.min_def]; split <;> split <;> omega
  have ewl : IntKind.i64.wrap (-r.lo) = -r.lo := wrapI (by omega) (by omega)
  have e0 : ∀ x : Int, 0 - x = -x := fun x => by omega
  clear hm1 hm2 hs1 hs hH erow htt hra hrb
  generalize Abs.mset (Abs.mset D r.a.toNat r.b.toNat (min (mget D r.a.toNat r.b.toNat) r.hi)) r.b.toNat r.a.toNat (min (mget D r.b.toNat r.a.toNat) (-r.lo)) = M2 at *
  unfold c70l2
  repeat' (first
    | ((with_reducible refine T_calm ?_ ?_); rfl)
    | with_reducible first
      | refine T_seq ?_
      | refine T_reg ?_
      | refine T_draw ?_
      | refine T_skip ?_
      | refine T_exit ?_
      | refine T_block ?_
      | refine T_cond_t rfl ?_
      | refine T_cond_f rfl ?_
      | refine wdW_cons rfl ?_
      | ((first | refine T_cond rfl (fun hc => ?_) (fun hc => ?_) | refine wguard_split (fun hc => ?_) (fun hc => ?_) | refine wguardX_split (fun hc => ?_) (fun hc => ?_)) <;> have hd := hc <;> (try simp (disch := omega) only [wrapI] at hd) <;> have hs := hd <;> (try simp only [decide_eq_true_eq, decide_eq_false_iff_not, Int.not_lt] at hd) <;> (try simp at hs))
      | refine T_ret ?_
      | refine leave_of (.inr rfl) _ rfl ?_
      | refine leave_of (.inl rfl) _ rfl ?_
      | refine leaveA_of (.inr rfl) _ rfl ?_
      | refine leaveA_of (.inl rfl) _ rfl ?_
      | refine wif_intro ?_ (fun hc => ?_)
      | refine And.intro ?_ ?_
      | intro hc
    | simp (maxSteps := 4000000) only [wops_nil, wops_cons, wstep_none, wrun_mv, wrun_bin, wrun_neg, wrun_load, wrun_store, wrun_faddr, wrun_iaddrS, wrun_len, wrun_minmax, wrun_alloc, wrunX_mv, wrunX_neg, wrunX_load, wrunX_store, wrunX_faddr, wrunX_iaddrS, wrunX_minmax, wdW_nil, wstepX_none, wop, aop, ev, look, put_some, put_none, writes, ores_some, ores_ite_none, ores_map, ores_bind, binV, thenK, blockK, intV, lenOf, value, cut, hget, putCells, AV.parts, isOne, toLits, mkAgg, ofValue_int, List.map_cons, List.map_nil, List.length_cons, List.length_nil, List.set_cons_zero, List.take_succ_cons, List.take_zero, List.take_nil, List.drop_succ_cons, List.drop_zero, List.drop_nil, List.nil_append, List.append_nil, List.append_assoc, List.replicate_zero, List.replicate_succ, List.getD_cons_zero, List.all_cons, List.all_nil, List.length_append, Option.pure_def, Option.bind_eq_bind, Option.getD_some, Option.map_some, if_true, if_false, Nat.reduceEqDiff, Nat.reduceAdd, Nat.reduceLT, Nat.add_zero, Nat.zero_add, Nat.le_refl, Nat.zero_ne_one, reduceCtorEq, Bool.and_true, Bool.false_eq_true, eq_self, true_and, and_true, and_self, decide_true, List.all_cons, set_ints, *]
    | simp (disch := omega) only [wrapI]
    | omega)
  simp [St.only, get_mk, look]
end Go.Abs
