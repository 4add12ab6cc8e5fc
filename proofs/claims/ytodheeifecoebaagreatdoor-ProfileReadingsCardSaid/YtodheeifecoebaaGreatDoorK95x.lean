import Derived.Test.YtodheeifecoebaaGreatDoorPCmin
import Derived.Test.YtodheeifecoebaaGreatDoorK94x
set_option linter.all false
set_option linter.unusedVariables false
set_option linter.unusedSimpArgs false
set_option linter.unusedSectionVars false
namespace Go.Abs
open Go.Proofs
theorem set_set_app {H : List Blk} {i : Nat} {b : Blk} (h : H[i]? = some b) (c : Blk) (X : List Blk) (d : Blk) (j : Nat) (hj : ∃ b2, H[j]? = some b2) : (H.set i c ++ X).set j d = (H.set i c).set j d ++ X := by
  obtain ⟨b2, h2⟩ := hj
  rw [List.set_append_left _ _ (by rw [List.length_set]; exact (List.getElem?_eq_some_iff.1 h2).1)]
set_option maxHeartbeats 8000000 in
theorem k29l2 {z : Nat} {nil : Bool} {l : List Rd} {D : List (List Int)} (hz : z ≤ 40) (hl : l.length ≤ 100) (hs : Sq z D) (K : Exit → St → Prop) (k : Nat) (hk : k < l.length)
    (hr : ((0 ≤ (l.getD k rd0).a ∧ (l.getD k rd0).a < z) ∧ (0 ≤ (l.getD k rd0).b ∧ (l.getD k rd0).b < z)) ∧ (l.getD k rd0).a ≠ (l.getD k rd0).b ∧ (-1000000 ≤ (l.getD k rd0).lo ∧ (l.getD k rd0).lo ≤ 1000000)) (H : List Blk) (hH : IsQ z D H) :
    T none Tryz.prog muts 174 0 c29l2 ⟨[(0, i64 z), (1, rdgs nil l), (6, .lsl 0 0 z), (9, i64 k)], H⟩ (thenK (fun s' => k < l.length ∧ IsQ z (mset (mset D (l.getD k rd0).a.toNat (l.getD k rd0).b.toNat (min (mget D (l.getD k rd0).a.toNat (l.getD k rd0).b.toNat) (l.getD k rd0).hi)) (l.getD k rd0).b.toNat (l.getD k rd0).a.toNat (min (mget D (l.getD k rd0).b.toNat (l.getD k rd0).a.toNat) (-(l.getD k rd0).lo))) s'.heap ∧ (s'.only [0, 1, 6, 9]).slots = [(0, i64 z), (1, rdgs nil l), (6, .lsl 0 0 z), (9, i64 ((k + 1 : Nat) : Int))]) K) := by
  have hg : (rows4 l).getD ((k : Nat) : Int).toNat [] = rrow (l.getD k rd0) := rows4_get hk
  have hrl := rows4_len l
  generalize l.getD k rd0 = r at *
  obtain ⟨⟨ha, hb⟩, hne, hlo⟩ := hr
  have haz : r.a.toNat < z := by omega
  have hbz : r.b.toNat < z := by omega
  have hab : r.a.toNat ≠ r.b.toNat := by omega
  have hm1 := hH.mset hs haz r.b.toNat (min (mget D r.a.toNat r.b.toNat) r.hi)
  have hs1 := hs.mset r.a.toNat r.b.toNat (min (mget D r.a.toNat r.b.toNat) r.hi)
  have hm2 := hm1.mset hs1 hbz r.a.toNat (min (mget D r.b.toNat r.a.toNat) (-r.lo))
  have erow : (mset D r.a.toNat r.b.toNat (min (mget D r.a.toNat r.b.toNat) r.hi)).getD r.b.toNat [] = D.getD r.b.toNat [] := by
    unfold Abs.mset; rw [getD_set_row, if_neg (fun h => hab h.1)]
  rw [erow] at hm2
  have hm3 : ∀ c : Blk, IsQ z _ _ := fun c => hm2.app [c]
  have htt := hH.t
  have hra := hH.r r.a.toNat haz
  have hrb := hH.r r.b.toNat hbz
  have hT1 := at_app htt
  have hT2 : ∀ c X, (H.set (1 + r.a.toNat) c ++ X)[0]? = some (.cells true false 1 ((List.range z).map fun i => [AV.lsl (1 + i) 0 z])) := fun c X => at_app (by rw [List.getElem?_set_ne (by omega)]; exact htt) X
  have hra1 := at_app hra
  have hsa1 := set_app hra
  have hrb2 : ∀ c X, (H.set (1 + r.a.toNat) c ++ X)[1 + r.b.toNat]? = some (.cells true false 1 ((D.getD r.b.toNat []).map fun x => [i64 x])) := fun c X => at_app (by rw [List.getElem?_set_ne (by omega)]; exact hrb) X
  have hsb2 := fun c X d => set_set_app hra c X d (1 + r.b.toNat) ⟨_, hrb⟩
  have he1 := end_at H
  have he2 := end_set H
  have he3 : ∀ c b : Blk, (H.set (1 + r.a.toNat) c ++ [b])[H.length]? = some b := fun c b => by
    have := end_at (H.set (1 + r.a.toNat) c) b
    rwa [List.length_set] at this
  have hta := qRows_get haz
  have htb := qRows_get hbz
  have hqa := hs.hr r.a.toNat haz
  have hqb := hs.hr r.b.toNat hbz
  have g1 : ((D.getD r.a.toNat []).map fun x => [i64 x]).getD r.b.toNat [] = [i64 (mget D r.a.toNat r.b.toNat)] := getD_ints (by omega)
  have g2 : ((D.getD r.b.toNat []).map fun x => [i64 x]).getD r.a.toNat [] = [i64 (mget D r.b.toNat r.a.toNat)] := getD_ints (by omega)
  have hla : ((D.getD r.a.toNat []).map fun x => [i64 x]).length = z := by rw [List.length_map]; exact hqa
  have hlb : ((D.getD r.b.toNat []).map fun x => [i64 x]).length = z := by rw [List.length_map]; exact hqb
  have em : (if r.hi < mget D r.a.toNat r.b.toNat then r.hi else mget D r.a.toNat r.b.toNat) = min (mget D r.a.toNat r.b.toNat) r.hi := by rw [Int.min_def]; split <;> split <;> omega
  have em2 : (if -r.lo < mget D r.b.toNat r.a.toNat then -r.lo else mget D r.b.toNat r.a.toNat) = min (mget D r.b.toNat r.a.toNat) (-r.lo) := by rw [Int.min_def]; split <;> split <;> omega
  have ewl : IntKind.i64.wrap (-r.lo) = -r.lo := wrapI (by omega) (by omega)
  have e0 : ∀ x : Int, 0 - x = -x := fun x => by omega
  clear hm1 hm2 hs1 hs hH erow htt hra hrb
  generalize Abs.mset (Abs.mset D r.a.toNat r.b.toNat (min (mget D r.a.toNat r.b.toNat) r.hi)) r.b.toNat r.a.toNat (min (mget D r.b.toNat r.a.toNat) (-r.lo)) = M2 at *
  unfold c29l2
  repeat' (first | ((with_reducible refine T_calm ?_ ?_); rfl) | (with_reducible first | refine T_seq ?_ | refine T_reg ?_ | refine T_draw ?_ | refine T_skip ?_ | refine T_exit ?_ | refine T_block ?_ | refine T_cond_t rfl ?_ | refine T_cond_f rfl ?_ | refine wdW_cons rfl ?_ | ((first | refine T_cond rfl (fun hc => ?_) (fun hc => ?_) | refine wguard_split (fun hc => ?_) (fun hc => ?_) | refine wguardX_split (fun hc => ?_) (fun hc => ?_)) <;> have hd := hc <;> (try simp (disch := omega) only [wrapI] at hd) <;> have hs := hd <;> (try simp only [decide_eq_true_eq, decide_eq_false_iff_not, Int.not_lt] at hd) <;> (try simp at hs)) | refine T_ret ?_ | refine leave_of (.inr rfl) _ rfl ?_ | refine leave_of (.inl rfl) _ rfl ?_ | refine wif_intro ?_ (fun hc => ?_) | refine And.intro ?_ ?_ | intro hc) | simp (maxSteps := 4000000) only [wops_nil, wops_cons, wstep_none, wrun_mv, wrun_bin, wrun_neg, wrun_load, wrun_store, wrun_faddr, wrun_iaddrS, wrun_len, wrun_minmax, wrun_alloc, wrunX_mv, wrunX_neg, wrunX_load, wrunX_store, wrunX_faddr, wrunX_iaddrS, wrunX_minmax, wdW_nil, wstepX_none, wop, aop, ev, look, put_some, put_none, writes, ores_some, ores_ite_none, ores_map, ores_bind, binV, thenK, blockK, intV, lenOf, value, cut, hget, putCells, AV.parts, isOne, toLits, mkAgg, ofValue_int, List.map_cons, List.map_nil, List.length_cons, List.length_nil, List.set_cons_zero, List.take_succ_cons, List.take_zero, List.take_nil, List.drop_succ_cons, List.drop_zero, List.drop_nil, List.nil_append, List.append_nil, List.append_assoc, List.replicate_zero, List.replicate_succ, List.getD_cons_zero, List.all_cons, List.all_nil, List.length_append, Option.pure_def, Option.bind_eq_bind, Option.getD_some, Option.map_some, if_true, if_false, Nat.reduceEqDiff, Nat.reduceAdd, Nat.reduceLT, Nat.add_zero, Nat.zero_add, Nat.le_refl, Nat.zero_ne_one, reduceCtorEq, Bool.and_true, Bool.false_eq_true, eq_self, true_and, and_true, and_self, decide_true, List.all_cons, set_ints, *] | simp (disch := omega) only [wrapI] | omega)
  simp [St.only, get_mk, look]
end Go.Abs
namespace Go.Abs
open Go.Proofs
theorem arM_bd {z : Nat} {A : List Ar} (hA : okAr A z) : ∀ k, k ≤ A.length → Sq z (arM A (iniM z) k) ∧ Bd z (arM A (iniM z) k)
  | 0, _ => ⟨iniM_sq z, fun i j hi hj => by
      show mget (iniM z) i j = far ∨ (-400000000 ≤ mget (iniM z) i j ∧ mget (iniM z) i j ≤ 400000000)
      rw [iniM_mget hi hj]; split
      · right; omega
      · left; rfl⟩
  | k + 1, hk => by
    obtain ⟨h1, h2⟩ := arM_bd hA k (by omega)
    have hAk := hA k (by omega)
    have hf : (A.getD k ar0).f.toNat < z := by omega
    have ht : (A.getD k ar0).t.toNat < z := by omega
    have hfar : far = 1099511627776 := rfl
    unfold arM
    refine ⟨h1.mset _ _ _, fun i j hi hj => ?_⟩
    rw [mget_mset h1 hf ht]
    have b1 := h2 i j hi hj
    have b2 := h2 _ _ hf ht
    split
    · omega
    · exact b1
theorem arcs_idx' (l : List Rd) : ∀ n, n ≤ l.length → ∀ i, i < n → (arcsL l n).getD (2 * i) ar0 = ⟨(l.getD i rd0).a, (l.getD i rd0).b, (l.getD i rd0).hi, (i : Int) + 1⟩ ∧ (arcsL l n).getD (2 * i + 1) ar0 = ⟨(l.getD i rd0).b, (l.getD i rd0).a, -(l.getD i rd0).lo, -(i : Int) - 1⟩
  | 0, _, i, hi => by omega
  | n + 1, hn, i, hi => by
    have hl := arcsL_len l n
    have e : arcsL l (n + 1) = arcsL l n ++ [⟨(l.getD n rd0).a, (l.getD n rd0).b, (l.getD n rd0).hi, (n : Int) + 1⟩, ⟨(l.getD n rd0).b, (l.getD n rd0).a, -(l.getD n rd0).lo, -(n : Int) - 1⟩] := rfl
    by_cases hin : i < n
    · obtain ⟨h1, h2⟩ := arcs_idx' l n (by omega) i hin
      constructor
      · rw [e, List.getD_eq_getElem?_getD, List.getElem?_append_left (by omega), ← List.getD_eq_getElem?_getD, h1]
      · rw [e, List.getD_eq_getElem?_getD, List.getElem?_append_left (by omega), ← List.getD_eq_getElem?_getD, h2]
    · have : i = n := by omega
      subst this
      constructor
      · rw [e, List.getD_eq_getElem?_getD, List.getElem?_append_right (by omega), hl, show 2 * i - 2 * i = 0 by omega]; rfl
      · rw [e, List.getD_eq_getElem?_getD, List.getElem?_append_right (by omega), hl, show 2 * i + 1 - 2 * i = 1 by omega]; rfl
theorem rv_min {x y : Int} (hx : x = far ∨ (-400000000 ≤ x ∧ x ≤ 400000000)) (hy : -1000000 ≤ y ∧ y ≤ 1000000) : rv (min x y) = min (rv x) y := by
  have hfar : far = 1099511627776 := rfl
  have hF : FAR = 1000000000000 := rfl
  unfold rv
  rcases hx with h | h
  · rw [if_pos (by omega), if_neg (by omega)]; omega
  · rw [if_pos (by omega), if_pos (by omega)]
/-- one reading: two arcs -/
theorem toR_arM {z : Nat} {l : List Rd} (hA : okAr (arcsL l l.length) z) (hN : neAr (arcsL l l.length)) {k : Nat} (hk : k < l.length) :
    mset (mset (toR (arM (arcsL l l.length) (iniM z) (2 * k))) (l.getD k rd0).a.toNat (l.getD k rd0).b.toNat (min (mget (toR (arM (arcsL l l.length) (iniM z) (2 * k))) (l.getD k rd0).a.toNat (l.getD k rd0).b.toNat) (l.getD k rd0).hi)) (l.getD k rd0).b.toNat (l.getD k rd0).a.toNat (min (mget (toR (arM (arcsL l l.length) (iniM z) (2 * k))) (l.getD k rd0).b.toNat (l.getD k rd0).a.toNat) (-(l.getD k rd0).lo)) = toR (arM (arcsL l l.length) (iniM z) (2 * (k + 1))) := by
  have hal := arcsL_len l l.length
  obtain ⟨h1, h2⟩ := arM_bd hA (2 * k) (by omega)
  obtain ⟨h200, h201⟩ := arM_bd hA (2 * k + 1) (by omega)
  have e1 := arcs_idx' l l.length (Nat.le_refl _) k hk
  have hA1 := hA (2 * k) (by omega)
  have hA2 := hA (2 * k + 1) (by omega)
  have hN1 := hN (2 * k) (by omega)
  rw [e1.1] at hA1 hN1
  rw [e1.2] at hA2
  dsimp only at hA1 hA2 hN1
  have haz : (l.getD k rd0).a.toNat < z := by omega
  have hbz : (l.getD k rd0).b.toNat < z := by omega
  have s1 : arM (arcsL l l.length) (iniM z) (2 * k + 1) = mset (arM (arcsL l l.length) (iniM z) (2 * k)) (l.getD k rd0).a.toNat (l.getD k rd0).b.toNat (min (mget (arM (arcsL l l.length) (iniM z) (2 * k)) (l.getD k rd0).a.toNat (l.getD k rd0).b.toNat) (l.getD k rd0).hi) := by
    show mset _ _ _ _ = _
    rw [e1.1]
  have s2 : arM (arcsL l l.length) (iniM z) (2 * (k + 1)) = mset (arM (arcsL l l.length) (iniM z) (2 * k + 1)) (l.getD k rd0).b.toNat (l.getD k rd0).a.toNat (min (mget (arM (arcsL l l.length) (iniM z) (2 * k + 1)) (l.getD k rd0).b.toNat (l.getD k rd0).a.toNat) (-(l.getD k rd0).lo)) := by
    have e200 : arM (arcsL l l.length) (iniM z) (2 * k + 1 + 1) = mset (arM (arcsL l l.length) (iniM z) (2 * k + 1)) ((arcsL l l.length).getD (2 * k + 1) ar0).f.toNat ((arcsL l l.length).getD (2 * k + 1) ar0).t.toNat (min (mget (arM (arcsL l l.length) (iniM z) (2 * k + 1)) ((arcsL l l.length).getD (2 * k + 1) ar0).f.toNat ((arcsL l l.length).getD (2 * k + 1) ar0).t.toNat) ((arcsL l l.length).getD (2 * k + 1) ar0).len) := rfl
    rw [show 2 * (k + 1) = 2 * k + 1 + 1 by omega, e200, e1.2]
  have hba : mget (arM (arcsL l l.length) (iniM z) (2 * k + 1)) (l.getD k rd0).b.toNat (l.getD k rd0).a.toNat = mget (arM (arcsL l l.length) (iniM z) (2 * k)) (l.getD k rd0).b.toNat (l.getD k rd0).a.toNat := by
    rw [s1, mget_mset h1 haz hbz, if_neg (fun h => by omega)]
  rw [s2, toR_set _ _ _ _ (by rw [h200.hl]; exact hbz), hba, rv_min (h2 _ _ hbz haz) (by omega), s1, toR_set _ _ _ _ (by rw [h1.hl]; exact haz), rv_min (h2 _ _ haz hbz) (by omega), toR_get h1 haz hbz, toR_get h1 hbz haz]
theorem pos_rng {n j : Nat} (h : j < n) : pos (List.range n) j = some j := by
  have : ∀ (n s j : Nat), j < n → pos (List.range' s n) (s + j) = some j := by
    intro n
    induction n with
    | zero => intro s j h; omega
    | succ n ih =>
      intro s j h
      simp only [List.range'_succ, pos]
      cases j with
      | zero => simp
      | succ j =>
        have := ih (s + 1) j (by omega)
        rw [show s + 1 + j = s + (j + 1) by omega] at this
        rw [if_neg (by omega), this]
        rfl
  have h2 := this n 0 j h
  rwa [Nat.zero_add, ← List.range_eq_range'] at h2
theorem leave_tq {z : Nat} {M : List (List Int)} {H : List Blk} (hH : IsQ z M H) (hs : Sq z M) : (List.range (z + 1)).map (fun id => renB (keepρ 0 (List.range (z + 1))) (hget H id)) = tabB M z := by
  refine List.ext_getElem? fun i => ?_
  cases i with
  | zero =>
    have e : hget H 0 = .cells true false 1 ((List.range z).map fun i => [AV.lsl (1 + i) 0 z]) := by unfold hget; rw [hH.t]; rfl
    simp only [List.range_succ_eq_map, List.map_cons, List.getElem?_cons_zero, e, tabB]
    refine congrArg some ?_
    simp only [renB]
    refine congrArg (Blk.cells true false 1) ?_
    have hren : ∀ l : List Nat, (∀ x ∈ l, x < z) → renR (keepρ 0 (List.range (z + 1))) (l.map fun i => [AV.lsl (1 + i) 0 z]) = l.map fun i => [AV.lsl (1 + i) 0 z] := by
      intro l
      induction l with
      | nil => intro _; rfl
      | cons x l ih =>
        intro hl
        have hx := hl x (by simp)
        have hp : keepρ 0 (List.range (z + 1)) (1 + x) = some (1 + x) := by
          unfold keepρ
          rw [if_neg (by omega), pos_rng (by omega)]
          simp
        simp only [List.map_cons, renR, renL, ren, hp, ih (fun y hy => hl y (by simp [hy]))]
    have := hren (List.range z) (fun x hx => List.mem_range.1 hx)
    simpa [List.range_succ_eq_map] using this
  | succ i =>
    simp only [tabB, List.getElem?_cons_succ, List.getElem?_map]
    by_cases hi : i < z
    · have h1 : (List.range (z + 1))[i + 1]? = some (i + 1) := by simp [hi]
      have h2 : M[i]? = some (M.getD i []) := by simp [List.getD, hs.hl, hi]
      rw [h1, h2]
      simp only [Option.map_some]
      refine congrArg some ?_
      have e : hget H (i + 1) = .cells true false 1 ((M.getD i []).map fun x => [i64 x]) := by
        unfold hget; rw [show i + 1 = 1 + i by omega, hH.r i hi]; rfl
      rw [e]
      simp only [renB, renR_ints, rowB]
    · have h1 : (List.range (z + 1))[i + 1]? = none := by simp; omega
      have h2 : M[i]? = none := by simp [hs.hl]; omega
      rw [h1, h2]; rfl
end Go.Abs
