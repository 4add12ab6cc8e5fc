import Derived.Test.YtdedhipkncagjaaK553x
set_option linter.all false
set_option linter.unusedVariables false
set_option linter.unusedSimpArgs false
set_option linter.unusedSectionVars false
namespace Go.Abs
open Go.Proofs
abbrev S3C (hn pn en : Bool) (xs : List Int) (ps es : List (Int × Int)) (pk sl : Int) (B : List (Int × Int)) : St := ⟨[(2, .loc 0 0 0), (3, .loc 1 0 0), (7, i64 xs.length), (8, .lsl 2 0 B.length), (11, .lsl 3 0 xs.length)], [mB true hn pn en xs ps es, tB pk sl, .cells false false 2 (rgR B), .cells true false 1 (iR (hK xs xs.length))]⟩
set_option maxHeartbeats 8000000 in
theorem k3e {hn pn en : Bool} {xs : List Int} {ps es B : List (Int × Int)} {pk sl : Int} {l : List Int} (hxl : 1 ≤ xs.length ∧ xs.length ≤ 8) (K : Exit → St → Prop) (hK : ∀ τ : St, τ.only [2, 3, 7, 8, 11] = ⟨[(2, .loc 0 0 0), (3, .loc 1 0 0), (7, i64 xs.length), (8, .lsl 2 0 B.length), (11, hV l)], [mB true hn pn en xs ps es, tB pk sl, .cells false false 2 (rgR B)] ++ hBk l⟩ → K (.exit 0) τ) : T none Try.prog muts 175 0 c3l0 (S3h hn pn en xs ps es pk sl B xs.length l) K := by
  have hkk : decide ((xs.length : Int) < (xs.length : Int)) = false := by simp
  simp only [S3h]
  generalize hV l = V at *
  generalize hBk l = X at *
  replace hK := PLift.up hK
  unfold c3l0
  repeat' (first | ((with_reducible refine T_calm ?_ ?_); rfl) | (with_reducible first | refine T_seq ?_ | refine T_reg ?_ | refine T_draw ?_ | refine T_skip ?_ | refine T_exit ?_ | refine T_block ?_ | refine T_cond_t rfl ?_ | refine T_cond_f rfl ?_ | refine wdW_cons rfl ?_ | refine T_ret ?_ | refine wif_intro ?_ (fun hc => ?_) | refine And.intro ?_ ?_ | intro hc) | simp (maxSteps := 4000000) only [wops_nil, wops_cons, wstep_none, wrun_mv, wrun_bin, wop, aop, ev, look, put_some, writes, ores_some, binV, thenK, List.length_cons, List.cons_append, List.nil_append, List.append_nil, List.replicate_zero, Option.map_some, if_true, if_false, Nat.reduceEqDiff, reduceCtorEq, eq_self, Int.reduceNeg, *] | simp (disch := omega) only [getD_ints, wrapI] | omega)
  all_goals first | exact hK.down _ (by simp [St.only, get_mk, look])
set_option maxHeartbeats 8000000 in
theorem k3Bn {hn pn en : Bool} {xs : List Int} {ps es B : List (Int × Int)} {pk sl : Int} {t : ACode} (hxl : 1 ≤ xs.length ∧ xs.length ≤ 8) (hg : ∀ k, gH (xs.getD k 0)) (hok : ∀ k, k < xs.length → gH (xs.getD k 0 - xs.getD 0 0)) (K : Exit → St → Prop) (hN : T none Try.prog muts 175 0 t (S3C hn pn en xs ps es pk sl B) K) : T none Try.prog muts 175 0 (c3r1 t) (S3B hn pn en xs ps es pk sl B) K := by
  have hh := PLift.up (fun k hk K hX hN => k3h (hn := hn) (pn := pn) (en := en) (ps := ps) (es := es) (B := B) (pk := pk) (sl := sl) (k := k) (l := hK xs k) (Bo := true) hxl hg hk (hK_len xs k) (by
    have h10 := k10 (xs.getD k 0 - xs.getD 0 0) (-100000) 100000
    have := hok k hk
    unfold gH at this
    rw [decide_eq_true this.1, decide_eq_true this.2] at h10
    exact h10) K hX hN)
  have he := PLift.up (fun K hK0 => k3e (hn := hn) (pn := pn) (en := en) (ps := ps) (es := es) (B := B) (pk := pk) (sl := sl) (l := hK xs xs.length) hxl K hK0)
  replace hN := PLift.up hN
  clear hok hg
  unfold c3r1
  repeat' (first | ((with_reducible refine T_calm ?_ ?_); rfl) | (with_reducible first | refine T_seq ?_ | refine T_reg ?_ | refine T_draw ?_ | refine T_skip ?_ | refine T_exit ?_ | refine T_block ?_ | refine T_cond_t rfl ?_ | refine T_cond_f rfl ?_ | refine wdW_cons rfl ?_ | refine T_ret ?_ | refine wif_intro ?_ (fun hc => ?_) | refine And.intro ?_ ?_ | intro hc) | simp (maxSteps := 4000000) only [wops_nil, wops_cons, wstep_none, wrun_mv, wop, aop, ev, put_some, writes, ores_some, thenK, List.length_cons, List.length_nil, List.append_nil, List.replicate_zero, Nat.reduceAdd, Nat.zero_add, *] | simp (disch := omega) only [getD_ints, wrapI] | omega)
  refine T_for_keep [2, 3, 7, 8, 11, 12] (fun k => S3h hn pn en xs ps es pk sl B k (hK xs k)) xs.length (fun _ => True) 0 ⟨[0, 1, 2], by simp, by simp, by simp, ?_⟩ trivial (Nat.zero_le _) ?_
  · simp [St.keep, get_mk, look, ren, renL, renR, renB, renO, keepρ, pos, hget, renR_ints, renR_rgL, S3h, hV, hBk, hK]
  intro k hk _
  by_cases hkn : k < xs.length
  · refine hh.down k hkn _ (fun h => by simp at h) (fun _ τ h1 ⟨ids, h2, h3, h4⟩ => ?_)
    exact ⟨⟨hkn, trivial⟩, ids, Nat.zero_le _, h2, h3, h4⟩
  · have hke : k = xs.length := by omega
    subst hke
    refine he.down _ fun τ h1 => ?_
    simp only [blockK, thenK, reduceIte]
    clear hh he
    have hne : hK xs xs.length ≠ [] := fun h => by have := hK_len xs xs.length; rw [h] at this; simp at this; omega
    refine T_onlyU [2, 3, 7, 8, 11] h1 ?_
    simp only [hV, hBk, if_neg hne, hK_len]
    exact hN.down
set_option maxHeartbeats 8000000 in
theorem k3Bx {hn pn en : Bool} {xs : List Int} {ps es B : List (Int × Int)} {pk sl : Int} {t : ACode} (hxl : 1 ≤ xs.length ∧ xs.length ≤ 8) (hg : ∀ k, gH (xs.getD k 0)) {k0 : Nat} (h0 : k0 < xs.length) (hbad : ¬gH (xs.getD k0 0 - xs.getD 0 0)) (hok : ∀ k, k < k0 → gH (xs.getD k 0 - xs.getD 0 0)) (K : Exit → St → Prop) (hK0 : ∀ τ : St, τ.get 4 = bl true → K .ret τ) : T none Try.prog muts 175 0 (c3r1 t) (S3B hn pn en xs ps es pk sl B) K := by
  have hh := PLift.up (fun k (hk : k < k0) K hX hN => k3h (hn := hn) (pn := pn) (en := en) (ps := ps) (es := es) (B := B) (pk := pk) (sl := sl) (k := k) (l := hK xs k) (Bo := true) hxl hg (by omega) (hK_len xs k) (by
    have h10 := k10 (xs.getD k 0 - xs.getD 0 0) (-100000) 100000
    have := hok k hk
    unfold gH at this
    rw [decide_eq_true this.1, decide_eq_true this.2] at h10
    exact h10) K hX hN)
  have hb := PLift.up (fun K hX hN => k3h (hn := hn) (pn := pn) (en := en) (ps := ps) (es := es) (B := B) (pk := pk) (sl := sl) (k := k0) (l := hK xs k0) (Bo := false) hxl hg h0 (hK_len xs k0) (by
    have h10 := k10 (xs.getD k0 0 - xs.getD 0 0) (-100000) 100000
    have e : (decide (-100000 ≤ xs.getD k0 0 - xs.getD 0 0) && decide (xs.getD k0 0 - xs.getD 0 0 ≤ 100000)) = false := by
      unfold gH at hbad
      simpa using hbad
    rw [e] at h10
    exact h10) K hX hN)
  replace hK0 := PLift.up hK0
  clear hok hg hbad
  unfold c3r1
  repeat' (first | ((with_reducible refine T_calm ?_ ?_); rfl) | (with_reducible first | refine T_seq ?_ | refine T_reg ?_ | refine T_draw ?_ | refine T_skip ?_ | refine T_exit ?_ | refine T_block ?_ | refine T_cond_t rfl ?_ | refine T_cond_f rfl ?_ | refine wdW_cons rfl ?_ | refine T_ret ?_ | refine wif_intro ?_ (fun hc => ?_) | refine And.intro ?_ ?_ | intro hc) | simp (maxSteps := 4000000) only [wops_nil, wops_cons, wstep_none, wrun_mv, wop, aop, ev, put_some, writes, ores_some, thenK, List.length_cons, List.length_nil, List.append_nil, List.replicate_zero, Nat.reduceAdd, Nat.zero_add, *] | simp (disch := omega) only [getD_ints, wrapI] | omega)
  refine T_for_keep [2, 3, 7, 8, 11, 12] (fun k => S3h hn pn en xs ps es pk sl B k (hK xs k)) k0 (fun _ => True) 0 ⟨[0, 1, 2], by simp, by simp, by simp, ?_⟩ trivial (Nat.zero_le _) ?_
  · simp [St.keep, get_mk, look, ren, renL, renR, renB, renO, keepρ, pos, hget, renR_ints, renR_rgL, S3h, hV, hBk, hK]
  intro k hk _
  by_cases hkn : k < k0
  · refine hh.down k hkn _ (fun h => by simp at h) (fun _ τ h1 ⟨ids, h2, h3, h4⟩ => ?_)
    exact ⟨⟨hkn, trivial⟩, ids, Nat.zero_le _, h2, h3, h4⟩
  · have hke : k = k0 := by omega
    subst hke
    refine hb.down _ (fun _ τ h1 => ?_) (fun h => by simp at h)
    simp only [blockK, thenK]
    exact hK0.down _ h1
end Go.Abs
