import Derived.Test.YtookdheldelepaaGreatDoorKP7x
set_option linter.all false
set_option linter.unusedVariables false
set_option linter.unusedSimpArgs false
set_option linter.unusedSectionVars false
namespace Go.Abs
open Go.Proofs
theorem T_only {P : Program} {muts : List FuncId} {N b : Nat} {σ S : St} {K : Exit → St → Prop} {md : Option Nat} {ac : ACode} (ts : List Nat) (h : σ.only ts = S) (hT : T md P muts N b ac S K) : T md P muts N b ac σ K :=
  T_weak (weak_only ts) (by rw [h]; exact hT)
set_option maxHeartbeats 8000000 in
theorem k11z : Fn Tryz.prog 11 [.sl true 0 []] (.tup [i64 0, i64 10]) [] := by
  refine fn_of e11 ?_
  unfold c11
  repeat' (first | ((with_reducible refine T_calm ?_ ?_); rfl) | (with_reducible first | refine T_seq ?_ | refine T_reg ?_ | refine T_draw ?_ | refine T_skip ?_ | refine T_exit ?_ | refine T_block ?_ | refine T_cond_t rfl ?_ | refine T_cond_f rfl ?_ | refine wdW_cons rfl ?_ | refine T_ret ?_ | refine leave_of (.inr rfl) _ rfl ?_ | refine leave_of (.inl rfl) _ rfl ?_ | refine wif_intro ?_ (fun hc => ?_) | refine And.intro ?_ ?_ | intro hc) | simp (maxSteps := 4000000) only [wops_nil, wops_cons, wstep_none, wrun_mv, wrun_bin, wrun_len, get_mk, wop, aop, ev, look, put_some, writes, ores_some, ores_map, ores_bind, binV, thenK, intV, lenOf, hget, tupOf, List.map_cons, List.map_nil, List.length_nil, List.append_nil, List.replicate_zero, List.zipIdx_cons, List.zipIdx_nil, Option.pure_def, Option.bind_eq_bind, Option.map_some, if_true, if_false, Nat.reduceEqDiff, Nat.zero_add, reduceCtorEq, eq_self, ren, renL, *] | simp (disch := omega) only [getD_ints, wrapI] | omega)
  all_goals first | rfl
theorem ck11 {M : List Ln} (hl : M.length < 1000000) (hsz : ∀ x ∈ M, x.1.size < 1000000 ∧ x.2.length < 1000000) : Fn Tryz.prog 11 [stz M] (.tup [i64 (sN (M.map skz)), i64 (stE M)]) [] := by
  refine Fn.stz1 (k11 false (M.map skz) (by simpa using hl) fun k hk => ?_)
  rw [List.length_map] at hk
  have e : (M.map skz).getD k sk0 = skz (M[k]) := by
    rw [List.getD_eq_getElem?_getD, List.getElem?_map, List.getElem?_eq_getElem hk]; rfl
  rw [e]
  exact hsz _ (List.getElem_mem hk)
theorem lnsOf_sz {P : List ByteArray} {M : List Ln} {b : Nat} (h : lnsOf P = some M) (hP : ∀ p ∈ P, p.size ≤ b) : ∀ x ∈ M, x.1.size ≤ b ∧ x.2.length ≤ b + 1 := by
  induction P generalizing M with
  | nil => unfold lnsOf at h; obtain rfl := Option.some.inj h; simp
  | cons p r ih =>
    unfold lnsOf at h
    cases h1 : rdS (pieces p ⟨#[32]⟩) with
    | none => rw [h1] at h; simp at h
    | some x =>
      cases h2 : lnsOf r with
      | none => rw [h1, h2] at h; simp at h
      | some l =>
        rw [h1, h2] at h
        obtain rfl := Option.some.inj h
        intro y hy
        rcases List.mem_cons.1 hy with rfl | hy
        · have hp := hP p (by simp)
          have hlen := pieces_len p 32
          unfold rdS at h1
          split at h1
          · rename_i q0 q1 ws hq
            split at h1
            · cases hr : rdAll ws with
              | none => rw [hr] at h1; simp at h1
              | some l =>
                rw [hr] at h1
                simp only [Option.map_some, Option.some.injEq] at h1
                subst h1
                have h3 := (rdAll_get hr).1
                have h4 := pieces_le (s := p) (w := q1) (c := 32) (by rw [hq]; simp)
                rw [hq] at hlen
                simp at hlen
                exact ⟨by dsimp only; omega, by dsimp only; omega⟩
            · simp at h1
          · simp at h1
        · exact ih h2 (fun q hq => hP q (by simp [hq])) y hy
theorem lnsOf_get {P : List ByteArray} {M : List Ln} (h : lnsOf P = some M) : ∀ (j : Nat) (w : ByteArray), P[j]? = some w → rdS (pieces w ⟨#[32]⟩) ≠ none := by
  induction P generalizing M with
  | nil => intro j w hj; simp at hj
  | cons p r ih =>
    unfold lnsOf at h
    cases h1 : rdS (pieces p ⟨#[32]⟩) with
    | none => rw [h1] at h; simp at h
    | some x =>
      cases h2 : lnsOf r with
      | none => rw [h1, h2] at h; simp at h
      | some l =>
        intro j w hj
        cases j with
        | zero => simp at hj; subst hj; rw [h1]; simp
        | succ j => exact ih h2 j w (by simpa using hj)
theorem no_bad {P : List ByteArray} {M : List Ln} {n k : Nat} {w : ByteArray} (h : lnsOf (P.take n) = some M) (hk : k < n) (hw : P[k]? = some w) (hn : rdS (pieces w ⟨#[32]⟩) = none) : False :=
  lnsOf_get h k w (by rw [List.getElem?_take, if_pos hk]; exact hw) hn
theorem PR.e_bad {P : List ByteArray} {ws : List AV} (hr : PR P ws) {k : Nat} {M : List Ln} {w : ByteArray} (hk : k + 1 < P.length) (hM : lnsOf (P.take k) = some M) (hw : P[k]? = some w) (hn : rdS (pieces w ⟨#[32]⟩) = none) : ws = [.sl true 0 [], i64 ((k : Int) + 1), i64 7] := by
  cases hr with
  | bad hk' hM' hw' hn' =>
    rename_i k' _ _
    rcases Nat.lt_trichotomy k k' with h | h | h
    · exact (no_bad hM' h hw hn).elim
    · subst h; rfl
    · exact (no_bad hM h hw' hn').elim
  | cut hM' _ _ => exact (no_bad hM' (by omega) hw hn).elim
  | no hM' _ _ _ => exact (no_bad hM' (by omega) hw hn).elim
  | yes hM' _ _ _ => exact (no_bad hM' (by omega) hw hn).elim
theorem PR.e_cut {P : List ByteArray} {ws : List AV} (hr : PR P ws) {M : List Ln} {w : ByteArray} (hM : lnsOf (P.take (P.length - 1)) = some M) (hw : P[P.length - 1]? = some w) (hz : w.size ≠ 0) : ws = [.sl true 0 [], i64 (P.length : Nat), i64 7] := by
  cases hr with
  | bad hk' hM' hw' hn' => exact (no_bad hM (by omega) hw' hn').elim
  | cut _ _ _ => rfl
  | no _ hw' hz' _ => rw [hw] at hw'; obtain rfl := Option.some.inj hw'; exact absurd hz' hz
  | yes _ hw' hz' _ => rw [hw] at hw'; obtain rfl := Option.some.inj hw'; exact absurd hz' hz
theorem PR.e_fin {P : List ByteArray} {ws : List AV} (hr : PR P ws) {M : List Ln} {w : ByteArray} (hM : lnsOf (P.take (P.length - 1)) = some M) (hw : P[P.length - 1]? = some w) (hz : w.size = 0) : ws = if stE M = 0 then [stz M, i64 0, i64 0] else [.sl true 0 [], i64 0, i64 (stE M)] := by
  cases hr with
  | bad hk' hM' hw' hn' => exact (no_bad hM (by omega) hw' hn').elim
  | cut _ hw' hz' => rw [hw] at hw'; obtain rfl := Option.some.inj hw'; exact absurd hz hz'
  | no hM' _ _ he => rw [hM] at hM'; obtain rfl := Option.some.inj hM'; rw [if_neg he]
  | yes hM' _ _ he => rw [hM] at hM'; obtain rfl := Option.some.inj hM'; rw [if_pos he]
set_option maxHeartbeats 8000000 in
theorem k18 {s : ByteArray} (hs : s.size ≤ 1000) {ws : List AV} (hr : PR (pieces s ⟨#[10]⟩) ws) : Gv 6 Tryz.prog 18 [strV s] ws := by
  have h50 : Fn Tryz.prog 50 [strV s, .lit (.int .u8 10)] _ _ := k50 (s := s) 10 hs
  have hP := pieces_ne s 10
  have hsz : ∀ w ∈ pieces s ⟨#[10]⟩, w.size ≤ 1000 := fun w hw => by have := pieces_le hw; omega
  have hPl := pieces_len s 10
  generalize pieces s ⟨#[10]⟩ = P at *
  refine gv_of e18 ?_
  have hd0 : decide ((s.size : Int) > 60000) = false := decide_eq_false (by omega)
  have hpos := List.length_pos_iff.2 hP
  have hr' := PLift.up hr
  have hsz' := PLift.up hsz
  clear hr hsz
  unfold c18
  repeat' (first | (with_reducible first | refine T_seq ?_ | refine T_reg ?_ | refine T_skip ?_ | refine T_exit ?_ | refine T_block ?_ | refine T_cond_t rfl ?_ | refine T_cond_f rfl ?_ | (show wcall _ false (.lit (.func (.func 50) _ _)) _ _ _ _; refine wcall_fn (h50) rfl (by simp [plainL, plain]) ?_) | refine T_ret ?_ | refine leave_of (.inr rfl) _ rfl ?_ | refine leave_of (.inl rfl) _ rfl ?_ | refine wif_intro ?_ (fun hc => ?_) | refine And.intro ?_ ?_ | intro hc) | simp (maxSteps := 4000000) only [wops_nil, wops_cons, wstep_none, wrun_call, wrun_mv, wrun_bin, wrun_lenS, wop, aop, ev, look, put_some, writes, ores_some, binV, thenK, intV, List.map_cons, List.map_nil, List.length_cons, List.length_nil, List.nil_append, List.append_nil, List.replicate_zero, List.zipIdx_cons, List.zipIdx_nil, Option.map_some, if_true, if_false, Nat.reduceEqDiff, Nat.add_zero, Nat.zero_add, reduceCtorEq, eq_self, freeze, lidsL, lids, List.flatMap_cons, List.flatMap_nil, ren, renB, shiftρ, renR_txt, *] | simp (disch := omega) only [getD_ints, wrapI] | (with_reducible show wcall _ false (.lit (.func (.func 50) _ _)) _ _ _ _; refine wcall_fn (h50) ?_ ?_ ?_; (next => simp [rfyL, rfy, hget, ints, take_rfy, renR_txt]); (next => simp [plainL, plain, plainR, renR_txt])) | omega)
  refine k18loop (by omega) hP hsz'.down (H := [.cells true false 1 (P.map fun x => [strV x])]) ⟨rfl, fun h => absurd rfl h⟩ ?_ _ ?_ ?_
  · simp [St.only, get_mk, look, ouV]
  · intro k M w τ hk hM hw hn h2 h3 h4
    obtain ⟨slots, H⟩ := τ
    dsimp only at h2 h3 h4
    have e := hr'.down.e_bad hk hM hw hn
    subst e
    show leaveG 6 _ _ .ret _
    exact leave_g (.inr rfl) [.sl true 0 [], i64 ((k : Int) + 1), i64 7] (by simp [resL, resAV, St.get, h2, h3, h4]) rfl rfl
  · intro M io τ hM hJ hsl
    obtain ⟨w, hw⟩ : ∃ w, P[P.length - 1]? = some w := ⟨P[P.length - 1], List.getElem?_eq_getElem (by omega)⟩
    obtain ⟨slots, H⟩ := τ
    dsimp only at hJ
    have hb := hJ.l
    have hg := getD_txt hw
    have hll : (P.map fun x => [strV x]).length = P.length := List.length_map _
    have hsub : IntKind.i64.wrap ((P.length : Int) - 1) = (P.length : Int) - 1 := wrapI (by omega) (by omega)
    have tn : ((P.length : Int) - 1).toNat = P.length - 1 := by omega
    have hMl : M.length = P.length - 1 := by rw [lnsOf_len hM, List.length_take]; omega
    have hne : (w.toList == (⟨#[]⟩ : ByteArray).toList) = decide (w.size = 0) := by
      rw [ByteArray.toList_eq, ByteArray.toList_eq]
      show (w.data.toList == []) = _
      have h1 := ba_len w
      cases hb : w.data.toList with
      | nil => rw [hb] at h1; simp at h1; rw [← h1]; rfl
      | cons c r => rw [hb] at h1; simp at h1; rw [← h1]; simp
    have hc1 : decide (0 ≤ (P.length : Int) - 1) = true := decide_eq_true (by omega)
    refine T_only [5, 6, 7] (S := ⟨SLp P (P.length - 1) io, H⟩) ?_ ?_
    · rw [← hsl]; rfl
    by_cases hz : w.size = 0
    · have e := hr'.down.e_fin hM hw hz
      have hne0 : (w.toList == (⟨#[]⟩ : ByteArray).toList) = true := by rw [hne]; exact decide_eq_true hz
      have hMsz := lnsOf_sz hM (b := 1000) (fun p hp => hsz'.down p (List.mem_of_mem_take hp))
      by_cases hm : M = []
      · subst hm
        have hn1 : P.length - 1 = 0 := by simpa using hMl.symm
        have hs10 : stE [] = 10 := rfl
        rw [hs10, if_neg (by decide)] at e
        have h11 := k11z
        subst e
        clear hr' hsz' hJ hne hM hz hMsz hs10
        simp only [SLp, hn1, ouV, if_true]
        rw [hn1] at hw hg
        have hc0 : ((P.length : Int) - 1) = 0 := by omega
        rw [hc0] at hsub tn hc1
        generalize hn : P.length = n at *
        repeat' (first | (with_reducible first | refine T_seq ?_ | refine T_reg ?_ | refine T_skip ?_ | refine T_exit ?_ | refine T_block ?_ | refine T_cond_t rfl ?_ | refine T_cond_f rfl ?_ | (show wcall _ false (.lit (.func (.func 11) _ _)) _ _ _ _; refine wcall_fn (h11) rfl (by simp [plainL, plain, plainR]) ?_) | refine T_ret ?_ | refine wif_intro ?_ (fun hc => ?_) | refine And.intro ?_ ?_ | intro hc) | simp (maxSteps := 4000000) only [wops_nil, wops_cons, wstep_none, wrun_call, wrun_mv, wrun_bin, wrun_ext, wrun_load, wrun_iaddrS, wrun_len, wop, aop, ev, look, put_some, writes, ores_some, ores_ite_none, ores_map, ores_bind, binV, thenK, intV, lenOf, value, cut, hget, mkAgg, List.map_cons, List.map_nil, List.length_cons, List.length_nil, List.getElem?_cons_zero, List.getElem?_cons_succ, List.take_succ_cons, List.take_nil, List.drop_zero, List.append_nil, List.replicate_zero, Option.pure_def, Option.bind_eq_bind, Option.getD_some, Option.map_some, if_true, if_false, Nat.reduceEqDiff, Nat.add_zero, Nat.zero_add, reduceCtorEq, Bool.not_true, Bool.false_eq_true, eq_self, and_true, freeze, lidsL, lids, List.flatMap_cons, List.flatMap_nil, ren, renL, *] | simp (disch := omega) only [getD_ints, wrapI] | (with_reducible show wcall _ false (.lit (.func (.func 11) _ _)) _ _ _ _; refine wcall_fn (h11) ?_ ?_ ?_; (next => simp [rfyL, rfy, hget, ints, take_rfy, hll, tn, hn, nt0]); (next => simp [plainL, plain, plainR, hll, tn, hn, nt0])) | omega)
        all_goals first | exact leave_g (.inr rfl) [.sl true 0 [], i64 0, i64 10] rfl rfl rfl
      · obtain ⟨E, hE, hS⟩ := hJ.o hm
        have hrd := hS.rds hE
        have h11 := ck11 (M := M) (by omega) (fun x hx => by have := hMsz x hx; omega)
        have hk0 : P.length - 1 ≠ 0 := by intro h; rw [h] at hMl; exact hm (List.eq_nil_of_length_eq_zero hMl)
        rw [hMl] at hrd
        have hpl : plainL [stz M] = true := by simp only [plainL, plain, plainR_rz]; rfl
        clear hr' hsz' hJ hne hM hz hMsz hE hS
        simp only [SLp, ouV, hk0, if_false]
        replace hrd := And.intro hrd trivial
        replace hm := And.intro hm trivial
        by_cases he : stE M = 0
        · rw [if_pos he] at e
          subst e
          rw [he] at h11
          replace he := And.intro he trivial
          generalize hn : P.length = n at *
          repeat' (first | (with_reducible first | refine T_seq ?_ | refine T_reg ?_ | refine T_skip ?_ | refine T_exit ?_ | refine T_block ?_ | refine T_cond_t rfl ?_ | refine T_cond_f rfl ?_ | refine T_ret ?_ | refine wif_intro ?_ (fun hc => ?_) | refine And.intro ?_ ?_ | intro hc) | simp (maxSteps := 4000000) only [wops_nil, wops_cons, wstep_none, wrun_call, wrun_mv, wrun_bin, wrun_load, wrun_iaddrS, wrun_len, wop, aop, ev, look, put_some, writes, ores_some, ores_ite_none, ores_map, ores_bind, binV, thenK, intV, lenOf, value, cut, hget, mkAgg, List.map_cons, List.map_nil, List.length_cons, List.length_nil, List.take_succ_cons, List.take_nil, List.drop_zero, List.append_nil, List.replicate_zero, Option.pure_def, Option.bind_eq_bind, Option.getD_some, Option.map_some, if_true, if_false, Nat.reduceEqDiff, Nat.zero_add, reduceCtorEq, Bool.not_true, Bool.false_eq_true, eq_self, and_true, *] | simp (disch := omega) only [getD_ints, wrapI] | omega)
          refine wcall_E0 h11 rfl (by simp only [rfyL, List.map_cons, List.map_nil, hrd.1.six]) hpl ?_
          intro H2 hx
          have hrd2 := And.intro (hrd.1.ext hx) trivial
          clear hx hrd h11
          repeat' (first | (with_reducible first | refine T_seq ?_ | refine T_reg ?_ | refine T_skip ?_ | refine T_exit ?_ | refine T_block ?_ | refine T_cond_t rfl ?_ | refine T_cond_f rfl ?_ | refine T_ret ?_ | refine wif_intro ?_ (fun hc => ?_) | refine And.intro ?_ ?_ | intro hc) | simp (maxSteps := 4000000) only [wops_nil, wops_cons, wstep_none, wrun_mv, wrun_bin, wrun_ext, wop, aop, ev, look, put_some, writes, ores_some, binV, thenK, List.getElem?_cons_zero, List.getElem?_cons_succ, List.append_nil, List.replicate_zero, Option.map_some, if_true, if_false, Nat.reduceEqDiff, reduceCtorEq, eq_self, *] | simp (disch := omega) only [getD_ints, wrapI] | omega)
          exact leave_g (.inr rfl) [.lsl io 0 (n - 1), i64 0, i64 0] rfl (by simp only [List.map_cons, List.map_nil, hrd2.1.six]; rfl) (by simp only [plainL, plain, plainR_rz]; rfl)
        · rw [if_neg he] at e
          subst e
          have hd1 : (stE M != 0) = true := by simp only [bne_iff_ne]; exact he
          generalize stE M = em at *
          replace he := And.intro he trivial
          generalize hn : P.length = n at *
          repeat' (first | (with_reducible first | refine T_seq ?_ | refine T_reg ?_ | refine T_skip ?_ | refine T_exit ?_ | refine T_block ?_ | refine T_cond_t rfl ?_ | refine T_cond_f rfl ?_ | refine T_ret ?_ | refine wif_intro ?_ (fun hc => ?_) | refine And.intro ?_ ?_ | intro hc) | simp (maxSteps := 4000000) only [wops_nil, wops_cons, wstep_none, wrun_call, wrun_mv, wrun_bin, wrun_load, wrun_iaddrS, wrun_len, wop, aop, ev, look, put_some, writes, ores_some, ores_ite_none, ores_map, ores_bind, binV, thenK, intV, lenOf, value, cut, hget, mkAgg, List.map_cons, List.map_nil, List.length_cons, List.length_nil, List.take_succ_cons, List.take_nil, List.drop_zero, List.append_nil, List.replicate_zero, Option.pure_def, Option.bind_eq_bind, Option.getD_some, Option.map_some, if_true, if_false, Nat.reduceEqDiff, Nat.zero_add, reduceCtorEq, Bool.not_true, Bool.false_eq_true, eq_self, and_true, *] | simp (disch := omega) only [getD_ints, wrapI] | omega)
          refine wcall_E0 h11 rfl (by simp only [rfyL, List.map_cons, List.map_nil, hrd.1.six]) hpl ?_
          intro H2 hx
          clear hx hrd h11
          repeat' (first | (with_reducible first | refine T_seq ?_ | refine T_reg ?_ | refine T_skip ?_ | refine T_exit ?_ | refine T_block ?_ | refine T_cond_t rfl ?_ | refine T_cond_f rfl ?_ | refine T_ret ?_ | refine wif_intro ?_ (fun hc => ?_) | refine And.intro ?_ ?_ | intro hc) | simp (maxSteps := 4000000) only [wops_nil, wops_cons, wstep_none, wrun_mv, wrun_bin, wrun_ext, wop, aop, ev, look, put_some, writes, ores_some, binV, thenK, List.getElem?_cons_zero, List.getElem?_cons_succ, List.append_nil, List.replicate_zero, Option.map_some, if_true, if_false, Nat.reduceEqDiff, reduceCtorEq, eq_self, *] | simp (disch := omega) only [getD_ints, wrapI] | omega)
          exact leave_g (.inr rfl) [.sl true 0 [], i64 0, i64 em] rfl rfl rfl
    · have e := hr'.down.e_cut hM hw hz
      have hne0 : (w.toList == (⟨#[]⟩ : ByteArray).toList) = false := by rw [hne]; exact decide_eq_false hz
      subst e
      clear hr' hsz' hJ hne hM hz
      simp only [SLp]
      generalize ouV io (P.length - 1) = ov at *
      generalize hn : P.length = n at *
      repeat' (first | (with_reducible first | refine T_seq ?_ | refine T_reg ?_ | refine T_skip ?_ | refine T_exit ?_ | refine T_block ?_ | refine T_cond_t rfl ?_ | refine T_cond_f rfl ?_ | refine T_ret ?_ | refine wif_intro ?_ (fun hc => ?_) | refine And.intro ?_ ?_ | intro hc) | simp (maxSteps := 4000000) only [wops_nil, wops_cons, wstep_none, wrun_mv, wrun_bin, wrun_load, wrun_iaddrS, wrun_len, wop, aop, ev, look, put_some, writes, ores_some, ores_ite_none, ores_map, ores_bind, binV, thenK, intV, lenOf, value, cut, hget, mkAgg, List.length_cons, List.length_nil, List.take_succ_cons, List.take_nil, List.drop_zero, List.append_nil, List.replicate_zero, Option.pure_def, Option.bind_eq_bind, Option.getD_some, Option.map_some, if_true, if_false, Nat.reduceEqDiff, Nat.zero_add, reduceCtorEq, Bool.not_false, Bool.false_eq_true, eq_self, and_true, *] | simp (disch := omega) only [getD_ints, wrapI] | omega)
      all_goals first | exact leave_g (.inr rfl) [.sl true 0 [], i64 n, i64 7] rfl rfl rfl
end Go.Abs
