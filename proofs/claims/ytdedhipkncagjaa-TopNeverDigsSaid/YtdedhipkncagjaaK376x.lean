import Derived.Test.YtdedhipkncagjaaK316x
set_option linter.all false
set_option linter.unusedVariables false
set_option linter.unusedSimpArgs false
set_option linter.unusedSectionVars false
namespace Go.Abs
open Go.Proofs
/-! checks one after the other: memory only grows -/
def App (H H' : List Blk) : Prop := ∃ X, H' = H ++ X
theorem App.refl (H : List Blk) : App H H := ⟨[], by simp⟩
theorem App.trans {A B C : List Blk} (h1 : App A B) (h2 : App B C) : App A C := by
  obtain ⟨X, rfl⟩ := h1
  obtain ⟨Y, rfl⟩ := h2
  exact ⟨X ++ Y, by simp⟩
theorem App.app (H X : List Blk) : App H (H ++ X) := ⟨X, rfl⟩
theorem App.at_ {H H' : List Blk} (h : App H H') {i : Nat} {b : Blk} (hb : H[i]? = some b) : H'[i]? = some b := by
  obtain ⟨X, rfl⟩ := h
  exact at_in hb X
theorem App.cell {H H' : List Blk} (hx : App H H') {id : Nat} {o n : Bool} {sz : Nat} {els : List (List AV)} (h : H[id]? = some (.cells o n sz els)) : ∃ o', H'[id]? = some (.cells o' n sz els) := ⟨o, hx.at_ h⟩
theorem App.ext {H H' : List Blk} (h : App H H') : Ext H H' := by
  obtain ⟨X, rfl⟩ := h
  exact Ext.app H X
def ClB (g : FuncId) (cap : List AV) (H : List Blk) (e : Int) : Prop := ∀ H', App H H' → ACall Try.prog g cap H' fun r H'' => r = i64 e ∧ App H' H''
theorem ClB.ext {g : FuncId} {cap : List AV} {H H2 : List Blk} {e : Int} (h : ClB g cap H e) (hx : App H H2) : ClB g cap H2 e := fun H' h' => h H' (hx.trans h')
set_option maxHeartbeats 8000000 in
theorem k38B {H : List Blk} {id n : Nat} {o nl : Bool} {els : List (List AV)} (hH : H[id]? = some (.cells o nl 1 els)) (hlen : els.length = n) (hn : n < 1000000) (es : Nat → Int)
    (hc0 : ∀ k, k < n → fe es k = 0 → ∃ g cap, els.getD k [] = [.clo (.func g) [] cap] ∧ ClB g cap H (es k)) : ACall Try.prog 38 [.lsl id 0 n] H fun r H' => r = i64 (fe es n) ∧ App H H' := by
  refine envOf_all e38 ?_
  have hstop : ∀ k, k < n → fe es k = 0 → es k ≠ 0 → fe es n = es k := fun k hk h1 h2 => fe_stop h1 h2 _ hk
  have hend : fe es n = 0 → fe es n = 0 := fun h => h
  have hRe : ∃ R, R = fe es n := ⟨_, rfl⟩
  obtain ⟨R, hRe⟩ := hRe
  rw [← hRe] at hstop hend ⊢
  replace hstop := PLift.up hstop
  replace hRe := PLift.up hRe
  replace hc0 := PLift.up hc0
  unfold c38
  repeat' (first | (with_reducible first | refine T_seq ?_ | refine T_reg ?_ | refine T_skip ?_ | refine T_exit ?_ | refine T_block ?_ | refine T_cond_t rfl ?_ | refine T_cond_f rfl ?_ | refine T_ret ?_ | refine wif_intro ?_ (fun hc => ?_) | refine And.intro ?_ ?_ | intro hc) | simp (maxSteps := 4000000) only [wops_nil, wops_cons, wstep_none, wrun_mv, wrun_len, wop, aop, ev, look, put_some, writes, ores_some, ores_map, ores_bind, thenK, intV, lenOf, hget, List.map_cons, List.map_nil, List.append_nil, List.replicate_zero, List.zipIdx_cons, List.zipIdx_nil, Option.pure_def, Option.bind_eq_bind, Option.getD_some, if_true, if_false, Nat.reduceEqDiff, Nat.zero_add, reduceCtorEq, eq_self, *] | simp (disch := omega) only [getD_ints, wrapI] | omega)
  refine T_forP [6, 7, 8] (fun k => [(6, .lsl id 0 n), (7, i64 n), (8, i64 k)]) n (fun k H' => App H H' ∧ fe es k = 0) 0 ?_ ⟨App.refl H, rfl⟩ (Nat.zero_le _) ?_
  · simp [St.only, get_mk, look]
  intro k H' hk ⟨hx, hI⟩
  obtain ⟨o', h0⟩ := hx.cell hH
  by_cases hkn : k < n
  · obtain ⟨g, cap, hg, hcl⟩ := hc0.down k hkn hI
    have hcall := hcl H' hx
    have hst := PLift.up (hstop.down k hkn hI)
    have hnx := PLift.up (fun h => fe_next (e := es) hI h)
    have hx9 := PLift.up hx
    replace hcall := PLift.up hcall
    have hlk : k < els.length := by omega
    clear hcl hc0 hstop hI hx hRe hend hH
    unfold c38l0
    repeat' (first | (with_reducible first | refine T_seq ?_ | refine T_reg ?_ | refine T_skip ?_ | refine T_exit ?_ | refine T_block ?_ | refine T_cond_t rfl ?_ | refine T_cond_f rfl ?_ | ((first | refine T_cond rfl (fun hc => ?_) (fun hc => ?_) | refine wguard_split (fun hc => ?_) (fun hc => ?_)) <;> have hd := hc <;> (try simp (disch := omega) only [wrapI] at hd) <;> have hs := hd <;> (try simp only [decide_eq_true_eq, decide_eq_false_iff_not, Int.not_lt] at hd) <;> (try simp at hs)) | refine T_ret ?_ | refine wif_intro ?_ (fun hc => ?_) | refine And.intro ?_ ?_ | intro hc) | simp (maxSteps := 4000000) only [wops_nil, wops_cons, wstep_none, wrun_call, wrun_mv, wrun_bin, wrun_load, wrun_iaddrS, wop, aop, ev, look, put_some, writes, ores_some, ores_ite_none, binV, thenK, blockK, value, cut, hget, mkAgg, List.map_nil, List.length_cons, List.length_nil, List.take_succ_cons, List.take_nil, List.drop_zero, List.append_nil, List.replicate_zero, Option.getD_some, Option.map_some, if_true, if_false, Nat.reduceEqDiff, Nat.zero_add, reduceCtorEq, Bool.false_eq_true, eq_self, true_and, and_true, and_self, decide_true, Int.toNat_natCast, *] | simp (disch := omega) only [getD_ints, wrapI] | omega)
    refine wcall_clo (hcall.down.mono ?_)
    rintro r H'' ⟨rfl, hx2⟩
    clear hcall
    by_cases he : es k = 0
    · have hn0 := PLift.up (hnx.down he)
      have hxx := PLift.up (hx9.down.trans hx2)
      rw [he]
      clear hst hnx hx9 hx2 he h0
      repeat' (first | (with_reducible first | refine T_seq ?_ | refine T_reg ?_ | refine T_skip ?_ | refine T_exit ?_ | refine T_block ?_ | refine T_cond_t rfl ?_ | refine T_cond_f rfl ?_ | refine T_ret ?_ | refine wif_intro ?_ (fun hc => ?_) | refine And.intro ?_ ?_ | intro hc) | simp (maxSteps := 4000000) only [wops_nil, wops_cons, wstep_none, wrun_mv, wrun_bin, wop, aop, ev, look, put_some, writes, ores_some, binV, thenK, blockK, List.append_nil, List.replicate_zero, Option.map_some, if_true, if_false, Nat.reduceEqDiff, reduceCtorEq, eq_self, *] | simp (disch := omega) only [wrapI] | omega)
      all_goals first | exact hn0.down | exact hxx.down | exact ⟨hxx.down, hn0.down⟩ | (simp [St.only, get_mk, look]; done)
    · have hr := hst.down he
      have hxx := PLift.up (hx9.down.trans hx2)
      have hne : (es k != 0) = true := by simp only [bne_iff_ne]; exact he
      subst hr
      clear hst hnx hx9 hx2 he h0
      repeat' (first | (with_reducible first | refine T_seq ?_ | refine T_reg ?_ | refine T_skip ?_ | refine T_exit ?_ | refine T_block ?_ | refine T_cond_t rfl ?_ | refine T_cond_f rfl ?_ | refine T_ret ?_ | refine wif_intro ?_ (fun hc => ?_) | refine And.intro ?_ ?_ | intro hc) | simp (maxSteps := 4000000) only [wops_nil, wops_cons, wstep_none, wrun_mv, wrun_bin, wop, aop, ev, look, put_some, writes, ores_some, binV, thenK, blockK, List.append_nil, List.replicate_zero, Option.map_some, if_true, if_false, Nat.reduceEqDiff, reduceCtorEq, eq_self, *] | simp (disch := omega) only [getD_ints, wrapI] | omega)
      all_goals first | exact ⟨_, rfl, rfl, hxx.down⟩
  · have hke : k = n := by omega
    subst hke
    have hr : R = 0 := hRe.down.trans hI
    subst hr
    have hx9 := PLift.up hx
    clear hc0 hstop hI hx hRe hend h0 hH
    unfold c38l0
    repeat' (first | (with_reducible first | refine T_seq ?_ | refine T_reg ?_ | refine T_skip ?_ | refine T_exit ?_ | refine T_block ?_ | refine T_cond_t rfl ?_ | refine T_cond_f rfl ?_ | ((first | refine T_cond rfl (fun hc => ?_) (fun hc => ?_) | refine wguard_split (fun hc => ?_) (fun hc => ?_)) <;> have hd := hc <;> (try simp (disch := omega) only [wrapI] at hd) <;> have hs := hd <;> (try simp only [decide_eq_true_eq, decide_eq_false_iff_not, Int.not_lt] at hd) <;> (try simp at hs)) | refine T_ret ?_ | refine wif_intro ?_ (fun hc => ?_) | refine And.intro ?_ ?_ | intro hc) | simp (maxSteps := 4000000) only [wops_nil, wops_cons, wstep_none, wrun_mv, wrun_bin, wop, aop, ev, look, put_some, writes, ores_some, binV, thenK, blockK, List.append_nil, List.replicate_zero, Option.map_some, if_true, if_false, Nat.reduceEqDiff, reduceCtorEq, eq_self, false_and, Int.toNat_natCast, *] | simp (disch := omega) only [getD_ints, wrapI] | omega)
    all_goals first | exact ⟨_, rfl, rfl, hx9.down⟩
set_option maxHeartbeats 8000000 in
theorem k62B {H : List Blk} {a : Nat} {o n : Bool} {b : Bool} {m : Nat} {E : List (List AV)} {x e : Int} (hE : plainR E = true) (hH : H[a]? = some (.cells o n 1 [[.sl b m E]])) (h63 : Fn Try.prog 63 [.sl b m E] (.tup [i64 x, i64 e]) []) : ClB 62 [.loc a 0 0] H e := by
  intro H0 hx0
  refine envOf_all e62 ?_
  obtain ⟨o', h0⟩ := hx0.cell hH
  have hx9 := PLift.up (App.refl H0)
  clear hx0 hH
  unfold c62
  repeat' (first | (with_reducible first | refine T_seq ?_ | refine T_reg ?_ | refine T_skip ?_ | refine T_exit ?_ | refine T_block ?_ | refine T_cond_t rfl ?_ | refine T_cond_f rfl ?_ | (show wcall _ false (.lit (.func (.func 63) _ _)) _ _ _ _; refine wcall_fn (h63) rfl (by simp [plainL, plain, hE]) ?_) | refine T_ret ?_ | refine wif_intro ?_ (fun hc => ?_) | refine And.intro ?_ ?_ | intro hc) | simp (maxSteps := 4000000) only [wops_nil, wops_cons, wstep_none, wrun_call, wrun_mv, wrun_ext, wrun_load, wop, aop, ev, look, put_some, writes, ores_some, thenK, value, cut, hget, toLits, mkAgg, List.map_cons, List.map_nil, List.length_cons, List.length_nil, List.getElem?_cons_zero, List.getElem?_cons_succ, List.take_succ_cons, List.take_nil, List.drop_zero, List.append_nil, List.replicate_zero, List.getD_cons_zero, List.zipIdx_cons, List.zipIdx_nil, Option.getD_some, Option.map_some, if_true, if_false, Nat.reduceEqDiff, Nat.zero_add, reduceCtorEq, Bool.false_eq_true, eq_self, freeze, lidsL, lids, List.flatMap_cons, List.flatMap_nil, ren, renL, *] | simp (disch := omega) only [getD_ints, wrapI] | (with_reducible show wcall _ false (.lit (.func (.func 63) _ _)) _ _ _ _; refine wcall_fn (h63) ?_ ?_ ?_; (next => simp [rfyL, rfy, hget, ints, take_rfy, Int.toNat_natCast, hE]); (next => simp [plainL, plain, plainR, Int.toNat_natCast, hE])) | omega)
  all_goals first | exact ⟨_, rfl, rfl, hx9.down⟩
set_option maxHeartbeats 8000000 in
theorem k64B {H : List Blk} {a c : Nat} {o o' nn nn' nil n1 n2 : Bool} {l : List Sk} {lo hi : List Int} (hpos : 0 < l.length) (hlw : (l.getD 0 sk0).wr.length < 1000000) (hlo : lo.length < 1000000) (hhi : hi.length < 1000000) (hH : H[a]? = some (.cells o nn 1 [[sts nil l]])) (hD : H[c]? = some (.cells o' nn' 2 [[ints n1 lo, ints n2 hi]])) : ClB 64 [.loc a 0 0, .loc c 0 0] H (dmE (l.getD 0 sk0).wr.length lo hi) := by
  intro H0 hx0
  refine envOf_all e64 ?_
  obtain ⟨o1, h0⟩ := hx0.cell hH
  obtain ⟨o2, h1⟩ := hx0.cell hD
  have hx9 := PLift.up (App.refl H0)
  have hll := skR_len l
  have g0 := skR_get (l := l) (k := 0) hpos
  have hl0 : (0 : Int) < (l.length : Int) := by omega
  have hw0 : ((l.getD 0 sk0).wr.map fun x => [i64 x]).length = (l.getD 0 sk0).wr.length := by simp
  have hlo2 : (lo.map fun x => [i64 x]).length = lo.length := by simp
  have hhi2 : (hi.map fun x => [i64 x]).length = hi.length := by simp
  clear hx0 hH hD
  have hre : dmE (l.getD 0 sk0).wr.length lo hi = if ((lo.length : Int) != ((l.getD 0 sk0).wr.length : Int) || (hi.length : Int) != ((l.getD 0 sk0).wr.length : Int)) = true then 10 else fe (dEr lo hi) (l.getD 0 sk0).wr.length := rfl
  cases a1 : ((lo.length : Int) != ((l.getD 0 sk0).wr.length : Int)) with
  | true =>
    rw [a1, Bool.true_or, if_pos rfl] at hre
    rw [hre]
    clear hre
    unfold c64
    repeat' (first | (with_reducible first | refine T_seq ?_ | refine T_reg ?_ | refine T_skip ?_ | refine T_exit ?_ | refine T_block ?_ | refine T_cond_t rfl ?_ | refine T_cond_f rfl ?_ | refine T_ret ?_ | refine wif_intro ?_ (fun hc => ?_) | refine And.intro ?_ ?_ | intro hc) | simp (maxSteps := 4000000) only [wops_nil, wops_cons, wstep_none, wstep_some, wguard_tf, wrun_mv, wrun_pick, wrun_bin, wrun_load, wrun_faddr, wrun_iaddrS, wrun_len, wop, aop, ev, look, put_some, writes, ores_some, ores_ite_none, ores_map, ores_bind, binV, thenK, intV, lenOf, value, cut, hget, toLits, mkAgg, List.map_cons, List.map_nil, List.length_cons, List.length_nil, List.take_succ_cons, List.take_zero, List.take_nil, List.drop_succ_cons, List.drop_zero, List.append_nil, List.replicate_zero, List.getD_cons_zero, List.zipIdx_cons, List.zipIdx_nil, Option.pure_def, Option.bind_eq_bind, Option.getD_some, Option.map_some, if_true, if_false, Nat.reduceEqDiff, Nat.reduceAdd, Nat.add_zero, Nat.zero_add, Nat.zero_ne_one, reduceCtorEq, Bool.false_eq_true, eq_self, and_true, and_self, Int.toNat_zero, *] | simp (disch := omega) only [getD_ints, wrapI] | omega)
    all_goals first | exact ⟨_, rfl, rfl, hx9.down⟩
  | false =>
    cases a2 : ((hi.length : Int) != ((l.getD 0 sk0).wr.length : Int)) with
    | true =>
      rw [a1, a2, Bool.or_true, if_pos rfl] at hre
      rw [hre]
      clear hre
      unfold c64
      repeat' (first | (with_reducible first | refine T_seq ?_ | refine T_reg ?_ | refine T_skip ?_ | refine T_exit ?_ | refine T_block ?_ | refine T_cond_t rfl ?_ | refine T_cond_f rfl ?_ | refine T_ret ?_ | refine wif_intro ?_ (fun hc => ?_) | refine And.intro ?_ ?_ | intro hc) | simp (maxSteps := 4000000) only [wops_nil, wops_cons, wstep_none, wstep_some, wguard_ff, wrun_mv, wrun_pick, wrun_bin, wrun_load, wrun_faddr, wrun_iaddrS, wrun_len, wop, aop, ev, look, put_some, writes, ores_some, ores_ite_none, ores_map, ores_bind, binV, thenK, intV, lenOf, value, cut, hget, toLits, mkAgg, List.map_cons, List.map_nil, List.length_cons, List.length_nil, List.take_succ_cons, List.take_zero, List.take_nil, List.drop_succ_cons, List.drop_zero, List.append_nil, List.replicate_zero, List.getD_cons_zero, List.zipIdx_cons, List.zipIdx_nil, Option.pure_def, Option.bind_eq_bind, Option.getD_some, Option.map_some, if_true, if_false, Nat.reduceEqDiff, Nat.reduceAdd, Nat.add_zero, Nat.zero_add, Nat.zero_ne_one, reduceCtorEq, Bool.false_eq_true, eq_self, and_true, and_self, Int.toNat_zero, *] | simp (disch := omega) only [getD_ints, wrapI] | omega)
      all_goals first | exact ⟨_, rfl, rfl, hx9.down⟩
    | false =>
      rw [a1, a2, Bool.or_false, if_neg (by simp)] at hre
      have e1 : lo.length = (l.getD 0 sk0).wr.length := by simp only [bne_eq_false_iff_eq] at a1; omega
      have e2 : hi.length = lo.length := by simp only [bne_eq_false_iff_eq] at a2; omega
      rw [hre, ← e1]
      clear hre
      have hrow := PLift.up (fun K k hk hE => k64l (b := H0.length) (a := .loc a 0 0) h1 hlo e2 K (k := k) hk hE)
      have hst := PLift.up (fun k hk h0 h => fe_stop (e := dEr lo hi) (k := k) h0 h lo.length hk)
      have hnx := PLift.up (fun k h0 h => fe_next (e := dEr lo hi) (k := k) h0 h)
      have hRe : ∃ R, R = fe (dEr lo hi) lo.length := ⟨_, rfl⟩
      obtain ⟨R, hre⟩ := hRe
      rw [← hre]
      replace hre := PLift.up hre
      clear e1 e2
      unfold c64
      repeat' (first | (with_reducible first | refine T_seq ?_ | refine T_reg ?_ | refine T_skip ?_ | refine T_exit ?_ | refine T_block ?_ | refine T_cond_t rfl ?_ | refine T_cond_f rfl ?_ | refine T_ret ?_ | refine wif_intro ?_ (fun hc => ?_) | refine And.intro ?_ ?_ | intro hc) | simp (maxSteps := 4000000) only [wops_nil, wops_cons, wstep_none, wstep_some, wguard_ff, wrun_mv, wrun_pick, wrun_bin, wrun_load, wrun_faddr, wrun_iaddrS, wrun_len, wop, aop, ev, look, put_some, writes, ores_some, ores_ite_none, ores_map, ores_bind, binV, thenK, intV, lenOf, value, cut, hget, toLits, mkAgg, List.map_cons, List.map_nil, List.length_cons, List.length_nil, List.take_succ_cons, List.take_zero, List.take_nil, List.drop_succ_cons, List.drop_zero, List.append_nil, List.replicate_zero, List.getD_cons_zero, List.zipIdx_cons, List.zipIdx_nil, Option.pure_def, Option.bind_eq_bind, Option.getD_some, Option.map_some, if_true, if_false, Nat.reduceEqDiff, Nat.reduceAdd, Nat.add_zero, Nat.zero_add, Nat.zero_ne_one, reduceCtorEq, Bool.false_eq_true, eq_self, and_true, and_self, Int.toNat_zero, *] | simp (disch := omega) only [getD_ints, wrapI] | omega)
      refine T_forP [0, 1, 24, 25, 26] (fun k => [(0, .loc a 0 0), (1, .loc c 0 0), (24, ints n1 lo), (25, i64 lo.length), (26, i64 k)]) lo.length (fun k H => H = H0 ∧ fe (dEr lo hi) k = 0) 0 ?_ ⟨rfl, rfl⟩ (Nat.zero_le _) ?_
      · simp [St.only, get_mk, look]
      intro k H hk ⟨hHe, hI⟩
      subst hHe
      by_cases hkn : k < lo.length
      · refine T_thenR (hrow.down _ k hkn fun hne τ ht t2 => ?_) fun s' hs => ⟨hkn, ⟨hs.2.1, hnx.down k hI hs.1⟩, hs.2.2⟩
        have h206 := hst.down k hkn hI hne
        have h205 : leaveA [.tmp 2] (fun r H' => r = i64 R ∧ App H H') .ret τ := leaveA1 (n := R) (by rw [t2, hre.down, h206]) ⟨rfl, by rw [ht]; exact hx9.down⟩
        exact h205
      · have hke : k = lo.length := by omega
        subst hke
        have hr := hre.down.trans hI
        subst hr
        clear hrow hst hnx hre hI
        unfold c64l0
        repeat' (first | (with_reducible first | refine T_seq ?_ | refine T_reg ?_ | refine T_skip ?_ | refine T_exit ?_ | refine T_block ?_ | refine T_cond_t rfl ?_ | refine T_cond_f rfl ?_ | ((first | refine T_cond rfl (fun hc => ?_) (fun hc => ?_) | refine wguard_split (fun hc => ?_) (fun hc => ?_)) <;> have hd := hc <;> (try simp (disch := omega) only [wrapI] at hd) <;> have hs := hd <;> (try simp only [decide_eq_true_eq, decide_eq_false_iff_not, Int.not_lt] at hd) <;> (try simp at hs)) | refine T_ret ?_ | refine wif_intro ?_ (fun hc => ?_) | refine And.intro ?_ ?_ | intro hc) | simp (maxSteps := 4000000) only [wops_nil, wops_cons, wstep_none, wrun_mv, wrun_bin, wop, aop, ev, look, put_some, writes, ores_some, binV, thenK, blockK, List.append_nil, List.replicate_zero, Option.map_some, if_true, if_false, Nat.reduceEqDiff, reduceCtorEq, eq_self, false_and, Int.toNat_natCast, *] | simp (disch := omega) only [getD_ints, wrapI] | omega)
        all_goals first | exact ⟨_, rfl, rfl, hx9.down⟩
set_option maxHeartbeats 8000000 in
theorem k66lB {H : List Blk} {a c : Nat} {o nn nil n2 : Bool} {l : List Sk} {s : List Ss} {b : Nat} (hl : l.length < 1000000) (hl2 : s.length < 1000000) (hsz : ∀ k, k < s.length → (s.getD k ss0).mi.size < 1000000) (hH : H[a]? = some (.cells o nn 1 [[sts nil l]])) (K : Exit → St → Prop) {k : Nat} (hk : k < s.length)
    (hE : zEr l s k ≠ 0 → ∀ τ : St, App H τ.heap → τ.get 2 = i64 (zEr l s k) → K .ret τ) :
    T none Try.prog muts 31 b c66l0 ⟨SL102 n2 s a c k, H⟩ (thenK (fun s' => zEr l s k = 0 ∧ App H s'.heap ∧ (s'.only [1, 8, 9, 10]).slots = SL102 n2 s a c (k + 1)) K) := by
  have hll := ssR_len s
  have g1 := ssR_get hk
  have h67 := k67 (s.getD k ss0).mi (hsz k hk)
  have h68 := k68 nil l (s.getD k ss0).st hl
  have h65 := k65 (s.getD k ss0).mn 1 10000
  have hre : zEr l s k = if nmB (s.getD k ss0).mi = false then 4 else if decide (sAt l (s.getD k ss0).st < 0) = true then 6 else if (decide (1 ≤ (s.getD k ss0).mn) && decide ((s.getD k ss0).mn ≤ 10000)) = false then 2 else 0 := rfl
  have hkc : ((k : Int) < (s.length : Int)) := by omega
  obtain ⟨u1, u2, u3, u4⟩ := cells_sub (X := []) (H := H) rfl
  have a0 := at_in hH
  have l0 := (List.getElem?_eq_some_iff.1 hH).1
  have hx := PLift.up (fun X => App.app H X)
  generalize zEr l s k = E at *
  clear hsz hH
  cases a1 : nmB (s.getD k ss0).mi with
  | false =>
    rw [a1] at h67 hre
    rw [if_pos rfl] at hre
    subst hre
    have f := PLift.up (hE (by simp))
    clear hE a1 h68 h65
    unfold c66l0
    repeat' (first | (with_reducible first | refine T_seq ?_ | refine T_reg ?_ | refine T_skip ?_ | refine T_exit ?_ | refine T_block ?_ | refine T_cond_t rfl ?_ | refine T_cond_f rfl ?_ | (show wcall _ false (.lit (.func (.func 67) _ _)) _ _ _ _; refine wcall_fn (h67) rfl (by simp [plainL, plain]) ?_) | refine T_ret ?_ | refine wif_intro ?_ (fun hc => ?_) | refine And.intro ?_ ?_ | intro hc) | simp (maxSteps := 4000000) only [wops_nil, wops_cons, wstep_none, wrun_call, wrun_mv, wrun_bin, wrun_not, wrun_load, wrun_store, wrun_faddr, wrun_iaddrS, wrun_alloc, wop, aop, ev, look, put_some, put_none, writes, ores_some, ores_ite_none, binV, thenK, blockK, boolV, value, cut, hget, putCells, AV.parts, isOne, toLits, mkAgg, ofValue_int, ofValue_str, List.map_cons, List.map_nil, List.length_cons, List.length_nil, List.getElem?_cons_zero, List.set_cons_zero, List.take_succ_cons, List.take_zero, List.take_nil, List.drop_succ_cons, List.drop_zero, List.drop_nil, List.nil_append, List.append_nil, List.append_assoc, List.replicate_zero, List.replicate_succ, List.getD_cons_zero, List.all_cons, List.all_nil, List.length_append, Option.getD_some, Option.map_some, if_true, if_false, Nat.reduceEqDiff, Nat.reduceAdd, Nat.reduceLT, Nat.add_zero, Nat.zero_add, Nat.le_refl, reduceCtorEq, Bool.not_false, Bool.and_true, Bool.false_eq_true, eq_self, true_and, and_true, and_self, decide_true, freeze, lidsL, lids, List.flatMap_cons, List.flatMap_nil, List.all_cons, ren, Int.toNat_natCast, *] | simp (disch := omega) only [getD_ints, wrapI] | (with_reducible show wcall _ false (.lit (.func (.func 67) _ _)) _ _ _ _; refine wcall_fn (h67) ?_ ?_ ?_; (next => simp [rfyL, rfy, hget, ints, take_rfy, Int.toNat_natCast, plainR_sk, plainR_ss]); (next => simp [plainL, plain, plainR, Int.toNat_natCast, plainR_sk, plainR_ss])) | omega)
    all_goals first | exact f.down _ (hx.down _) rfl
  | true =>
    rw [a1] at h67 hre
    rw [if_neg (by simp)] at hre
    cases a2 : decide (sAt l (s.getD k ss0).st < 0) with
    | true =>
      rw [a2, if_pos rfl] at hre
      subst hre
      have f := PLift.up (hE (by simp))
      clear hE a1 h65
      unfold c66l0
      repeat' (first | (with_reducible first | refine T_seq ?_ | refine T_reg ?_ | refine T_skip ?_ | refine T_exit ?_ | refine T_block ?_ | refine T_cond_t rfl ?_ | refine T_cond_f rfl ?_ | (show wcall _ false (.lit (.func (.func 67) _ _)) _ _ _ _; refine wcall_fn (h67) rfl (by simp [plainL, plain]) ?_) | (show wcall _ false (.lit (.func (.func 68) _ _)) _ _ _ _; refine wcall_fn (h68) rfl (by simp [plainL, plain, plainR_sk]) ?_) | refine T_ret ?_ | refine wif_intro ?_ (fun hc => ?_) | refine And.intro ?_ ?_ | intro hc) | simp (maxSteps := 4000000) only [wops_nil, wops_cons, wstep_none, wrun_call, wrun_mv, wrun_bin, wrun_not, wrun_load, wrun_store, wrun_faddr, wrun_iaddrS, wrun_alloc, wop, aop, ev, look, put_some, put_none, writes, ores_some, ores_ite_none, binV, thenK, blockK, boolV, value, cut, hget, putCells, AV.parts, isOne, toLits, mkAgg, ofValue_int, ofValue_str, List.map_cons, List.map_nil, List.length_cons, List.length_nil, List.getElem?_cons_zero, List.set_cons_zero, List.take_succ_cons, List.take_zero, List.take_nil, List.drop_succ_cons, List.drop_zero, List.drop_nil, List.nil_append, List.append_nil, List.append_assoc, List.replicate_zero, List.replicate_succ, List.getD_cons_zero, List.all_cons, List.all_nil, List.length_append, Option.getD_some, Option.map_some, if_true, if_false, Nat.reduceEqDiff, Nat.reduceAdd, Nat.reduceLT, Nat.add_zero, Nat.zero_add, Nat.le_refl, reduceCtorEq, Bool.not_true, Bool.and_true, Bool.false_eq_true, eq_self, true_and, and_true, and_self, decide_true, freeze, lidsL, lids, List.flatMap_cons, List.flatMap_nil, List.all_cons, ren, Int.toNat_natCast, *] | simp (disch := omega) only [getD_ints, wrapI] | (with_reducible show wcall _ false (.lit (.func (.func 67) _ _)) _ _ _ _; refine wcall_fn (h67) ?_ ?_ ?_; (next => simp [rfyL, rfy, hget, ints, take_rfy, Int.toNat_natCast, plainR_sk, plainR_ss]); (next => simp [plainL, plain, plainR, Int.toNat_natCast, plainR_sk, plainR_ss])) | (with_reducible show wcall _ false (.lit (.func (.func 68) _ _)) _ _ _ _; refine wcall_fn (h68) ?_ ?_ ?_; (next => simp [rfyL, rfy, hget, ints, take_rfy, Int.toNat_natCast, plainR_sk, plainR_ss]); (next => simp [plainL, plain, plainR, Int.toNat_natCast, plainR_sk, plainR_ss])) | omega)
      all_goals first | exact f.down _ (hx.down _) rfl
    | false =>
      rw [a2, if_neg (by simp)] at hre
      cases a3 : (decide (1 ≤ (s.getD k ss0).mn) && decide ((s.getD k ss0).mn ≤ 10000)) with
      | false =>
        rw [a3] at hre h65
        rw [if_pos rfl] at hre
        subst hre
        have f := PLift.up (hE (by simp))
        clear hE a1 a3
        unfold c66l0
        repeat' (first | (with_reducible first | refine T_seq ?_ | refine T_reg ?_ | refine T_skip ?_ | refine T_exit ?_ | refine T_block ?_ | refine T_cond_t rfl ?_ | refine T_cond_f rfl ?_ | (show wcall _ false (.lit (.func (.func 67) _ _)) _ _ _ _; refine wcall_fn (h67) rfl (by simp [plainL, plain]) ?_) | (show wcall _ false (.lit (.func (.func 68) _ _)) _ _ _ _; refine wcall_fn (h68) rfl (by simp [plainL, plain, plainR_sk]) ?_) | (show wcall _ false (.lit (.func (.func 65) _ _)) _ _ _ _; refine wcall_fn (h65) rfl (by simp [plainL, plain]) ?_) | refine T_ret ?_ | refine wif_intro ?_ (fun hc => ?_) | refine And.intro ?_ ?_ | intro hc) | simp (maxSteps := 4000000) only [wops_nil, wops_cons, wstep_none, wrun_call, wrun_mv, wrun_bin, wrun_not, wrun_load, wrun_store, wrun_faddr, wrun_iaddrS, wrun_alloc, wop, aop, ev, look, put_some, put_none, writes, ores_some, ores_ite_none, binV, thenK, blockK, boolV, value, cut, hget, putCells, AV.parts, isOne, toLits, mkAgg, ofValue_int, ofValue_str, List.map_cons, List.map_nil, List.length_cons, List.length_nil, List.getElem?_cons_zero, List.set_cons_zero, List.take_succ_cons, List.take_zero, List.take_nil, List.drop_succ_cons, List.drop_zero, List.drop_nil, List.nil_append, List.append_nil, List.append_assoc, List.replicate_zero, List.replicate_succ, List.getD_cons_zero, List.all_cons, List.all_nil, List.length_append, Option.getD_some, Option.map_some, if_true, if_false, Nat.reduceEqDiff, Nat.reduceAdd, Nat.reduceLT, Nat.add_zero, Nat.zero_add, Nat.le_refl, reduceCtorEq, Bool.not_true, Bool.not_false, Bool.and_true, Bool.false_eq_true, eq_self, true_and, and_true, and_self, decide_true, freeze, lidsL, lids, List.flatMap_cons, List.flatMap_nil, List.all_cons, ren, Int.toNat_natCast, *] | simp (disch := omega) only [getD_ints, wrapI] | (with_reducible show wcall _ false (.lit (.func (.func 67) _ _)) _ _ _ _; refine wcall_fn (h67) ?_ ?_ ?_; (next => simp [rfyL, rfy, hget, ints, take_rfy, Int.toNat_natCast, plainR_sk, plainR_ss]); (next => simp [plainL, plain, plainR, Int.toNat_natCast, plainR_sk, plainR_ss])) | (with_reducible show wcall _ false (.lit (.func (.func 68) _ _)) _ _ _ _; refine wcall_fn (h68) ?_ ?_ ?_; (next => simp [rfyL, rfy, hget, ints, take_rfy, Int.toNat_natCast, plainR_sk, plainR_ss]); (next => simp [plainL, plain, plainR, Int.toNat_natCast, plainR_sk, plainR_ss])) | (with_reducible show wcall _ false (.lit (.func (.func 65) _ _)) _ _ _ _; refine wcall_fn (h65) ?_ ?_ ?_; (next => simp [rfyL, rfy, hget, ints, take_rfy, Int.toNat_natCast, plainR_sk, plainR_ss]); (next => simp [plainL, plain, plainR, Int.toNat_natCast, plainR_sk, plainR_ss])) | omega)
        all_goals first | exact f.down _ (hx.down _) rfl
      | true =>
        rw [a3] at hre h65
        rw [if_neg (by simp)] at hre
        subst hre
        clear hE a1 a3
        unfold c66l0
        repeat' (first | (with_reducible first | refine T_seq ?_ | refine T_reg ?_ | refine T_skip ?_ | refine T_exit ?_ | refine T_block ?_ | refine T_cond_t rfl ?_ | refine T_cond_f rfl ?_ | (show wcall _ false (.lit (.func (.func 67) _ _)) _ _ _ _; refine wcall_fn (h67) rfl (by simp [plainL, plain]) ?_) | (show wcall _ false (.lit (.func (.func 68) _ _)) _ _ _ _; refine wcall_fn (h68) rfl (by simp [plainL, plain, plainR_sk]) ?_) | (show wcall _ false (.lit (.func (.func 65) _ _)) _ _ _ _; refine wcall_fn (h65) rfl (by simp [plainL, plain]) ?_) | refine T_ret ?_ | refine wif_intro ?_ (fun hc => ?_) | refine And.intro ?_ ?_ | intro hc) | simp (maxSteps := 4000000) only [wops_nil, wops_cons, wstep_none, wrun_call, wrun_mv, wrun_bin, wrun_not, wrun_load, wrun_store, wrun_faddr, wrun_iaddrS, wrun_alloc, wop, aop, ev, look, put_some, put_none, writes, ores_some, ores_ite_none, binV, thenK, blockK, boolV, value, cut, hget, putCells, AV.parts, isOne, toLits, mkAgg, ofValue_int, ofValue_str, List.map_cons, List.map_nil, List.length_cons, List.length_nil, List.getElem?_cons_zero, List.set_cons_zero, List.take_succ_cons, List.take_zero, List.take_nil, List.drop_succ_cons, List.drop_zero, List.drop_nil, List.nil_append, List.append_nil, List.append_assoc, List.replicate_zero, List.replicate_succ, List.getD_cons_zero, List.all_cons, List.all_nil, List.length_append, Option.getD_some, Option.map_some, if_true, if_false, Nat.reduceEqDiff, Nat.reduceAdd, Nat.reduceLT, Nat.add_zero, Nat.zero_add, Nat.le_refl, reduceCtorEq, Bool.not_true, Bool.and_true, Bool.false_eq_true, eq_self, true_and, and_true, and_self, decide_true, freeze, lidsL, lids, List.flatMap_cons, List.flatMap_nil, List.all_cons, ren, Int.toNat_natCast, *] | simp (disch := omega) only [wrapI] | (with_reducible show wcall _ false (.lit (.func (.func 67) _ _)) _ _ _ _; refine wcall_fn (h67) ?_ ?_ ?_; (next => simp [rfyL, rfy, hget, ints, take_rfy, Int.toNat_natCast, plainR_sk, plainR_ss]); (next => simp [plainL, plain, plainR, Int.toNat_natCast, plainR_sk, plainR_ss])) | (with_reducible show wcall _ false (.lit (.func (.func 68) _ _)) _ _ _ _; refine wcall_fn (h68) ?_ ?_ ?_; (next => simp [rfyL, rfy, hget, ints, take_rfy, Int.toNat_natCast, plainR_sk, plainR_ss]); (next => simp [plainL, plain, plainR, Int.toNat_natCast, plainR_sk, plainR_ss])) | (with_reducible show wcall _ false (.lit (.func (.func 65) _ _)) _ _ _ _; refine wcall_fn (h65) ?_ ?_ ?_; (next => simp [rfyL, rfy, hget, ints, take_rfy, Int.toNat_natCast, plainR_sk, plainR_ss]); (next => simp [plainL, plain, plainR, Int.toNat_natCast, plainR_sk, plainR_ss])) | omega)
        all_goals first | exact hx.down _ | rfl | (simp [St.only, get_mk, look]; done)
set_option maxHeartbeats 8000000 in
theorem k66B {H : List Blk} {a c : Nat} {o o' nn nn' nil n2 : Bool} {l : List Sk} {s : List Ss} (hl : l.length < 1000000) (hl2 : s.length < 1000000) (hsz : ∀ k, k < s.length → (s.getD k ss0).mi.size < 1000000) (hH : H[a]? = some (.cells o nn 1 [[sts nil l]])) (hD : H[c]? = some (.cells o' nn' 1 [[sss n2 s]])) : ClB 66 [.loc c 0 0, .loc a 0 0] H (zE l s) := by
  intro H0 hx0
  refine envOf_all e66 ?_
  obtain ⟨o1, h0⟩ := hx0.cell hH
  obtain ⟨o2, h1⟩ := hx0.cell hD
  have hx9 := PLift.up (App.refl H0)
  have hll := ssR_len s
  clear hx0 hH hD
  by_cases h200 : s.length > 200
  · have hE : zE l s = 8 := if_pos h200
    rw [hE]
    have d1 : decide ((s.length : Int) > 200) = true := decide_eq_true (by omega)
    clear hE h200 hsz
    unfold c66
    repeat' (first | (with_reducible first | refine T_seq ?_ | refine T_reg ?_ | refine T_skip ?_ | refine T_exit ?_ | refine T_block ?_ | refine T_cond_t rfl ?_ | refine T_cond_f rfl ?_ | refine T_ret ?_ | refine wif_intro ?_ (fun hc => ?_) | refine And.intro ?_ ?_ | intro hc) | simp (maxSteps := 4000000) only [wops_nil, wops_cons, wstep_none, wrun_mv, wrun_bin, wrun_load, wrun_len, wop, aop, ev, look, put_some, writes, ores_some, ores_map, ores_bind, binV, thenK, intV, lenOf, value, cut, hget, toLits, mkAgg, List.map_cons, List.map_nil, List.length_cons, List.length_nil, List.take_succ_cons, List.take_nil, List.drop_zero, List.append_nil, List.replicate_zero, List.getD_cons_zero, List.zipIdx_cons, List.zipIdx_nil, Option.pure_def, Option.bind_eq_bind, Option.getD_some, Option.map_some, if_true, if_false, Nat.reduceEqDiff, Nat.reduceAdd, Nat.zero_add, reduceCtorEq, Bool.false_eq_true, eq_self, *] | simp (disch := omega) only [getD_ints, wrapI] | omega)
    all_goals first | exact ⟨_, rfl, rfl, hx9.down⟩
  have d1 : decide ((s.length : Int) > 200) = false := decide_eq_false (by omega)
  have hre : zE l s = fe (zEr l s) s.length := if_neg h200
  have hrow := PLift.up (fun H a0 o hH K k hk hE => k66lB (b := H0.length) (c := c) (n2 := n2) (nil := nil) (H := H) (a := a0) (o := o) (nn := nn) hl hl2 hsz hH K (k := k) hk hE)
  have hst := PLift.up (fun k hk h0 h => fe_stop (e := zEr l s) (k := k) h0 h s.length hk)
  have hnx := PLift.up (fun k h0 h => fe_next (e := zEr l s) (k := k) h0 h)
  have h206 := PLift.up h0
  generalize zE l s = R at *
  replace hre := PLift.up hre
  clear h200 hsz
  unfold c66
  repeat' (first | (with_reducible first | refine T_seq ?_ | refine T_reg ?_ | refine T_skip ?_ | refine T_exit ?_ | refine T_block ?_ | refine T_cond_t rfl ?_ | refine T_cond_f rfl ?_ | refine T_ret ?_ | refine wif_intro ?_ (fun hc => ?_) | refine And.intro ?_ ?_ | intro hc) | simp (maxSteps := 4000000) only [wops_nil, wops_cons, wstep_none, wrun_mv, wrun_bin, wrun_load, wrun_len, wop, aop, ev, look, put_some, writes, ores_some, ores_map, ores_bind, binV, thenK, intV, lenOf, value, cut, hget, toLits, mkAgg, List.map_cons, List.map_nil, List.length_cons, List.length_nil, List.take_succ_cons, List.take_nil, List.drop_zero, List.append_nil, List.replicate_zero, List.getD_cons_zero, List.zipIdx_cons, List.zipIdx_nil, Option.pure_def, Option.bind_eq_bind, Option.getD_some, Option.map_some, if_true, if_false, Nat.reduceEqDiff, Nat.reduceAdd, Nat.zero_add, reduceCtorEq, Bool.false_eq_true, eq_self, *] | simp (disch := omega) only [getD_ints, wrapI] | omega)
  refine T_forP [1, 8, 9, 10] (SL102 n2 s a c) s.length (fun k H => App H0 H ∧ fe (zEr l s) k = 0) 0 ?_ ⟨hx9.down, rfl⟩ (Nat.zero_le _) ?_
  · simp [St.only, get_mk, look]
  intro k H hk ⟨hxH, hI⟩
  by_cases hkn : k < s.length
  · obtain ⟨o3, h200⟩ := hxH.cell h206.down
    refine T_thenR (hrow.down H a o3 h200 _ k hkn fun hne τ hxt t2 => ?_) fun s' hs => ⟨hkn, ⟨hxH.trans hs.2.1, hnx.down k hI hs.1⟩, hs.2.2⟩
    have h206 := hst.down k hkn hI hne
    have h205 : leaveA [.tmp 2] (fun r H' => r = i64 R ∧ App H0 H') .ret τ := leaveA1 (n := R) (by rw [t2, hre.down, h206]) ⟨rfl, hxH.trans hxt⟩
    exact h205
  · have hke : k = s.length := by omega
    subst hke
    have hr := hre.down.trans hI
    subst hr
    have hx8 := PLift.up hxH
    clear hrow hst hnx hre hI hxH h0 h1 h206
    unfold c66l0
    repeat' (first | (with_reducible first | refine T_seq ?_ | refine T_reg ?_ | refine T_skip ?_ | refine T_exit ?_ | refine T_block ?_ | refine T_cond_t rfl ?_ | refine T_cond_f rfl ?_ | ((first | refine T_cond rfl (fun hc => ?_) (fun hc => ?_) | refine wguard_split (fun hc => ?_) (fun hc => ?_)) <;> have hd := hc <;> (try simp (disch := omega) only [wrapI] at hd) <;> have hs := hd <;> (try simp only [decide_eq_true_eq, decide_eq_false_iff_not, Int.not_lt] at hd) <;> (try simp at hs)) | refine T_ret ?_ | refine wif_intro ?_ (fun hc => ?_) | refine And.intro ?_ ?_ | intro hc) | simp (maxSteps := 4000000) only [wops_nil, wops_cons, wstep_none, wrun_mv, wrun_bin, wop, aop, ev, look, put_some, writes, ores_some, binV, thenK, blockK, List.append_nil, List.replicate_zero, Option.map_some, if_true, if_false, Nat.reduceEqDiff, reduceCtorEq, eq_self, false_and, Int.toNat_natCast, *] | simp (disch := omega) only [getD_ints, wrapI] | omega)
    all_goals first | exact ⟨_, rfl, rfl, hx8.down⟩
theorem first4B {H : List Blk} {id : Nat} {o nl : Bool} {g1 g2 g3 g4 : FuncId} {c1 c2 c200 c201 : List AV} {e1 e2 e200 e201 : Int} (hH : H[id]? = some (.cells o nl 1 [[.clo (.func g1) [] c1], [.clo (.func g2) [] c2], [.clo (.func g3) [] c200], [.clo (.func g4) [] c201]])) (h1 : ClB g1 c1 H e1) (h2 : e1 = 0 → ClB g2 c2 H e2) (h200 : e1 = 0 → e2 = 0 → ClB g3 c200 H e200) (h201 : e1 = 0 → e2 = 0 → e200 = 0 → ClB g4 c201 H e201) :
    ACall Try.prog 38 [.lsl id 0 4] H fun r H' => r = i64 (if e1 ≠ 0 then e1 else if e2 ≠ 0 then e2 else if e200 ≠ 0 then e200 else e201) ∧ App H H' := by
  have h := k38B (n := 4) hH rfl (by omega) (fun k => if k = 0 then e1 else if k = 1 then e2 else if k = 2 then e200 else e201) fun k hk hz => by
    match k, hk with
    | 0, _ => exact ⟨g1, c1, rfl, h1⟩
    | 1, _ =>
      have : e1 = 0 := by simpa [fe] using hz
      exact ⟨g2, c2, rfl, h2 this⟩
    | 2, _ =>
      by_cases g : e1 = 0
      · have : e2 = 0 := by simpa [fe, g] using hz
        exact ⟨g3, c200, rfl, h200 g this⟩
      · simp [fe, g] at hz
    | 3, _ =>
      by_cases g : e1 = 0
      · by_cases g' : e2 = 0
        · have : e200 = 0 := by simpa [fe, g, g'] using hz
          exact ⟨g4, c201, rfl, h201 g g' this⟩
        · simp [fe, g, g'] at hz
      · simp [fe, g] at hz
  have e : fe (fun k => if k = 0 then e1 else if k = 1 then e2 else if k = 2 then e200 else e201) 4 = if e1 ≠ 0 then e1 else if e2 ≠ 0 then e2 else if e200 ≠ 0 then e200 else e201 := by
    simp only [fe]
    by_cases g : e1 = 0
    · by_cases g' : e2 = 0
      · simp [g, g']
      · simp [g, g']
    · simp [g]
  rw [e] at h
  exact h
end Go.Abs
