import Derived.Test.YtodheeifecoebaaK303x
set_option linter.all false
set_option linter.unusedVariables false
set_option linter.unusedSimpArgs false
set_option linter.unusedSectionVars false
namespace Go.Abs
open Go.Proofs
/-! law 12: do two neighbours differ by half an order? -/
abbrev SLb12 (n i : Nat) : List (Nat × AV) := [(1, .loc 0 0 0), (3, i64 n), (4, .loc 1 0 0), (6, i64 i)]
def okR (w : Int) (zs : List Int) (i : Nat) : Prop := ((i : Int) + 1).tmod w ≠ 0 → -500 < zs.getD (i + 1) 0 - zs.getD i 0 ∧ zs.getD (i + 1) 0 - zs.getD i 0 < 500
def okD (w : Int) (zs : List Int) (i : Nat) : Prop := (i : Int) + w < zs.length → -500 < zs.getD ((i : Int) + w).toNat 0 - zs.getD i 0 ∧ zs.getD ((i : Int) + w).toNat 0 - zs.getD i 0 < 500
section
variable {w : Int} {n1 n2 : Bool} {zs msk : List Int} {i : Nat} {H : List Blk}
theorem next_lt {n i : Nat} {w : Int} (hn : (n : Int).tmod w = 0) (hi : i < n) (h : ((i : Int) + 1).tmod w ≠ 0) : i + 1 < n := by
  rcases Nat.lt_or_ge (i + 1) n with h1 | h1
  · exact h1
  · have : i + 1 = n := by omega
    rw [← this] at hn
    exact (h (by exact_mod_cast hn)).elim
set_option maxHeartbeats 8000000 in
theorem k12l1 (hl : zs.length ≤ 1000) (hw : 1 ≤ w ∧ w ≤ 6) (hn : (zs.length : Int).tmod w = 0) (hbd : ∀ j, -1000000 ≤ zs.getD j 0 ∧ zs.getD j 0 ≤ 1000000) (hi : i < zs.length) (jb : H[0]? = some (.cells true false 3 [[i64 w, ints n1 zs, ints n2 msk]])) (K : Exit → St → Prop) (hT : ∀ τ : St, τ.get 2 = bl true → K .ret τ) :
    T none Try.prog muts 264 0 c12l1 ⟨SLb12 zs.length i, H⟩ (thenK (fun s' => (okR w zs i ∧ okD w zs i) ∧ s'.only [1, 3, 4, 6] = ⟨SLb12 zs.length (i + 1), H⟩) K) := by
  have g1 : (zs.map fun x => [i64 x]).getD i [] = [i64 (zs.getD i 0)] := getD_ints hi
  have l0 := (List.getElem?_eq_some_iff.1 jb).1
  have hU := hbd i
  have hR := hbd (i + 1)
  have hD := hbd ((i : Int) + w).toNat
  have ew1 : IntKind.i64.wrap ((i : Int) + 1) = (i : Int) + 1 := wrapI (by omega) (by omega)
  have ew2 : IntKind.i64.wrap ((i : Int) + w) = (i : Int) + w := wrapI (by omega) (by omega)
  have ew3 : IntKind.i64.wrap (zs.getD (i + 1) 0 - zs.getD i 0) = zs.getD (i + 1) 0 - zs.getD i 0 := wrapI (by omega) (by omega)
  have ew4 : IntKind.i64.wrap (zs.getD ((i : Int) + w).toNat 0 - zs.getD i 0) = zs.getD ((i : Int) + w).toNat 0 - zs.getD i 0 := wrapI (by omega) (by omega)
  have h59r := k59u (zs.getD (i + 1) 0 - zs.getD i 0) (by omega)
  have h59d := k59u (zs.getD ((i : Int) + w).toNat 0 - zs.getD i 0) (by omega)
  have hw0 : (w = 0) = False := by simp; omega
  have en : ((i : Int) + 1).toNat = i + 1 := by omega
  have gR : ((i : Int) + 1).tmod w ≠ 0 → (zs.map fun x => [i64 x]).getD (i + 1) [] = [i64 (zs.getD (i + 1) 0)] ∧ (i : Int) + 1 < zs.length := fun h => ⟨getD_ints (next_lt hn hi h), by have := next_lt hn hi h; omega⟩
  have gD : (i : Int) + w < zs.length → (zs.map fun x => [i64 x]).getD ((i : Int) + w).toNat [] = [i64 (zs.getD ((i : Int) + w).toNat 0)] := fun h => getD_ints (by omega)
  have fin : okR w zs i → okD w zs i → PLift (okR w zs i ∧ okD w zs i) := fun h1 h2 => ⟨⟨h1, h2⟩⟩
  have hokR : (((i : Int) + 1).tmod w = 0 ∨ ¬(500 ≤ if zs.getD (i + 1) 0 - zs.getD i 0 < 0 then -(zs.getD (i + 1) 0 - zs.getD i 0) else zs.getD (i + 1) 0 - zs.getD i 0)) → okR w zs i := fun h hm => by
    rcases h with h | h
    · exact (hm h).elim
    · split at h <;> omega
  have hokD : (¬((i : Int) + w < zs.length) ∨ ¬(500 ≤ if zs.getD ((i : Int) + w).toNat 0 - zs.getD i 0 < 0 then -(zs.getD ((i : Int) + w).toNat 0 - zs.getD i 0) else zs.getD ((i : Int) + w).toNat 0 - zs.getD i 0)) → okD w zs i := fun h hm => by
    rcases h with h | h
    · exact (h hm).elim
    · split at h <;> omega
  generalize (if zs.getD (i + 1) 0 - zs.getD i 0 < 0 then -(zs.getD (i + 1) 0 - zs.getD i 0) else zs.getD (i + 1) 0 - zs.getD i 0) = ar at *
  generalize (if zs.getD ((i : Int) + w).toNat 0 - zs.getD i 0 < 0 then -(zs.getD ((i : Int) + w).toNat 0 - zs.getD i 0) else zs.getD ((i : Int) + w).toNat 0 - zs.getD i 0) = ad at *
  replace hT := PLift.up hT
  clear hbd
  by_cases m1 : ((i : Int) + 1).tmod w = 0
  · have hm1 : (((i : Int) + 1).tmod w != 0) = false := by simp only [bne_eq_false_iff_eq]; exact m1
    by_cases m2 : (i : Int) + w < zs.length
    · have hm2 : decide ((i : Int) + w < zs.length) = true := decide_eq_true m2
      have g3 := gD m2
      by_cases p2 : 500 ≤ ad
      · have hp2 : decide (ad ≥ 500) = true := decide_eq_true p2
        clear m1 p2
        clear hokR hokD fin gR gD hn
        unfold c12l1
        repeat' (first
          | ((with_reducible refine T_calm ?_ ?_); rfl)
          | with_reducible first
            | refine T_seq ?_
            | refine T_reg ?_
            | refine T_draw ?_
            | refine T_skip ?_
            | refine T_exit ?_
            | refine T_block ?_
            | refine T_cond_t rfl ?_
            | refine T_cond_f rfl ?_
            | refine wdW_cons rfl ?_
            | (show wcall _ false (.lit (.func (.func 59) _ _)) _ _ _ _; refine wcall_fn (h59r) rfl (by simp [plainL, plain, plainR, Int.toNat_natCast, hw0, en, l0]) ?_)
            | (show wcallX _ false (.lit (.func (.func 59) _ _)) _ _ _ _; refine wcallX_fn (h59r) rfl (by simp [plainL, plain]) ?_)
            | (show wcall _ false (.lit (.func (.func 59) _ _)) _ _ _ _; refine wcall_fn (h59d) rfl (by simp [plainL, plain, plainR, Int.toNat_natCast, hw0, en, l0]) ?_)
            | (show wcallX _ false (.lit (.func (.func 59) _ _)) _ _ _ _; refine wcallX_fn (h59d) rfl (by simp [plainL, plain]) ?_)
            | ((first | refine T_cond rfl (fun hc => ?_) (fun hc => ?_) | refine wguard_split (fun hc => ?_) (fun hc => ?_) | refine wguardX_split (fun hc => ?_) (fun hc => ?_)) <;> have hd := hc <;> (try simp (disch := omega) only [wrapI] at hd) <;> have hs := hd <;> (try simp only [decide_eq_true_eq, decide_eq_false_iff_not, Int.not_lt] at hd) <;> (try simp at hs))
            | refine T_ret ?_
            | refine wif_intro ?_ (fun hc => ?_)
            | refine And.intro ?_ ?_
            | intro hc
          | simp (maxSteps := 4000000) only [wops_nil, wops_cons, wstep_none, wrun_mv, wrun_pick, wrun_bin, wrun_load, wrun_faddr, wrun_iaddrS, wrunX_mv, wrunX_pick, wrunX_bin, wrunX_load, wrunX_faddr, wrunX_iaddrS, wdW_nil, wstepX_none, wstepX_some, wguardX_true, wguardX_ff, wguardX_ft, wrunX_call, wop, aop, ev, look, put_some, writes, ores_some, ores_ite_none, binV, thenK, blockK, value, cut, hget, toLits, mkAgg, List.map_cons, List.map_nil, List.length_cons, List.length_nil, List.take_succ_cons, List.take_zero, List.take_nil, List.drop_succ_cons, List.drop_zero, List.append_nil, List.replicate_zero, List.getD_cons_zero, List.length_map, Option.getD_some, Option.map_some, if_true, if_false, Nat.reduceEqDiff, Nat.add_zero, Nat.zero_add, reduceCtorEq, Bool.false_eq_true, eq_self, and_true, and_self, decide_true, freeze, lidsL, lids, List.flatMap_cons, List.flatMap_nil, ren, Int.toNat_natCast, *]
          | simp (disch := omega) only [getD_ints, wrapI]
          | (with_reducible show wcall _ false (.lit (.func (.func 59) _ _)) _ _ _ _; refine wcall_fn (h59r) ?_ ?_ ?_; (next => simp [rfyL, rfy, hget, ints, take_rfy, Int.toNat_natCast, hw0, en, l0]); (next => simp [plainL, plain, plainR, Int.toNat_natCast, hw0, en, l0]))
          | (with_reducible show wcallX _ false (.lit (.func (.func 59) _ _)) _ _ _ _; refine wcallX_fn (h59r) ?_ ?_ ?_; (next => simp [rfyL, rfy, hget, ints, take_rfy, Int.toNat_natCast, hw0, en, l0]); (next => simp [plainL, plain, plainR, Int.toNat_natCast, hw0, en, l0]))
          | (with_reducible show wcall _ false (.lit (.func (.func 59) _ _)) _ _ _ _; refine wcall_fn (h59d) ?_ ?_ ?_; (next => simp [rfyL, rfy, hget, ints, take_rfy, Int.toNat_natCast, hw0, en, l0]); (next => simp [plainL, plain, plainR, Int.toNat_natCast, hw0, en, l0]))
          | (with_reducible show wcallX _ false (.lit (.func (.func 59) _ _)) _ _ _ _; refine wcallX_fn (h59d) ?_ ?_ ?_; (next => simp [rfyL, rfy, hget, ints, take_rfy, Int.toNat_natCast, hw0, en, l0]); (next => simp [plainL, plain, plainR, Int.toNat_natCast, hw0, en, l0]))
          | (with_reducible refine wdW_cons ?_ ?_; (next => simp [chk, foot, compatB, argsOf, St.get, target, ev, look, lidsL, hget, kind, wids, wtops, tops, opds, topId, Int.toNat_natCast, hw0, en, l0]; done))
          | omega)
        all_goals first | exact hT.down _ rfl
      · have hp2 : decide (ad ≥ 500) = false := decide_eq_false p2
        have f := fin (hokR (.inl m1)) (hokD (.inr p2))
        clear hokR hokD fin gR gD hT hn m1 p2
        unfold c12l1
        repeat' (first
          | ((with_reducible refine T_calm ?_ ?_); rfl)
          | with_reducible first
            | refine T_seq ?_
            | refine T_reg ?_
            | refine T_draw ?_
            | refine T_skip ?_
            | refine T_exit ?_
            | refine T_block ?_
            | refine T_cond_t rfl ?_
            | refine T_cond_f rfl ?_
            | refine wdW_cons rfl ?_
            | (show wcall _ false (.lit (.func (.func 59) _ _)) _ _ _ _; refine wcall_fn (h59r) rfl (by simp [plainL, plain, plainR, Int.toNat_natCast, hw0, en, l0]) ?_)
            | (show wcallX _ false (.lit (.func (.func 59) _ _)) _ _ _ _; refine wcallX_fn (h59r) rfl (by simp [plainL, plain]) ?_)
            | (show wcall _ false (.lit (.func (.func 59) _ _)) _ _ _ _; refine wcall_fn (h59d) rfl (by simp [plainL, plain, plainR, Int.toNat_natCast, hw0, en, l0]) ?_)
            | (show wcallX _ false (.lit (.func (.func 59) _ _)) _ _ _ _; refine wcallX_fn (h59d) rfl (by simp [plainL, plain]) ?_)
            | ((first | refine T_cond rfl (fun hc => ?_) (fun hc => ?_) | refine wguard_split (fun hc => ?_) (fun hc => ?_) | refine wguardX_split (fun hc => ?_) (fun hc => ?_)) <;> have hd := hc <;> (try simp (disch := omega) only [wrapI] at hd) <;> have hs := hd <;> (try simp only [decide_eq_true_eq, decide_eq_false_iff_not, Int.not_lt] at hd) <;> (try simp at hs))
            | refine T_ret ?_
            | refine wif_intro ?_ (fun hc => ?_)
            | refine And.intro ?_ ?_
            | intro hc
          | simp (maxSteps := 4000000) only [wops_nil, wops_cons, wstep_none, wrun_mv, wrun_pick, wrun_bin, wrun_load, wrun_faddr, wrun_iaddrS, wrunX_mv, wrunX_pick, wrunX_bin, wrunX_load, wrunX_faddr, wrunX_iaddrS, wdW_nil, wstepX_none, wstepX_some, wguardX_true, wguardX_ff, wguardX_ft, wrunX_call, wop, aop, ev, look, put_some, writes, ores_some, ores_ite_none, binV, thenK, blockK, value, cut, hget, toLits, mkAgg, List.map_cons, List.map_nil, List.length_cons, List.length_nil, List.take_succ_cons, List.take_zero, List.take_nil, List.drop_succ_cons, List.drop_zero, List.append_nil, List.replicate_zero, List.getD_cons_zero, List.length_map, Option.getD_some, Option.map_some, if_true, if_false, Nat.reduceEqDiff, Nat.add_zero, Nat.zero_add, reduceCtorEq, Bool.false_eq_true, eq_self, and_true, and_self, decide_true, freeze, lidsL, lids, List.flatMap_cons, List.flatMap_nil, ren, Int.toNat_natCast, *]
          | simp (disch := omega) only [getD_ints, wrapI]
          | (with_reducible show wcall _ false (.lit (.func (.func 59) _ _)) _ _ _ _; refine wcall_fn (h59r) ?_ ?_ ?_; (next => simp [rfyL, rfy, hget, ints, take_rfy, Int.toNat_natCast, hw0, en, l0]); (next => simp [plainL, plain, plainR, Int.toNat_natCast, hw0, en, l0]))
          | (with_reducible show wcallX _ false (.lit (.func (.func 59) _ _)) _ _ _ _; refine wcallX_fn (h59r) ?_ ?_ ?_; (next => simp [rfyL, rfy, hget, ints, take_rfy, Int.toNat_natCast, hw0, en, l0]); (next => simp [plainL, plain, plainR, Int.toNat_natCast, hw0, en, l0]))
          | (with_reducible show wcall _ false (.lit (.func (.func 59) _ _)) _ _ _ _; refine wcall_fn (h59d) ?_ ?_ ?_; (next => simp [rfyL, rfy, hget, ints, take_rfy, Int.toNat_natCast, hw0, en, l0]); (next => simp [plainL, plain, plainR, Int.toNat_natCast, hw0, en, l0]))
          | (with_reducible show wcallX _ false (.lit (.func (.func 59) _ _)) _ _ _ _; refine wcallX_fn (h59d) ?_ ?_ ?_; (next => simp [rfyL, rfy, hget, ints, take_rfy, Int.toNat_natCast, hw0, en, l0]); (next => simp [plainL, plain, plainR, Int.toNat_natCast, hw0, en, l0]))
          | (with_reducible refine wdW_cons ?_ ?_; (next => simp [chk, foot, compatB, argsOf, St.get, target, ev, look, lidsL, hget, kind, wids, wtops, tops, opds, topId, Int.toNat_natCast, hw0, en, l0]; done))
          | omega)
        all_goals first | exact f.down.1 | exact f.down.2 | (simp [St.only, get_mk, look]; done)
    · have hm2 : decide ((i : Int) + w < zs.length) = false := decide_eq_false m2
      have f := fin (hokR (.inl m1)) (hokD (.inl m2))
      clear hokR hokD fin gR gD hT hn m1
      unfold c12l1
      repeat' (first
        | ((with_reducible refine T_calm ?_ ?_); rfl)
        | with_reducible first
          | refine T_seq ?_
          | refine T_reg ?_
          | refine T_draw ?_
          | refine T_skip ?_
          | refine T_exit ?_
          | refine T_block ?_
          | refine T_cond_t rfl ?_
          | refine T_cond_f rfl ?_
          | refine wdW_cons rfl ?_
          | (show wcall _ false (.lit (.func (.func 59) _ _)) _ _ _ _; refine wcall_fn (h59r) rfl (by simp [plainL, plain, plainR, Int.toNat_natCast, hw0, en, l0]) ?_)
          | (show wcallX _ false (.lit (.func (.func 59) _ _)) _ _ _ _; refine wcallX_fn (h59r) rfl (by simp [plainL, plain, plainR, Int.toNat_natCast, hw0, en, l0]) ?_)
          | (show wcall _ false (.lit (.func (.func 59) _ _)) _ _ _ _; refine wcall_fn (h59d) rfl (by simp [plainL, plain, plainR, Int.toNat_natCast, hw0, en, l0]) ?_)
          | (show wcallX _ false (.lit (.func (.func 59) _ _)) _ _ _ _; refine wcallX_fn (h59d) rfl (by simp [plainL, plain, plainR, Int.toNat_natCast, hw0, en, l0]) ?_)
          | ((first | refine T_cond rfl (fun hc => ?_) (fun hc => ?_) | refine wguard_split (fun hc => ?_) (fun hc => ?_) | refine wguardX_split (fun hc => ?_) (fun hc => ?_)) <;> have hd := hc <;> (try simp (disch := omega) only [wrapI] at hd) <;> have hs := hd <;> (try simp only [decide_eq_true_eq, decide_eq_false_iff_not, Int.not_lt] at hd) <;> (try simp at hs))
          | refine T_ret ?_
          | refine wif_intro ?_ (fun hc => ?_)
          | refine And.intro ?_ ?_
          | intro hc
        | simp (maxSteps := 4000000) only [wops_nil, wops_cons, wstep_none, wrun_mv, wrun_pick, wrun_bin, wrun_load, wrun_faddr, wrunX_mv, wrunX_pick, wrunX_bin, wrunX_load, wrunX_faddr, wdW_nil, wstepX_none, wstepX_some, wguardX_ff, wguardX_ft, wop, aop, ev, look, put_some, writes, ores_some, binV, thenK, blockK, value, cut, hget, toLits, mkAgg, List.length_cons, List.length_nil, List.take_succ_cons, List.take_zero, List.drop_zero, List.append_nil, List.replicate_zero, List.getD_cons_zero, Option.getD_some, Option.map_some, if_true, if_false, Nat.reduceEqDiff, Nat.add_zero, Nat.zero_add, reduceCtorEq, Bool.false_eq_true, eq_self, decide_true, decide_false, Int.toNat_natCast, *]
        | simp (disch := omega) only [getD_ints, wrapI]
        | (with_reducible show wcall _ false (.lit (.func (.func 59) _ _)) _ _ _ _; refine wcall_fn (h59r) ?_ ?_ ?_; (next => simp [rfyL, rfy, hget, ints, take_rfy, Int.toNat_natCast, hw0, en, l0]); (next => simp [plainL, plain, plainR, Int.toNat_natCast, hw0, en, l0]))
        | (with_reducible show wcallX _ false (.lit (.func (.func 59) _ _)) _ _ _ _; refine wcallX_fn (h59r) ?_ ?_ ?_; (next => simp [rfyL, rfy, hget, ints, take_rfy, Int.toNat_natCast, hw0, en, l0]); (next => simp [plainL, plain, plainR, Int.toNat_natCast, hw0, en, l0]))
        | (with_reducible show wcall _ false (.lit (.func (.func 59) _ _)) _ _ _ _; refine wcall_fn (h59d) ?_ ?_ ?_; (next => simp [rfyL, rfy, hget, ints, take_rfy, Int.toNat_natCast, hw0, en, l0]); (next => simp [plainL, plain, plainR, Int.toNat_natCast, hw0, en, l0]))
        | (with_reducible show wcallX _ false (.lit (.func (.func 59) _ _)) _ _ _ _; refine wcallX_fn (h59d) ?_ ?_ ?_; (next => simp [rfyL, rfy, hget, ints, take_rfy, Int.toNat_natCast, hw0, en, l0]); (next => simp [plainL, plain, plainR, Int.toNat_natCast, hw0, en, l0]))
        | (with_reducible refine wdW_cons ?_ ?_; (next => simp [chk, foot, compatB, argsOf, St.get, target, ev, look, lidsL, hget, kind, wids, wtops, tops, opds, topId, Int.toNat_natCast, hw0, en, l0]; done))
        | omega)
      all_goals first | exact f.down.1 | exact f.down.2 | (simp [St.only, get_mk, look]; done)
  · have hm1 : (((i : Int) + 1).tmod w != 0) = true := by simp only [bne_iff_ne]; exact m1
    obtain ⟨g2, g4⟩ := gR m1
    by_cases p1 : 500 ≤ ar
    · have hp1 : decide (ar ≥ 500) = true := decide_eq_true p1
      clear m1 p1
      clear hokR hokD fin gR gD hn
      unfold c12l1
      repeat' (first
        | ((with_reducible refine T_calm ?_ ?_); rfl)
        | with_reducible first
          | refine T_seq ?_
          | refine T_reg ?_
          | refine T_draw ?_
          | refine T_skip ?_
          | refine T_exit ?_
          | refine T_block ?_
          | refine T_cond_t rfl ?_
          | refine T_cond_f rfl ?_
          | refine wdW_cons rfl ?_
          | (show wcall _ false (.lit (.func (.func 59) _ _)) _ _ _ _; refine wcall_fn (h59r) rfl (by simp [plainL, plain, plainR, Int.toNat_natCast, hw0, en, l0]) ?_)
          | (show wcallX _ false (.lit (.func (.func 59) _ _)) _ _ _ _; refine wcallX_fn (h59r) rfl (by simp [plainL, plain]) ?_)
          | (show wcall _ false (.lit (.func (.func 59) _ _)) _ _ _ _; refine wcall_fn (h59d) rfl (by simp [plainL, plain, plainR, Int.toNat_natCast, hw0, en, l0]) ?_)
          | (show wcallX _ false (.lit (.func (.func 59) _ _)) _ _ _ _; refine wcallX_fn (h59d) rfl (by simp [plainL, plain, plainR, Int.toNat_natCast, hw0, en, l0]) ?_)
          | ((first | refine T_cond rfl (fun hc => ?_) (fun hc => ?_) | refine wguard_split (fun hc => ?_) (fun hc => ?_) | refine wguardX_split (fun hc => ?_) (fun hc => ?_)) <;> have hd := hc <;> (try simp (disch := omega) only [wrapI] at hd) <;> have hs := hd <;> (try simp only [decide_eq_true_eq, decide_eq_false_iff_not, Int.not_lt] at hd) <;> (try simp at hs))
          | refine T_ret ?_
          | refine wif_intro ?_ (fun hc => ?_)
          | refine And.intro ?_ ?_
          | intro hc
        | simp (maxSteps := 4000000) only [wops_nil, wops_cons, wstep_none, wguardX_undef, wrun_mv, wrun_pick, wrun_bin, wrun_load, wrun_faddr, wrun_iaddrS, wrunX_mv, wrunX_pick, wrunX_bin, wrunX_load, wrunX_faddr, wrunX_iaddrS, wdW_nil, wstepX_none, wstepX_some, wguardX_true, wguardX_tf, wrunX_call, wop, aop, ev, look, put_some, writes, ores_some, ores_ite_none, binV, thenK, blockK, value, cut, hget, toLits, mkAgg, List.map_cons, List.map_nil, List.length_cons, List.length_nil, List.take_succ_cons, List.take_zero, List.take_nil, List.drop_succ_cons, List.drop_zero, List.append_nil, List.replicate_zero, List.getD_cons_zero, List.length_map, Option.getD_some, Option.map_some, if_true, if_false, Nat.reduceEqDiff, Nat.add_zero, Nat.zero_add, reduceCtorEq, Bool.false_eq_true, eq_self, and_true, and_self, decide_true, freeze, lidsL, lids, List.flatMap_cons, List.flatMap_nil, ren, Int.toNat_natCast, *]
        | simp (disch := omega) only [getD_ints, wrapI]
        | (with_reducible show wcall _ false (.lit (.func (.func 59) _ _)) _ _ _ _; refine wcall_fn (h59r) ?_ ?_ ?_; (next => simp [rfyL, rfy, hget, ints, take_rfy, Int.toNat_natCast, hw0, en, l0]); (next => simp [plainL, plain, plainR, Int.toNat_natCast, hw0, en, l0]))
        | (with_reducible show wcallX _ false (.lit (.func (.func 59) _ _)) _ _ _ _; refine wcallX_fn (h59r) ?_ ?_ ?_; (next => simp [rfyL, rfy, hget, ints, take_rfy, Int.toNat_natCast, hw0, en, l0]); (next => simp [plainL, plain, plainR, Int.toNat_natCast, hw0, en, l0]))
        | (with_reducible show wcall _ false (.lit (.func (.func 59) _ _)) _ _ _ _; refine wcall_fn (h59d) ?_ ?_ ?_; (next => simp [rfyL, rfy, hget, ints, take_rfy, Int.toNat_natCast, hw0, en, l0]); (next => simp [plainL, plain, plainR, Int.toNat_natCast, hw0, en, l0]))
        | (with_reducible show wcallX _ false (.lit (.func (.func 59) _ _)) _ _ _ _; refine wcallX_fn (h59d) ?_ ?_ ?_; (next => simp [rfyL, rfy, hget, ints, take_rfy, Int.toNat_natCast, hw0, en, l0]); (next => simp [plainL, plain, plainR, Int.toNat_natCast, hw0, en, l0]))
        | (with_reducible refine wdW_cons ?_ ?_; (next => simp [chk, foot, compatB, argsOf, St.get, target, ev, look, lidsL, hget, kind, wids, wtops, tops, opds, topId, Int.toNat_natCast, hw0, en, l0]; done))
        | omega)
      all_goals first | exact hT.down _ rfl
    · have hp1 : decide (ar ≥ 500) = false := decide_eq_false p1
      by_cases m2 : (i : Int) + w < zs.length
      · have hm2 : decide ((i : Int) + w < zs.length) = true := decide_eq_true m2
        have g3 := gD m2
        by_cases p2 : 500 ≤ ad
        · have hp2 : decide (ad ≥ 500) = true := decide_eq_true p2
          clear m1 p2 p1
          clear hokR hokD fin gR gD hn
          unfold c12l1
          repeat' (first
            | ((with_reducible refine T_calm ?_ ?_); rfl)
            | with_reducible first
              | refine T_seq ?_
              | refine T_reg ?_
              | refine T_draw ?_
              | refine T_skip ?_
              | refine T_exit ?_
              | refine T_block ?_
              | refine T_cond_t rfl ?_
              | refine T_cond_f rfl ?_
              | refine wdW_cons rfl ?_
              | (show wcall _ false (.lit (.func (.func 59) _ _)) _ _ _ _; refine wcall_fn (h59r) rfl (by simp [plainL, plain, plainR, Int.toNat_natCast, hw0, en, l0]) ?_)
              | (show wcallX _ false (.lit (.func (.func 59) _ _)) _ _ _ _; refine wcallX_fn (h59r) rfl (by simp [plainL, plain]) ?_)
              | (show wcall _ false (.lit (.func (.func 59) _ _)) _ _ _ _; refine wcall_fn (h59d) rfl (by simp [plainL, plain, plainR, Int.toNat_natCast, hw0, en, l0]) ?_)
              | (show wcallX _ false (.lit (.func (.func 59) _ _)) _ _ _ _; refine wcallX_fn (h59d) rfl (by simp [plainL, plain]) ?_)
              | ((first | refine T_cond rfl (fun hc => ?_) (fun hc => ?_) | refine wguard_split (fun hc => ?_) (fun hc => ?_) | refine wguardX_split (fun hc => ?_) (fun hc => ?_)) <;> have hd := hc <;> (try simp (disch := omega) only [wrapI] at hd) <;> have hs := hd <;> (try simp only [decide_eq_true_eq, decide_eq_false_iff_not, Int.not_lt] at hd) <;> (try simp at hs))
              | refine T_ret ?_
              | refine wif_intro ?_ (fun hc => ?_)
              | refine And.intro ?_ ?_
              | intro hc
            | simp (maxSteps := 4000000) only [wops_nil, wops_cons, wstep_none, wrun_mv, wrun_pick, wrun_bin, wrun_load, wrun_faddr, wrun_iaddrS, wrunX_mv, wrunX_pick, wrunX_bin, wrunX_load, wrunX_faddr, wrunX_iaddrS, wdW_nil, wstepX_none, wstepX_some, wguardX_true, wguardX_ff, wrunX_call, wop, aop, ev, look, put_some, writes, ores_some, ores_ite_none, binV, thenK, blockK, value, cut, hget, toLits, mkAgg, List.map_cons, List.map_nil, List.length_cons, List.length_nil, List.take_succ_cons, List.take_zero, List.take_nil, List.drop_succ_cons, List.drop_zero, List.append_nil, List.replicate_zero, List.getD_cons_zero, List.length_map, Option.getD_some, Option.map_some, if_true, if_false, Nat.reduceEqDiff, Nat.add_zero, Nat.zero_add, reduceCtorEq, Bool.false_eq_true, eq_self, and_true, and_self, decide_true, freeze, lidsL, lids, List.flatMap_cons, List.flatMap_nil, ren, Int.toNat_natCast, *]
            | simp (disch := omega) only [getD_ints, wrapI]
            | (with_reducible show wcall _ false (.lit (.func (.func 59) _ _)) _ _ _ _; refine wcall_fn (h59r) ?_ ?_ ?_; (next => simp [rfyL, rfy, hget, ints, take_rfy, Int.toNat_natCast, hw0, en, l0]); (next => simp [plainL, plain, plainR, Int.toNat_natCast, hw0, en, l0]))
            | (with_reducible show wcallX _ false (.lit (.func (.func 59) _ _)) _ _ _ _; refine wcallX_fn (h59r) ?_ ?_ ?_; (next => simp [rfyL, rfy, hget, ints, take_rfy, Int.toNat_natCast, hw0, en, l0]); (next => simp [plainL, plain, plainR, Int.toNat_natCast, hw0, en, l0]))
            | (with_reducible show wcall _ false (.lit (.func (.func 59) _ _)) _ _ _ _; refine wcall_fn (h59d) ?_ ?_ ?_; (next => simp [rfyL, rfy, hget, ints, take_rfy, Int.toNat_natCast, hw0, en, l0]); (next => simp [plainL, plain, plainR, Int.toNat_natCast, hw0, en, l0]))
            | (with_reducible show wcallX _ false (.lit (.func (.func 59) _ _)) _ _ _ _; refine wcallX_fn (h59d) ?_ ?_ ?_; (next => simp [rfyL, rfy, hget, ints, take_rfy, Int.toNat_natCast, hw0, en, l0]); (next => simp [plainL, plain, plainR, Int.toNat_natCast, hw0, en, l0]))
            | (with_reducible refine wdW_cons ?_ ?_; (next => simp [chk, foot, compatB, argsOf, St.get, target, ev, look, lidsL, hget, kind, wids, wtops, tops, opds, topId, Int.toNat_natCast, hw0, en, l0]; done))
            | omega)
          all_goals first | exact hT.down _ rfl
        · have hp2 : decide (ad ≥ 500) = false := decide_eq_false p2
          have f := fin (hokR (.inr p1)) (hokD (.inr p2))
          clear hokR hokD fin gR gD hT hn p1 m1 p2
          unfold c12l1
          repeat' (first
            | ((with_reducible refine T_calm ?_ ?_); rfl)
            | with_reducible first
              | refine T_seq ?_
              | refine T_reg ?_
              | refine T_draw ?_
              | refine T_skip ?_
              | refine T_exit ?_
              | refine T_block ?_
              | refine T_cond_t rfl ?_
              | refine T_cond_f rfl ?_
              | refine wdW_cons rfl ?_
              | (show wcall _ false (.lit (.func (.func 59) _ _)) _ _ _ _; refine wcall_fn (h59r) rfl (by simp [plainL, plain, plainR, Int.toNat_natCast, hw0, en, l0]) ?_)
              | (show wcallX _ false (.lit (.func (.func 59) _ _)) _ _ _ _; refine wcallX_fn (h59r) rfl (by simp [plainL, plain]) ?_)
              | (show wcall _ false (.lit (.func (.func 59) _ _)) _ _ _ _; refine wcall_fn (h59d) rfl (by simp [plainL, plain, plainR, Int.toNat_natCast, hw0, en, l0]) ?_)
              | (show wcallX _ false (.lit (.func (.func 59) _ _)) _ _ _ _; refine wcallX_fn (h59d) rfl (by simp [plainL, plain]) ?_)
              | ((first | refine T_cond rfl (fun hc => ?_) (fun hc => ?_) | refine wguard_split (fun hc => ?_) (fun hc => ?_) | refine wguardX_split (fun hc => ?_) (fun hc => ?_)) <;> have hd := hc <;> (try simp (disch := omega) only [wrapI] at hd) <;> have hs := hd <;> (try simp only [decide_eq_true_eq, decide_eq_false_iff_not, Int.not_lt] at hd) <;> (try simp at hs))
              | refine T_ret ?_
              | refine wif_intro ?_ (fun hc => ?_)
              | refine And.intro ?_ ?_
              | intro hc
            | simp (maxSteps := 4000000) only [wops_nil, wops_cons, wstep_none, wrun_mv, wrun_pick, wrun_bin, wrun_load, wrun_faddr, wrun_iaddrS, wrunX_mv, wrunX_pick, wrunX_bin, wrunX_load, wrunX_faddr, wrunX_iaddrS, wdW_nil, wstepX_none, wstepX_some, wguardX_true, wguardX_ff, wrunX_call, wop, aop, ev, look, put_some, writes, ores_some, ores_ite_none, binV, thenK, blockK, value, cut, hget, toLits, mkAgg, List.map_cons, List.map_nil, List.length_cons, List.length_nil, List.take_succ_cons, List.take_zero, List.take_nil, List.drop_succ_cons, List.drop_zero, List.append_nil, List.replicate_zero, List.getD_cons_zero, List.length_map, Option.getD_some, Option.map_some, if_true, if_false, Nat.reduceEqDiff, Nat.add_zero, Nat.zero_add, reduceCtorEq, Bool.false_eq_true, eq_self, and_true, and_self, decide_true, freeze, lidsL, lids, List.flatMap_cons, List.flatMap_nil, ren, Int.toNat_natCast, *]
            | simp (disch := omega) only [getD_ints, wrapI]
            | (with_reducible show wcall _ false (.lit (.func (.func 59) _ _)) _ _ _ _; refine wcall_fn (h59r) ?_ ?_ ?_; (next => simp [rfyL, rfy, hget, ints, take_rfy, Int.toNat_natCast, hw0, en, l0]); (next => simp [plainL, plain, plainR, Int.toNat_natCast, hw0, en, l0]))
            | (with_reducible show wcallX _ false (.lit (.func (.func 59) _ _)) _ _ _ _; refine wcallX_fn (h59r) ?_ ?_ ?_; (next => simp [rfyL, rfy, hget, ints, take_rfy, Int.toNat_natCast, hw0, en, l0]); (next => simp [plainL, plain, plainR, Int.toNat_natCast, hw0, en, l0]))
            | (with_reducible show wcall _ false (.lit (.func (.func 59) _ _)) _ _ _ _; refine wcall_fn (h59d) ?_ ?_ ?_; (next => simp [rfyL, rfy, hget, ints, take_rfy, Int.toNat_natCast, hw0, en, l0]); (next => simp [plainL, plain, plainR, Int.toNat_natCast, hw0, en, l0]))
            | (with_reducible show wcallX _ false (.lit (.func (.func 59) _ _)) _ _ _ _; refine wcallX_fn (h59d) ?_ ?_ ?_; (next => simp [rfyL, rfy, hget, ints, take_rfy, Int.toNat_natCast, hw0, en, l0]); (next => simp [plainL, plain, plainR, Int.toNat_natCast, hw0, en, l0]))
            | (with_reducible refine wdW_cons ?_ ?_; (next => simp [chk, foot, compatB, argsOf, St.get, target, ev, look, lidsL, hget, kind, wids, wtops, tops, opds, topId, Int.toNat_natCast, hw0, en, l0]; done))
            | omega)
          all_goals first | exact f.down.1 | exact f.down.2 | (simp [St.only, get_mk, look]; done)
      · have hm2 : decide ((i : Int) + w < zs.length) = false := decide_eq_false m2
        have f := fin (hokR (.inr p1)) (hokD (.inl m2))
        clear hokR hokD fin gR gD hT hn p1 m1
        unfold c12l1
        repeat' (first
          | ((with_reducible refine T_calm ?_ ?_); rfl)
          | with_reducible first
            | refine T_seq ?_
            | refine T_reg ?_
            | refine T_draw ?_
            | refine T_skip ?_
            | refine T_exit ?_
            | refine T_block ?_
            | refine T_cond_t rfl ?_
            | refine T_cond_f rfl ?_
            | refine wdW_cons rfl ?_
            | (show wcall _ false (.lit (.func (.func 59) _ _)) _ _ _ _; refine wcall_fn (h59r) rfl (by simp [plainL, plain, plainR, Int.toNat_natCast, hw0, en, l0]) ?_)
            | (show wcallX _ false (.lit (.func (.func 59) _ _)) _ _ _ _; refine wcallX_fn (h59r) rfl (by simp [plainL, plain]) ?_)
            | (show wcall _ false (.lit (.func (.func 59) _ _)) _ _ _ _; refine wcall_fn (h59d) rfl (by simp [plainL, plain, plainR, Int.toNat_natCast, hw0, en, l0]) ?_)
            | (show wcallX _ false (.lit (.func (.func 59) _ _)) _ _ _ _; refine wcallX_fn (h59d) rfl (by simp [plainL, plain, plainR, Int.toNat_natCast, hw0, en, l0]) ?_)
            | ((first | refine T_cond rfl (fun hc => ?_) (fun hc => ?_) | refine wguard_split (fun hc => ?_) (fun hc => ?_) | refine wguardX_split (fun hc => ?_) (fun hc => ?_)) <;> have hd := hc <;> (try simp (disch := omega) only [wrapI] at hd) <;> have hs := hd <;> (try simp only [decide_eq_true_eq, decide_eq_false_iff_not, Int.not_lt] at hd) <;> (try simp at hs))
            | refine T_ret ?_
            | refine wif_intro ?_ (fun hc => ?_)
            | refine And.intro ?_ ?_
            | intro hc
          | simp (maxSteps := 4000000) only [wops_nil, wops_cons, wstep_none, wrun_mv, wrun_pick, wrun_bin, wrun_load, wrun_faddr, wrun_iaddrS, wrunX_mv, wrunX_pick, wrunX_bin, wrunX_load, wrunX_faddr, wrunX_iaddrS, wdW_nil, wstepX_none, wstepX_some, wguardX_true, wguardX_ff, wguardX_ft, wrunX_call, wop, aop, ev, look, put_some, writes, ores_some, ores_ite_none, binV, thenK, blockK, value, cut, hget, toLits, mkAgg, List.map_cons, List.map_nil, List.length_cons, List.length_nil, List.take_succ_cons, List.take_zero, List.take_nil, List.drop_succ_cons, List.drop_zero, List.append_nil, List.replicate_zero, List.getD_cons_zero, List.length_map, Option.getD_some, Option.map_some, if_true, if_false, Nat.reduceEqDiff, Nat.add_zero, Nat.zero_add, reduceCtorEq, Bool.false_eq_true, eq_self, and_true, and_self, decide_true, decide_false, freeze, lidsL, lids, List.flatMap_cons, List.flatMap_nil, ren, Int.toNat_natCast, *]
          | simp (disch := omega) only [getD_ints, wrapI]
          | (with_reducible show wcall _ false (.lit (.func (.func 59) _ _)) _ _ _ _; refine wcall_fn (h59r) ?_ ?_ ?_; (next => simp [rfyL, rfy, hget, ints, take_rfy, Int.toNat_natCast, hw0, en, l0]); (next => simp [plainL, plain, plainR, Int.toNat_natCast, hw0, en, l0]))
          | (with_reducible show wcallX _ false (.lit (.func (.func 59) _ _)) _ _ _ _; refine wcallX_fn (h59r) ?_ ?_ ?_; (next => simp [rfyL, rfy, hget, ints, take_rfy, Int.toNat_natCast, hw0, en, l0]); (next => simp [plainL, plain, plainR, Int.toNat_natCast, hw0, en, l0]))
          | (with_reducible show wcall _ false (.lit (.func (.func 59) _ _)) _ _ _ _; refine wcall_fn (h59d) ?_ ?_ ?_; (next => simp [rfyL, rfy, hget, ints, take_rfy, Int.toNat_natCast, hw0, en, l0]); (next => simp [plainL, plain, plainR, Int.toNat_natCast, hw0, en, l0]))
          | (with_reducible show wcallX _ false (.lit (.func (.func 59) _ _)) _ _ _ _; refine wcallX_fn (h59d) ?_ ?_ ?_; (next => simp [rfyL, rfy, hget, ints, take_rfy, Int.toNat_natCast, hw0, en, l0]); (next => simp [plainL, plain, plainR, Int.toNat_natCast, hw0, en, l0]))
          | (with_reducible refine wdW_cons ?_ ?_; (next => simp [chk, foot, compatB, argsOf, St.get, target, ev, look, lidsL, hget, kind, wids, wtops, tops, opds, topId, Int.toNat_natCast, hw0, en, l0]; done))
          | omega)
        all_goals first | exact f.down.1 | exact f.down.2 | (simp [St.only, get_mk, look]; done)
end
end Go.Abs
