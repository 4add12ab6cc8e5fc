import Derived.Test.YtodheeifecoebaaAbs21
import Derived.Test.YtodheeifecoebaaK40x
import Derived.Test.YtodheeifecoebaaK7x
set_option linter.all false
set_option linter.unusedVariables false
set_option linter.unusedSimpArgs false
set_option linter.unusedSectionVars false
namespace Go.Abs
open Go.Proofs
theorem IterOk.weaken {P : Program} {gf : FuncId} {first cap : List AV} {n : Nat} {E E' : Nat → List Blk → List AV → Prop} {B B' : List Blk → Prop} (h : IterOk P gf first cap n E B) (hE : ∀ k H a, E k H a → E' k H a) (hB : ∀ H, B' H → B H) : IterOk P gf first cap n E' B' :=
  fun hl J Jx H h1 h2 h3 => h hl J Jx H (fun k H' hj => ⟨(h1 k H' hj).1, hB _ (h1 k H' hj).2⟩) (fun k H' a hk hj he => h2 k H' a hk hj (hE _ _ _ he)) h3
theorem key_inj {w w' c c' : Int} {nil nil' : Bool} {ph ph' : List Int} (h : w :: c :: (if nil then (1 : Int) else 0) :: ph = w' :: c' :: (if nil' then (1 : Int) else 0) :: ph') : w = w' ∧ c = c' ∧ nil = nil' ∧ ph = ph' := by
  simp only [List.cons.injEq] at h
  exact ⟨h.1, h.2.1, by cases nil <;> cases nil' <;> simp at h ⊢, h.2.2.2⟩
theorem itA_ok : ItOk Try.prog itA := by
  intro gf first cap H0 x hx
  obtain ⟨ic, ig, w, c, nil, ph, rfl, rfl, rfl, hg, hw, hc, hl, rfl⟩ := itA_iff hx
  refine ⟨(i146 ic ig w c nil ph hw hc hl _ rfl).weaken (fun _ _ _ h => h) (fun H hH => ?_), fun H hl0 r s h1 h2 => ?_⟩
  · obtain ⟨ic', ig', w', c', nil', ph', _, _, hcap, hg', _, _, _, he⟩ := itA_iff hH
    simp only [List.cons.injEq, AV.loc.injEq, and_true] at hcap
    obtain ⟨rfl, rfl⟩ := hcap
    obtain ⟨rfl, rfl, rfl, rfl⟩ := key_inj (Prod.mk.inj he).2
    exact gridOf_ok hg'
  · obtain ⟨ic', ig', w', c', nil', ph', _, _, hcap, hg', hw', hc', hl', he⟩ := itA_iff h2
    simp only [List.cons.injEq, AV.loc.injEq, and_true] at hcap
    obtain ⟨rfl, rfl⟩ := hcap
    obtain ⟨⟨o, n, h3⟩, o2, n2, h4⟩ := gridOf_ok hg'
    have keep : ∀ {i : Nat} {b : Blk}, (∀ o, b ≠ .obj o) → (H.set hl0 (.obj .lpx))[i]? = some b → H[i]? = some b := fun {i b} hb h => by
      by_cases hi : hl0 = i
      · subst hi
        rw [List.getElem?_set_self (by obtain ⟨hlt, _⟩ := List.getElem?_eq_some_iff.1 h1; exact hlt)] at h
        exact (hb _ (Option.some.inj h).symm).elim
      · rwa [List.getElem?_set_ne hi] at h
    rw [itA_of (gridOf_of ⟨⟨o, n, keep (by simp) h3⟩, o2, n2, keep (by simp) h4⟩) hw' hc' hl', he]
end Go.Abs
namespace Go.Abs
open Go.Proofs
abbrev far : Int := 1099511627776
noncomputable def rep1 (z : Nat) : Bool := match rcall Try.prog muts noPrim itA 400 143 [.sl false 1 [[i64 far]], i64 z] [] with
  | some (.lsl 0 0 n, [.cells true false 1 r]) => decide (n = z) && decide (unI r = some (List.replicate z far))
  | _ => false
theorem rep1_ok {z : Nat} (h : rep1 z = true) : Fn Try.prog 143 [ints false [far], i64 z] (.lsl 0 0 z) [.cells true false 1 ((List.replicate z far).map fun x => [i64 x])] := by
  unfold rep1 at h
  split at h
  · rename_i n r hr
    simp only [Bool.and_eq_true, decide_eq_true_eq] at h
    obtain ⟨h1, h2⟩ := h
    rw [unI_ok h2, h1] at hr
    exact rcall_ok (noPrim_ok _) itA_ok hr
  · simp at h
theorem rep_all : (List.range 41).all (fun z => z == 0 || rep1 z) = true := by kernel_rfl
theorem k143 (z : Nat) (hz : 1 ≤ z ∧ z ≤ 40) : Fn Try.prog 143 [ints false [far], i64 z] (.lsl 0 0 z) [.cells true false 1 ((List.replicate z far).map fun x => [i64 x])] := by
  have h := List.all_eq_true.1 rep_all z (by simp; omega)
  simp only [Bool.or_eq_true, beq_iff_eq] at h
  rcases h with h | h
  · omega
  · exact rep1_ok h
end Go.Abs
namespace Go.Abs
/-! sums, and lists told by a function of their numbers: nothing of the program here -/
def mk (n : Nat) (f : Nat → Int) : List Int := (List.range n).map f
/-! turned maps: V t i is what turn t shows at sector i; s sectors a turn -/
end Go.Abs
namespace Go.Abs
open Go.Proofs
/-! law 12: reads, Has, Abs -/
/-- is a number among the first k? -/
def hasB (l : List Int) (x : Int) : Bool := decide (∃ k, k < l.length ∧ l.getD k 0 = x)
set_option maxHeartbeats 8000000 in
theorem k58 (nil : Bool) (l : List Int) (x : Int) (hl : l.length < 1000000) : Fn Try.prog 58 [ints nil l, i64 x] (bl (hasB l x)) [] := by
  refine fn_of e58 ?_
  have hll : (l.map fun x => [i64 x]).length = l.length := by simp
  have hP : ∀ b, hasB l x = b → hasB l x = b := fun _ h => h
  replace hP := PLift.up hP
  unfold c58
  repeat' (first | (with_reducible first | refine T_seq ?_ | refine T_reg ?_ | refine T_skip ?_ | refine T_exit ?_ | refine T_block ?_ | refine T_cond_t rfl ?_ | refine T_cond_f rfl ?_ | refine T_ret ?_ | refine leave_of (.inr rfl) _ rfl ?_ | refine leave_of (.inl rfl) _ rfl ?_ | refine leaveA_of (.inr rfl) _ rfl ?_ | refine leaveA_of (.inl rfl) _ rfl ?_ | refine wif_intro ?_ (fun hc => ?_) | refine And.intro ?_ ?_ | intro hc) | simp (maxSteps := 4000000) only [wops_nil, wops_cons, wstep_none, wrun_mv, wop, aop, ev, put_some, writes, ores_some, thenK, List.map_cons, List.map_nil, List.length_nil, List.append_nil, List.replicate_zero, List.zipIdx_cons, List.zipIdx_nil, Nat.reduceAdd, Nat.zero_add, *] | simp (disch := omega) only [getD_ints, wrapI] | omega)
  refine T_for [0, 1, 5] (fun k => ⟨[(0, ints nil l), (1, i64 x), (5, i64 k)], []⟩) l.length (fun k => ∀ j, j < k → l.getD j 0 ≠ x) 0 rfl (fun j hj => by omega) (Nat.zero_le _) ?_
  intro k hk hI
  unfold c58l0
  by_cases hkn : k < l.length
  · have g1 : (l.map fun x => [i64 x]).getD k [] = [i64 (l.getD k 0)] := getD_ints hkn
    by_cases he : l.getD k 0 = x
    · have hb : hasB l x = true := decide_eq_true ⟨k, hkn, he⟩
      rw [hb]
      have h1 : (l.getD k 0 == x) = true := by simp only [beq_iff_eq]; exact he
      clear hI he hP hb
      repeat' (first | (with_reducible first | refine T_seq ?_ | refine T_reg ?_ | refine T_skip ?_ | refine T_exit ?_ | refine T_block ?_ | refine T_cond_t rfl ?_ | refine T_cond_f rfl ?_ | ((first | refine T_cond rfl (fun hc => ?_) (fun hc => ?_) | refine wguard_split (fun hc => ?_) (fun hc => ?_)) <;> have hd := hc <;> (try simp (disch := omega) only [wrapI] at hd) <;> have hs := hd <;> (try simp only [decide_eq_true_eq, decide_eq_false_iff_not, Int.not_lt] at hd) <;> (try simp at hs)) | refine T_ret ?_ | refine leave_of (.inr rfl) _ rfl ?_ | refine leave_of (.inl rfl) _ rfl ?_ | refine leaveA_of (.inr rfl) _ rfl ?_ | refine leaveA_of (.inl rfl) _ rfl ?_ | refine wif_intro ?_ (fun hc => ?_) | refine And.intro ?_ ?_ | intro hc) | simp (maxSteps := 4000000) only [wops_nil, wops_cons, wstep_none, wrun_mv, wrun_bin, wrun_load, wrun_iaddrS, wrun_len, get_mk, wop, aop, ev, look, put_some, writes, ores_some, ores_ite_none, ores_map, ores_bind, binV, thenK, blockK, intV, lenOf, value, cut, hget, mkAgg, tupOf, List.length_cons, List.length_nil, List.take_succ_cons, List.take_nil, List.drop_zero, List.append_nil, List.replicate_zero, Option.pure_def, Option.bind_eq_bind, Option.map_some, if_true, if_false, Nat.reduceEqDiff, Nat.zero_add, Nat.zero_ne_one, reduceCtorEq, Bool.false_eq_true, eq_self, true_and, and_true, and_self, decide_true, ne_eq, ren, Int.toNat_natCast, *] | simp (disch := omega) only [getD_ints, wrapI] | omega)
      all_goals first | rfl
    · have h1 : (l.getD k 0 == x) = false := by simp only [beq_eq_false_iff_ne]; exact he
      have hI2 : ∀ j, j < k + 1 → l.getD j 0 ≠ x := fun j hj => by
        rcases Nat.lt_succ_iff_lt_or_eq.1 hj with h | h
        · exact hI j h
        · rw [h]; exact he
      replace hI2 := PLift.up hI2
      clear hI he hP
      generalize hasB l x = B at *
      repeat' (first | (with_reducible first | refine T_seq ?_ | refine T_reg ?_ | refine T_skip ?_ | refine T_exit ?_ | refine T_block ?_ | refine T_cond_t rfl ?_ | refine T_cond_f rfl ?_ | ((first | refine T_cond rfl (fun hc => ?_) (fun hc => ?_) | refine wguard_split (fun hc => ?_) (fun hc => ?_)) <;> have hd := hc <;> (try simp (disch := omega) only [wrapI] at hd) <;> have hs := hd <;> (try simp only [decide_eq_true_eq, decide_eq_false_iff_not, Int.not_lt] at hd) <;> (try simp at hs)) | refine T_ret ?_ | refine leave_of (.inr rfl) _ rfl ?_ | refine leave_of (.inl rfl) _ rfl ?_ | refine leaveA_of (.inr rfl) _ rfl ?_ | refine leaveA_of (.inl rfl) _ rfl ?_ | refine wif_intro ?_ (fun hc => ?_) | refine And.intro ?_ ?_ | intro hc) | simp (maxSteps := 4000000) only [wops_nil, wops_cons, wstep_none, wrun_mv, wrun_bin, wrun_load, wrun_iaddrS, wrun_len, get_mk, wop, aop, ev, look, put_some, writes, ores_some, ores_ite_none, ores_map, ores_bind, binV, thenK, blockK, intV, lenOf, value, cut, hget, mkAgg, tupOf, List.length_cons, List.length_nil, List.take_succ_cons, List.take_nil, List.drop_zero, List.append_nil, List.replicate_zero, Option.pure_def, Option.bind_eq_bind, Option.map_some, if_true, if_false, Nat.reduceEqDiff, Nat.zero_add, Nat.zero_ne_one, reduceCtorEq, Bool.false_eq_true, eq_self, true_and, and_true, and_self, decide_true, ne_eq, ren, Int.toNat_natCast, *] | simp (disch := omega) only [wrapI] | omega)
      all_goals first | exact hI2.down _ (by assumption) | rfl | (simp [St.only, get_mk, look]; done)
  · have hke : k = l.length := by omega
    subst hke
    have hb : hasB l x = false := decide_eq_false fun ⟨j, hj, e⟩ => hI j hj e
    rw [hb]
    clear hI hP hb
    repeat' (first | (with_reducible first | refine T_seq ?_ | refine T_reg ?_ | refine T_skip ?_ | refine T_exit ?_ | refine T_block ?_ | refine T_cond_t rfl ?_ | refine T_cond_f rfl ?_ | ((first | refine T_cond rfl (fun hc => ?_) (fun hc => ?_) | refine wguard_split (fun hc => ?_) (fun hc => ?_)) <;> have hd := hc <;> (try simp (disch := omega) only [wrapI] at hd) <;> have hs := hd <;> (try simp only [decide_eq_true_eq, decide_eq_false_iff_not, Int.not_lt] at hd) <;> (try simp at hs)) | refine T_ret ?_ | refine leave_of (.inr rfl) _ rfl ?_ | refine leave_of (.inl rfl) _ rfl ?_ | refine leaveA_of (.inr rfl) _ rfl ?_ | refine leaveA_of (.inl rfl) _ rfl ?_ | refine wif_intro ?_ (fun hc => ?_) | refine And.intro ?_ ?_ | intro hc) | simp (maxSteps := 4000000) only [wops_nil, wops_cons, wstep_none, wrun_mv, wrun_bin, wrun_len, get_mk, wop, aop, ev, look, put_some, writes, ores_some, ores_map, ores_bind, binV, thenK, blockK, intV, lenOf, hget, tupOf, List.length_nil, List.append_nil, List.replicate_zero, Option.pure_def, Option.bind_eq_bind, Option.map_some, if_true, if_false, Nat.reduceEqDiff, reduceCtorEq, eq_self, false_and, ne_eq, ren, *] | simp (disch := omega) only [getD_ints, wrapI] | omega)
    all_goals first | rfl
end Go.Abs
