import Derived.Test.YtodheeifecoebaaK8
import Derived.Test.YtodheeifecoebaaK9
import Derived.Test.YtodheeifecoebaaK99
import Derived.Test.YtodheeifecoebaaK98x
import Derived.Test.YtodheeifecoebaaK337x
set_option linter.all false
set_option linter.unusedVariables false
set_option linter.unusedSimpArgs false
set_option linter.unusedSectionVars false
namespace Go.Abs
open Go.Proofs
/-! what the law calls -/
theorem conc_nilw {C : Ctx} {w w' : Nat} {u : Value} (h : Conc C (.sl true w []) u) : Conc C (.sl true w' []) u := by
  simp only [Conc, List.length_nil] at h ⊢
  simpa using h
theorem Fn.nil1 {P : Program} {g : FuncId} {a r : AV} {new : List Blk} {w w' : Nat} (h : Fn P g [a, .sl true w []] r new) : Fn P g [a, .sl true w' []] r new :=
  ⟨h.1, fun C cargs h1 h2 h3 => h.2 C cargs h1 h2 (by
    simp only [ConcL] at h3 ⊢
    obtain ⟨u, us, rfl, ha, u2, us2, rfl, hb, rfl⟩ := h3
    exact ⟨u, [u2], rfl, ha, u2, [], rfl, conc_nilw hb, rfl⟩)⟩
theorem Fn.nil0 {P : Program} {g : FuncId} {a r : AV} {new : List Blk} {w w' : Nat} (h : Fn P g [.sl true w [], a] r new) : Fn P g [.sl true w' [], a] r new :=
  ⟨h.1, fun C cargs h1 h2 h3 => h.2 C cargs h1 h2 (by
    simp only [ConcL] at h3 ⊢
    obtain ⟨u, us, rfl, ha, u2, us2, rfl, hb, rfl⟩ := h3
    exact ⟨u, [u2], rfl, conc_nilw ha, u2, [], rfl, hb, rfl⟩)⟩
def cI (out : List Nat) : List Int := out.map fun i : Nat => (i : Int)
def pV (out : List Nat) : AV := if out = [] then .sl true 0 [] else .sl false 1 (iRw (cI out))
set_option maxHeartbeats 8000000 in
theorem k48o (out : List Nat) (hl : out.length < 1000) : Fn Try.prog 48 [pV out, pV out] (bl true) [] := by
  unfold pV
  split
  · exact Fn.nil0 (w := 1) (Fn.nil1 (w := 1) (k48 true true [] (by simp)))
  · exact k48 false false (cI out) (by simp [cI]; omega)
theorem hasB_cI (out : List Nat) (i : Nat) : hasB (cI out) (i : Int) = decide (i ∈ out) := by
  unfold hasB
  refine decide_eq_decide.2 ⟨?_, fun h => ?_⟩
  · rintro ⟨k, hk, h⟩
    simp only [cI, List.length_map] at hk
    rw [cI, List.getD_eq_getElem?_getD, List.getElem?_map, List.getElem?_eq_getElem hk] at h
    simp only [Option.map_some, Option.getD_some] at h
    have : out[k] = i := by omega
    rw [← this]
    exact List.getElem_mem hk
  · obtain ⟨k, hk, h⟩ := List.getElem_of_mem h
    refine ⟨k, by simpa [cI] using hk, ?_⟩
    rw [cI, List.getD_eq_getElem?_getD, List.getElem?_map, List.getElem?_eq_getElem hk, h]
    rfl
set_option maxHeartbeats 8000000 in
theorem k58o (out : List Nat) (i : Nat) (hl : out.length < 1000) : Fn Try.prog 58 [pV out, i64 (i : Int)] (bl (decide (i ∈ out))) [] := by
  unfold pV
  split
  · rename_i h
    subst h
    have h58 := k58 true [] (i : Int) (by simp)
    exact Fn.nil0 (w := 1) h58
  · have h58 := k58 false (cI out) (i : Int) (by simp [cI]; omega)
    rw [hasB_cI] at h58
    exact h58
set_option maxHeartbeats 8000000 in
theorem k69e {zi : Int} {l : List Rd} (hl : l.length < 1000000) (h : checkR zi l ≠ 0) : Fn Try.prog 69 [i64 zi, rdgs false l] (.tup [.sl true 0 [], i64 (checkR zi l)]) [] := by
  refine fn_of e69 ?_
  have h119 := k119e (nil := false) hl h
  generalize checkR zi l = d at *
  unfold c69
  repeat' (first | ((with_reducible refine T_calm ?_ ?_); rfl) | (with_reducible first | refine T_seq ?_ | refine T_reg ?_ | refine T_draw ?_ | refine T_skip ?_ | refine T_exit ?_ | refine T_block ?_ | refine T_cond_t rfl ?_ | refine T_cond_f rfl ?_ | refine wdW_cons rfl ?_ | (show wcall _ false (.lit (.func (.func 119) _ _)) _ _ _ _; refine wcall_fn (h119) rfl (by simp [plainL, plain]) ?_) | (show wcallX _ false (.lit (.func (.func 119) _ _)) _ _ _ _; refine wcallX_fn (h119) rfl (by simp [plainL, plain, plainR]) ?_) | ((first | refine T_cond rfl (fun hc => ?_) (fun hc => ?_) | refine wguard_split (fun hc => ?_) (fun hc => ?_) | refine wguardX_split (fun hc => ?_) (fun hc => ?_)) <;> have hd := hc <;> (try simp (disch := omega) only [wrapI] at hd) <;> have hs := hd <;> (try simp only [bne_iff_ne, bne_eq_false_iff_eq, ne_eq] at hd) <;> (try simp at hs)) | refine T_ret ?_ | refine leave_of (.inr rfl) _ rfl ?_ | refine leave_of (.inl rfl) _ rfl ?_ | refine leaveA_of (.inr rfl) _ rfl ?_ | refine leaveA_of (.inl rfl) _ rfl ?_ | refine wif_intro ?_ (fun hc => ?_) | refine And.intro ?_ ?_ | intro hc) | simp (maxSteps := 4000000) only [wops_nil, wops_cons, wstep_none, wrun_call, wrun_mv, wrun_bin, wrun_ext, get_mk, wop, aop, ev, look, put_some, writes, ores_some, binV, thenK, tupOf, List.map_cons, List.map_nil, List.length_nil, List.getElem?_cons_zero, List.getElem?_cons_succ, List.append_nil, List.replicate_zero, List.zipIdx_cons, List.zipIdx_nil, Option.map_some, if_true, if_false, Nat.reduceEqDiff, Nat.reduceAdd, Nat.zero_add, Nat.zero_ne_one, reduceCtorEq, eq_self, freeze, lidsL, lids, List.flatMap_cons, List.flatMap_nil, ren, renL, renR, *] | simp (disch := omega) only [getD_ints, wrapI] | (with_reducible show wcall _ false (.lit (.func (.func 119) _ _)) _ _ _ _; refine wcall_fn (h119) ?_ ?_ ?_; (next => simp [rfyL, rfy, hget, ints, take_rfy]); (next => simp [plainL, plain, plainR])) | (with_reducible show wcallX _ false (.lit (.func (.func 119) _ _)) _ _ _ _; refine wcallX_fn (h119) ?_ ?_ ?_; (next => simp [rfyL, rfy, hget, ints, take_rfy]); (next => simp [plainL, plain, plainR])) | omega)
set_option maxHeartbeats 8000000 in
theorem k69c {z : Nat} {l : List Rd} (h : checkR z l = 0) (hcyc : ∀ r, r ≤ z → 0 ≤ (rnds (arcsL l l.length) z (r + 1)).at_) : Fn Try.prog 69 [i64 z, rdgs false l] (.tup [.sl true 0 [], i64 13]) [] := by
  refine fn_of e69 ?_
  have h119 := k119c (nil := false) h hcyc
  clear hcyc
  unfold c69
  repeat' (first | ((with_reducible refine T_calm ?_ ?_); rfl) | (with_reducible first | refine T_seq ?_ | refine T_reg ?_ | refine T_draw ?_ | refine T_skip ?_ | refine T_exit ?_ | refine T_block ?_ | refine T_cond_t rfl ?_ | refine T_cond_f rfl ?_ | refine wdW_cons rfl ?_ | (show wcall _ false (.lit (.func (.func 119) _ _)) _ _ _ _; refine wcall_fn (h119) rfl (by simp [plainL, plain]) ?_) | (show wcallX _ false (.lit (.func (.func 119) _ _)) _ _ _ _; refine wcallX_fn (h119) rfl (by simp [plainL, plain, plainR]) ?_) | refine T_ret ?_ | refine leave_of (.inr rfl) _ rfl ?_ | refine leave_of (.inl rfl) _ rfl ?_ | refine leaveA_of (.inr rfl) _ rfl ?_ | refine leaveA_of (.inl rfl) _ rfl ?_ | refine wif_intro ?_ (fun hc => ?_) | refine And.intro ?_ ?_ | intro hc) | simp (maxSteps := 4000000) only [wops_nil, wops_cons, wstep_none, wrun_call, wrun_mv, wrun_bin, wrun_ext, get_mk, wop, aop, ev, look, put_some, writes, ores_some, binV, thenK, tupOf, List.map_cons, List.map_nil, List.length_nil, List.getElem?_cons_zero, List.getElem?_cons_succ, List.append_nil, List.replicate_zero, List.zipIdx_cons, List.zipIdx_nil, Option.map_some, if_true, if_false, Nat.reduceEqDiff, Nat.reduceAdd, Nat.zero_add, Nat.zero_ne_one, reduceCtorEq, eq_self, freeze, lidsL, lids, List.flatMap_cons, List.flatMap_nil, ren, renL, renR, *] | simp (disch := omega) only [getD_ints, wrapI] | (with_reducible show wcall _ false (.lit (.func (.func 119) _ _)) _ _ _ _; refine wcall_fn (h119) ?_ ?_ ?_; (next => simp [rfyL, rfy, hget, ints, take_rfy]); (next => simp [plainL, plain, plainR])) | (with_reducible show wcallX _ false (.lit (.func (.func 119) _ _)) _ _ _ _; refine wcallX_fn (h119) ?_ ?_ ?_; (next => simp [rfyL, rfy, hget, ints, take_rfy]); (next => simp [plainL, plain, plainR])) | omega)
def whole (z : Nat) (l : List Rd) : Bool := ((tb z l).getD 0 []).any isFar
def lfV (l : List Rd) : AV := if l = [] then .sl true 0 [] else rdgs false l
theorem NC.k31 {z : Nat} {l : List Rd} {nil : Bool} (h : NC z l) : (whole z l = true → Fn Try.prog 31 [i64 z, rdgs nil l] (.tup [.sl true 0 [], .sl true 0 [], i64 25]) []) ∧
    (whole z l = false → Fn Try.prog 31 [i64 z, rdgs nil l] (.tup [.lsl 0 0 z, .sl true 0 [], i64 0]) [.cells true false 2 (erows (enc (tb z l) z))]) :=
  _root_.Go.Abs.k31 (nil := nil) h.1 rfl h.2
theorem NC.k31v {z : Nat} {l : List Rd} (h : NC z l) : (whole z l = true → Fn Try.prog 31 [i64 z, lfV l] (.tup [.sl true 0 [], .sl true 0 [], i64 25]) []) ∧
    (whole z l = false → Fn Try.prog 31 [i64 z, lfV l] (.tup [.lsl 0 0 z, .sl true 0 [], i64 0]) [.cells true false 2 (erows (enc (tb z l) z))]) := by
  unfold lfV
  split
  · rename_i he
    have k2 := h.k31 (nil := true)
    have e0 : rdgs true l = .sl true 4 [] := by rw [he]; rfl
    rw [e0] at k2
    exact ⟨fun hf => Fn.nil1 (w := 4) (k2.1 hf), fun hf => Fn.nil1 (w := 4) (k2.2 hf)⟩
  · exact h.k31
set_option maxHeartbeats 8000000 in
theorem k50z : Fn Try.prog 50 [.sl true 0 [], .sl true 0 []] (bl true) [] := Fn.nil0 (w := 2) (Fn.nil1 (w := 2) (k50 true true [] (by simp)))
end Go.Abs
