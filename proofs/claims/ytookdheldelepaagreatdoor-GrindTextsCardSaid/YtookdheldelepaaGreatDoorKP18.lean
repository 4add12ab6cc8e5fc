import Derived.Test.YtookdheldelepaaGreatDoorKL
import Derived.Test.YtookdheldelepaaGreatDoorKP17x
import Derived.Test.YtookdheldelepaaGreatDoorRows
set_option linter.all false
set_option linter.unusedVariables false
set_option linter.unusedSimpArgs false
set_option linter.unusedSectionVars false
namespace Go.Abs
open Go.Proofs
theorem ck17 {M : List Ln} (hl : M.length < 1000000) (hsz : ∀ x ∈ M, x.1.size < 1000000 ∧ x.2.length < 1000000) : Fn Tryz.prog 17 [stz M, stz M] (bl true) [] := by
  refine Fn.stz2 (k17 (M.map skz) (by simpa using hl) fun k hk => ?_)
  rw [List.length_map] at hk
  have e : (M.map skz).getD k sk0 = skz (M[k]) := by
    rw [List.getD_eq_getElem?_getD, List.getElem?_map, List.getElem?_eq_getElem hk]; rfl
  rw [e]
  exact hsz _ (List.getElem_mem hk)
theorem both {s : ByteArray} (hs : s.size ≤ 400 ∨ (60000 < s.size ∧ s.size ≤ 60005)) : ∃ w a b, Gv 6 Tryz.prog 15 [strV s] [w, i64 a, i64 b] ∧ Gv 6 Tryz.prog 18 [strV s] [w, i64 a, i64 b] ∧ Fn Tryz.prog 17 [w, w] (bl true) [] ∧ plain w = true := by
  rcases hs with hs | hs
  · obtain ⟨ws, hr⟩ := PR.ex (pieces_ne s 10)
    have h15 := k15 (by omega) hr
    have h18 := k18 (by omega) hr
    cases hr with
    | bad _ _ _ _ => exact ⟨_, _, _, h15, h18, k17z, rfl⟩
    | cut _ _ _ => exact ⟨_, _, _, h15, h18, k17z, rfl⟩
    | no _ _ _ _ => exact ⟨_, _, _, h15, h18, k17z, rfl⟩
    | @yes M w hM _ _ _ =>
      have hsz : ∀ x : Ln, x ∈ M → x.1.size ≤ 400 ∧ x.2.length ≤ 401 := lnsOf_sz hM (b := 400) fun p hp => by have := pieces_le (List.mem_of_mem_take hp); omega
      have hMl : M.length ≤ 401 := by
        have h1 := pieces_len s 10
        rw [lnsOf_len hM, List.length_take]; omega
      exact ⟨_, _, _, h15, h18, ck17 (by omega) (fun x hx => by have := hsz x hx; omega), by simp only [plain, plainR_rz]⟩
  · exact ⟨_, _, _, k15L hs.1 (by omega), k18L hs.1 (by omega), k17z, rfl⟩
theorem fm_size {x : Se} (h1 : x.1.size ≤ 30) (h2 : x.2.1.size ≤ 30) (h3 : okI x.2.2) : (fmB x).size ≤ 200 := by
  have := Lib.itoa_length_le x.2.2 h3.1 h3.2
  rw [← ba_len]
  have ed : (fmB x).data.toList = fmL x := by simp [fmB]
  rw [ed]
  unfold fmL
  simp
  omega
/-- the law -/
theorem k4 {s t : ByteArray} {x : Se} (hx : okI x.2.2) : Fn Tryz.prog 4 [strV s, seV x, strV t] (bl true) [] := by
  refine fn_of e4 ?_
  rw [c4_cut]
  refine k4r0 fun hs ht h1 h2 => ?_
  obtain ⟨w, a, b, h15, h18, h17, hw⟩ := both hs
  refine k4r1 h15 h18 h17 hw fun o => ?_
  refine k4r3 (k19 (s := t) (by omega)) (k20 (s := t) (by omega)) (k21 (x := x) (by omega) (by omega) hx) (k22 (x := x) (by omega) (by omega) hx) ?_
  have hf := fm_size h1 h2 hx
  exact k4r5 (k19 (s := fmB x) (by omega)) (k23 x.1 (by omega)) (k23 x.2.1 (by omega)) fun e1 e2 e3 => fm_back e1 e2 e3
end Go.Abs
namespace Go.Abs
open Go.ChangeShapes Go.WideShapes Go.RowKit Go.Proofs
theorem cell_i64 {P : Program} {w : World} {base : Nat} {t : TypeId} {v : Value} (ht : P.underlying t = some (.int .i64)) (h : Cell.okWide P w .any base t v) : ∃ n, v = .int .i64 n ∧ -9223372036854775808 ≤ n ∧ n ≤ 9223372036854775807 := by
  unfold Cell.okWide Cell.ok at h
  rw [ht] at h
  cases v <;> simp at h
  case int k n =>
    obtain ⟨rfl, h⟩ := h
    exact ⟨n, rfl, h.1, h.2⟩
theorem cell_str {P : Program} {w : World} {base : Nat} {t : TypeId} {v : Value} (ht : P.underlying t = some .string) (h : Cell.okWide P w .any base t v) : ∃ s, v = .string s := by
  unfold Cell.okWide Cell.ok at h
  rw [ht] at h
  cases v <;> simp at h
  case string s => exact ⟨s, rfl⟩
theorem open_str {P : Program} {w : World} {base : Nat} {t : TypeId} {v : Value} (ht : P.underlying t = some .string) (h : Value.okWide P w .any base t v) : ∃ s, v = .string s := by
  unfold Value.okWide Cell.okWide Cell.ok at h
  rw [ht] at h
  cases v <;> simp at h
  case string s => exact ⟨s, rfl⟩
set_option maxRecDepth 100000 in
theorem open_ses {w : World} {base : Nat} {v : Value} (hval : Value.okWide Tryz.prog w .any base 46 v) : ∃ x : Se, okI x.2.2 ∧ v = .agg #[.string x.1, .string x.2.1, .int .i64 x.2.2] := by
  unfold Value.okWide at hval
  rw [Tryz.underlying46] at hval
  obtain ⟨cs, rfl, hs, ts, hts, _, hall⟩ := hval
  have hct : Tryz.prog.cellTypes Tryz.prog.depth 46 = some [9, 9, 3] := by kernel_rfl
  rw [hct] at hts
  obtain rfl := Option.some.inj hts
  rw [show Tryz.prog.cellsOf 46 = 3 by kernel_rfl] at hs
  obtain ⟨l⟩ := cs
  match l, hs with
  | [c0, c1, c2], _ =>
  obtain ⟨u0, e0, h0⟩ := hall 0 c0 rfl
  obtain ⟨u1, e1, h1⟩ := hall 1 c1 rfl
  obtain ⟨u2, e2, h2⟩ := hall 2 c2 rfl
  obtain rfl : 9 = u0 := Option.some.inj e0
  obtain rfl : 9 = u1 := Option.some.inj e1
  obtain rfl : 3 = u2 := Option.some.inj e2
  obtain ⟨m, rfl⟩ := cell_str Tryz.underlying9 h0
  obtain ⟨t, rfl⟩ := cell_str Tryz.underlying9 h1
  obtain ⟨n, rfl, hn⟩ := cell_i64 Tryz.underlying3 h2
  exact ⟨(m, t, n), hn, rfl⟩
end Go.Abs
