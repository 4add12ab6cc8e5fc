import Derived.Test.YtpfmamngjefohaaK319
set_option linter.all false
set_option linter.unusedVariables false
set_option linter.unusedSimpArgs false
set_option linter.unusedSectionVars false
namespace Go.Abs
open Go.ChangeShapes Go.WideShapes Go.RowKit Go.Proofs
/-! texts, demands, plans, weights, answers opened -/
section
variable {H : Type} {enc : TypeId × Value → H} {w : World} {base : Nat}
theorem cells35' : Try.prog.cellsOf 35 = 2 := by kernel_rfl
theorem cells37' : Try.prog.cellsOf 37 = 2 := by kernel_rfl
theorem cells39' : Try.prog.cellsOf 39 = 3 := by kernel_rfl
theorem cells41' : Try.prog.cellsOf 41 = 5 := by kernel_rfl
abbrev IC (w : World) (u : Value) : Prop := ∃ (nil : Bool) (xs : List Int), Conc (lone w) (ints nil xs) u
set_option maxRecDepth 100000 in
theorem dm_cells {fuel : Nat} {cs : List Value} {y : DataW H × List MemPlace} (h : DataW.trod enc Try.prog w 0 (fun _ => true) true fuel 35 cs = some y) : ∃ u0 u1, cs = [u0, u1] ∧ IC w u0 ∧ IC w u1 := by
  obtain ⟨y0, y1, n, _, hl, h0, h1⟩ := trod_struct2 Try.underlying35 h
  rw [cells35'] at hl
  match cs, hl with
  | [c0, c1], _ =>
  rw [cells27'] at h0 h1
  exact ⟨c0, c1, rfl, ints_of_trod Try.underlying27 Try.underlying3 cells3' (c := c0) (by simpa using h0), ints_of_trod Try.underlying27 Try.underlying3 cells3' (c := c1) (by simpa using h1)⟩
set_option maxRecDepth 100000 in
theorem pl_cells {fuel : Nat} {cs : List Value} {y : DataW H × List MemPlace} (h : DataW.trod enc Try.prog w 0 (fun _ => true) true fuel 37 cs = some y) : ∃ u0 i, cs = [u0, .int .i64 i] ∧ IC w u0 := by
  obtain ⟨y0, y1, n, _, hl, h0, h1⟩ := trod_struct2 Try.underlying37 h
  rw [cells37'] at hl
  match cs, hl with
  | [c0, c1], _ =>
  rw [cells27'] at h0
  rw [cells3'] at h1
  obtain ⟨i1, e1, _, _⟩ := DataW.trod_int Try.underlying3 h1
  simp at e1
  subst e1
  exact ⟨c0, i1, rfl, ints_of_trod Try.underlying27 Try.underlying3 cells3' (c := c0) (by simpa using h0)⟩
set_option maxRecDepth 100000 in
theorem pf_cells {fuel : Nat} {cs : List Value} {y : DataW H × List MemPlace} (h : DataW.trod enc Try.prog w 0 (fun _ => true) true fuel 39 cs = some y) : ∃ u0 u1 i, cs = [u0, u1, .int .i64 i] ∧ IC w u0 ∧ IC w u1 := by
  obtain ⟨y0, y1, y2, n, hl, h0, h1, h2⟩ := trod_struct3 Try.underlying39 h
  rw [cells39'] at hl
  match cs, hl with
  | [c0, c1, c2], _ =>
  rw [cells27'] at h0 h1
  rw [cells3'] at h2
  obtain ⟨i1, e1, _, _⟩ := DataW.trod_int Try.underlying3 h2
  simp at e1
  subst e1
  exact ⟨c0, c1, i1, rfl, ints_of_trod Try.underlying27 Try.underlying3 cells3' (c := c0) (by simpa using h0), ints_of_trod Try.underlying27 Try.underlying3 cells3' (c := c1) (by simpa using h1)⟩
set_option maxRecDepth 100000 in
theorem an_cells {fuel : Nat} {cs : List Value} {y : DataW H × List MemPlace} (h : DataW.trod enc Try.prog w 0 (fun _ => true) true fuel 41 cs = some y) : ∃ u0 i u1 u2 j, cs = [u0, .int .i64 i, u1, u2, .int .i64 j] ∧ IC w u0 ∧ IC w u1 ∧ IC w u2 := by
  obtain ⟨y0, y1, n, _, hl, h0, h1⟩ := trod_struct2 Try.underlying41 h
  rw [cells41'] at hl
  match cs, hl with
  | [c0, c1, c2, c3, c4], _ =>
  rw [cells37'] at h0
  rw [cells39'] at h1
  obtain ⟨u0, i, e0, a0⟩ := pl_cells (cs := [c0, c1]) (by simpa using h0)
  obtain ⟨u1, u2, j, e1, a1, a2⟩ := pf_cells (cs := [c2, c3, c4]) (by simpa using h1)
  simp at e0 e1
  obtain ⟨rfl, rfl⟩ := e0
  obtain ⟨rfl, rfl, rfl⟩ := e1
  exact ⟨_, i, _, _, j, rfl, a0, a1, a2⟩
set_option maxRecDepth 100000 in
theorem agg_of {t : TypeId} {fs : Array Field} {v : Value} (ht : Try.prog.underlying t = some (.struct fs)) (hval : Value.okWide Try.prog w .any base t v) : ∃ cs, v = .agg cs := by
  unfold Value.okWide at hval
  rw [ht] at hval
  obtain ⟨cs, h1, _⟩ := hval
  exact ⟨cs, h1⟩
set_option maxRecDepth 100000 in
theorem open_dm {v : Value} {d : DataW H} {ps : List MemPlace} (hval : Value.okWide Try.prog w .any base 35 v) (h : DataW.Trod enc Try.prog w 0 (fun _ => true) true 35 v d ps) : ∃ (n1 : Bool) (lo : List Int) (n2 : Bool) (hi : List Int), Conc (lone w) (.agg [ints n1 lo, ints n2 hi]) v := by
  obtain ⟨cs, rfl⟩ := agg_of Try.underlying35 hval
  obtain ⟨fuel, hf⟩ := h
  obtain ⟨u0, u1, e, ⟨n1, lo, h0⟩, ⟨n2, hi, h1⟩⟩ := dm_cells (cs := cs.toList) hf
  refine ⟨n1, lo, n2, hi, ?_⟩
  simp only [Conc]
  refine ⟨cs, rfl, ?_⟩
  rw [e]
  exact ⟨_, _, rfl, h0, _, _, rfl, h1, rfl⟩
set_option maxRecDepth 100000 in
theorem open_an {v : Value} {d : DataW H} {ps : List MemPlace} (hval : Value.okWide Try.prog w .any base 41 v) (h : DataW.Trod enc Try.prog w 0 (fun _ => true) true 41 v d ps) : ∃ (n0 : Bool) (mi : List Int) (i : Int) (n1 : Bool) (lo : List Int) (n2 : Bool) (hi : List Int) (j : Int), Conc (lone w) (.agg [ints n0 mi, i64 i, ints n1 lo, ints n2 hi, i64 j]) v := by
  obtain ⟨cs, rfl⟩ := agg_of Try.underlying41 hval
  obtain ⟨fuel, hf⟩ := h
  obtain ⟨u0, i, u1, u2, j, e, ⟨n0, mi, h0⟩, ⟨n1, lo, h1⟩, ⟨n2, hi, h2⟩⟩ := an_cells (cs := cs.toList) hf
  refine ⟨n0, mi, i, n1, lo, n2, hi, j, ?_⟩
  simp only [Conc]
  refine ⟨cs, rfl, ?_⟩
  rw [e]
  exact ⟨_, _, rfl, h0, _, _, rfl, rfl, _, _, rfl, h1, _, _, rfl, h2, _, _, rfl, rfl, rfl⟩
end
end Go.Abs
