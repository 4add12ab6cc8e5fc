import Derived.Test.YtpfmamngjefohaaK10x
import Derived.Test.YtpfmamngjefohaaKO1
import Derived.Test.YtpfmamngjefohaaRows
set_option linter.all false
set_option linter.unusedVariables false
set_option linter.unusedSimpArgs false
set_option linter.unusedSectionVars false
namespace Go.Abs
open Go.ChangeShapes Go.WideShapes Go.RowKit Go.Proofs
/-! grits opened -/
section
variable {H : Type} {enc : TypeId × Value → H} {w : World} {base : Nat}
theorem cells3' : Try.prog.cellsOf 3 = 1 := by kernel_rfl
theorem cells9' : Try.prog.cellsOf 9 = 1 := by kernel_rfl
theorem cells82' : Try.prog.cellsOf 82 = 3 := by kernel_rfl
set_option maxRecDepth 100000 in
theorem gr_cells {b : Nat} {spare : Nat → Bool} {held : Bool} {fuel : Nat} {cs : List Value} {y : DataW H × List MemPlace} (h : DataW.trod enc Try.prog w b spare held fuel 82 cs = some y) : ∃ g : Gr, cs = [.string g.nm, .int .i64 g.dm, .int .i64 g.rt] := by
  obtain ⟨y0, y1, y2, n, hl, h0, h1, h2⟩ := trod_struct3 Try.underlying82 h
  rw [cells82'] at hl
  match cs, hl with
  | [c0, c1, c2], _ =>
  rw [cells9'] at h0
  rw [cells3'] at h1 h2
  obtain ⟨s0, e0, _, _⟩ := DataW.trod_string Try.underlying9 h0
  obtain ⟨i1, e1, _, _⟩ := DataW.trod_int Try.underlying3 h1
  obtain ⟨i2, e2, _, _⟩ := DataW.trod_int Try.underlying3 h2
  simp at e0 e1 e2
  subst e0 e1 e2
  exact ⟨⟨s0, i1, i2⟩, rfl⟩
theorem rowsAt_gr {C : Ctx} {b : Nat} : ∀ (l : List Gr) (off : Nat), (∀ i, i < l.length → C.w.cell? ⟨b, off + 3 * i, none⟩ = some (.string (l.getD i gr0).nm) ∧ C.w.cell? ⟨b, off + 3 * i + 1, none⟩ = some (.int .i64 (l.getD i gr0).dm) ∧ C.w.cell? ⟨b, off + 3 * i + 2, none⟩ = some (.int .i64 (l.getD i gr0).rt)) → RowsAt C b off 3 (gR l)
  | [], _, _ => trivial
  | x :: r, off, h => by
    obtain ⟨h0, h1, h2⟩ := h 0 (by simp)
    refine ⟨rfl, ⟨⟨_, h0, rfl, rfl, rfl⟩, ⟨_, h1, rfl, rfl, rfl⟩, ⟨_, h2, rfl, rfl, rfl⟩, trivial⟩, rowsAt_gr r (off + 3) fun i hi => ?_⟩
    have := h (i + 1) (by simpa using hi)
    rw [show off + 3 + 3 * i = off + 3 * (i + 1) by omega]
    simpa using this
set_option maxRecDepth 100000 in
theorem open_gts {v : Value} {d : DataW H} {ps : List MemPlace} (hval : Value.okWide Try.prog w .any base 22 v) (h : DataW.Trod enc Try.prog w 0 (fun _ => true) true 22 v d ps) : ∃ (nil : Bool) (l : List Gr), Conc (lone w) (gts nil l) v ∧ l.length ≤ 9223372036854775807 := by
  obtain ⟨a, len, cap, rfl⟩ := okWide_slice Try.underlying22 hval
  obtain ⟨fuel, hf⟩ := h
  rcases DataW.trod_slice Try.underlying22 hf with ⟨h1, _⟩ | ⟨a', len', cap', elems, rest, n, _, h1, _, _, hlc, hcm, hlen, hel, _, _⟩
  · simp only [Value.cells] at h1
    refine ⟨true, [], ?_, by simp⟩
    simp only [Conc]
    left
    exact ⟨trivial, rfl, by simpa using h1⟩
  · simp [Value.cells] at h1
    obtain ⟨rfl, rfl, rfl⟩ := h1
    have hok0 : len ≤ cap ∧ (cap : Int) ≤ IntKind.i64.max ∧ w.has Try.prog .any base a' 82 cap := by
      unfold Value.okWide Cell.okWide Cell.ok at hval
      rw [Try.underlying22] at hval
      exact hval
    obtain ⟨hlc0, hcm0, hok⟩ := hok0
    obtain ⟨_, hsp, row, cells, hsh, _⟩ := hok
    obtain ⟨b, off, sp⟩ := a'
    dsimp only at hsp hsh
    subst hsp
    have hcells : IsCells w b := by
      unfold World.shape? at hsh
      split at hsh
      · rename_i c el f hb; exact ⟨c, el, f, hb⟩
      · simp at hsh
    have each : ∀ i, i < len → ∃ r : Gr, ∀ j, j < 3 → w.cell? ((Addr.add ⟨b, off, none⟩ (i * 3)).add j) = [Value.string r.nm, .int .i64 r.dm, .int .i64 r.rt][j]? := by
      intro i hi
      have h2 := hel i hi
      have h3 : elems[i]? ≠ none := by rw [List.getElem?_eq_some_iff.2 ⟨by omega, rfl⟩]; simp
      rw [cells82'] at h2
      cases hc : w.cells? 0 (Addr.add ⟨b, off, none⟩ (i * 3)) 3 with
      | none => rw [hc] at h2; exact (h3 h2.symm).elim
      | some cs =>
        rw [hc] at h2
        cases ht : DataW.trod enc Try.prog w 0 (fun _ => true) true n 82 cs with
        | none => simp only [Option.bind_some, ht] at h2; exact (h3 h2.symm).elim
        | some y =>
          obtain ⟨r, rfl⟩ := gr_cells ht
          refine ⟨r, fun j hj => ?_⟩
          have := (World.cells?_some hc).2.2 j hj
          exact this
    have hlist : ∀ n, n ≤ len → ∃ l : List Gr, l.length = n ∧ ∀ i, i < n → ∀ j, j < 3 → w.cell? ⟨b, off + 3 * i + j, none⟩ = [Value.string (l.getD i gr0).nm, .int .i64 (l.getD i gr0).dm, .int .i64 (l.getD i gr0).rt][j]? := by
      intro n
      induction n with
      | zero => intro _; exact ⟨[], rfl, fun i hi => by omega⟩
      | succ n ih =>
        intro hn
        obtain ⟨l, h4, h5⟩ := ih (by omega)
        obtain ⟨r, h6⟩ := each n (by omega)
        refine ⟨l ++ [r], by simp [h4], fun i hi j hj => ?_⟩
        by_cases hin : i < n
        · have e : (l ++ [r]).getD i gr0 = l.getD i gr0 := by
            rw [List.getD_eq_getElem?_getD, List.getElem?_append_left (by omega), ← List.getD_eq_getElem?_getD]
          rw [e]; exact h5 i hin j hj
        · have : i = n := by omega
          subst this
          have e : (l ++ [r]).getD i gr0 = r := by
            rw [List.getD_eq_getElem?_getD, List.getElem?_append_right (by omega), h4]; simp
          rw [e]
          have := h6 j hj
          have e2 : (Addr.add ⟨b, off, none⟩ (i * 3)).add j = ⟨b, off + 3 * i + j, none⟩ := by
            have e3 : ∀ o n : Nat, Addr.add ⟨b, o, none⟩ n = ⟨b, o + n, none⟩ := fun o n => by unfold Addr.add; split <;> simp_all
            rw [e3, e3, Nat.mul_comm]
          rwa [e2] at this
    obtain ⟨l, hl, hl2⟩ := hlist len (Nat.le_refl _)
    refine ⟨false, l, ?_, by
      have : (cap : Int) ≤ 9223372036854775807 := hcm0
      omega⟩
    simp only [Conc]
    right; left
    refine ⟨trivial, b, off, cap, ?_, ?_, fun _ => ⟨lone_bad, hcells⟩, rowsAt_gr _ _ fun i hi => ?_⟩
    · simp [gR_len, hl]
    · simp [gR_len, hl, hlc]
    · have := hl2 i (by omega)
      exact ⟨this 0 (by omega), this 1 (by omega), this 2 (by omega)⟩
end
end Go.Abs
