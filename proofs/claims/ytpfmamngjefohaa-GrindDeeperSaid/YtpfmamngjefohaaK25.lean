import Derived.Test.YtpfmamngjefohaaK12
import Derived.Test.YtpfmamngjefohaaRows
set_option linter.all false
set_option linter.unusedVariables false
set_option linter.unusedSimpArgs false
set_option linter.unusedSectionVars false
namespace Go.Abs
open Go.ChangeShapes Go.WideShapes Go.RowKit Go.Proofs
/-! a pair opened -/
section
variable {H : Type} {enc : TypeId × Value → H} {w : World} {base : Nat}
theorem cells23' : Try.prog.cellsOf 23 = 2 := by kernel_rfl
set_option maxRecDepth 100000 in
theorem open_pr {v : Value} {d : DataW H} {ps : List MemPlace} (hval : Value.okWide Try.prog w .any base 23 v) (h : DataW.Trod enc Try.prog w 0 (fun _ => true) true 23 v d ps) : ∃ a b : Int, v = .agg #[.int .i64 a, .int .i64 b] := by
  unfold Value.okWide at hval
  rw [Try.underlying23] at hval
  obtain ⟨cs, rfl, hsz, _⟩ := hval
  rw [cells23'] at hsz
  obtain ⟨l⟩ := cs
  match l, hsz with
  | [c0, c1], _ =>
  obtain ⟨fuel, hf⟩ := h
  obtain ⟨xs, n, _, _, _, hlen, hx⟩ := DataW.trod_array Try.underlying23 hf
  have h0 := hx 0 (by omega)
  have h1 := hx 1 (by omega)
  rw [cells3'] at h0 h1
  simp [Value.cells] at h0 h1
  rw [List.getElem?_eq_getElem (by omega)] at h0 h1
  obtain ⟨i0, e0, _, _⟩ := DataW.trod_int Try.underlying3 h0
  obtain ⟨i1, e1, _, _⟩ := DataW.trod_int Try.underlying3 h1
  simp at e0 e1
  subst e0 e1
  exact ⟨i0, i1, rfl⟩
end
end Go.Abs
