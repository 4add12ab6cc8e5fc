import Derived.Test.YtodheeifecoebaaK11
set_option linter.all false
set_option linter.unusedVariables false
set_option linter.unusedSimpArgs false
set_option linter.unusedSectionVars false
namespace Go.Abs
open Go.ChangeShapes Go.WideShapes Go.RowKit
/-! opening structs -/
section
variable {H : Type} {enc : TypeId × Value → H} {P : Program} {w : World} {base : Nat}
theorem okWide_struct_cells {t : TypeId} {fs : Array Field} {ts : List TypeId} {v : Value} (ht : P.underlying t = some (.struct fs)) (hts : P.cellTypes P.depth t = some ts) (h : Value.okWide P w .any base t v) :
    ∃ cs, v = .agg cs ∧ cs.size = P.cellsOf t ∧ ∀ (i : Nat) x u, cs[i]? = some x → ts[i % ts.length]? = some u → Cell.okWide P w .any base u x := by
  unfold Value.okWide at h
  rw [ht] at h
  obtain ⟨cs, h1, h2, ts', h3, _, h4⟩ := h
  refine ⟨cs, h1, h2, fun i x u hx hu => ?_⟩
  rw [hts] at h3
  obtain rfl := Option.some.inj h3
  obtain ⟨u', hu', hok⟩ := h4 i x hx
  rw [hu] at hu'
  obtain rfl := Option.some.inj hu'
  exact hok
theorem open_ints_cell {t e : TypeId} {c : Value} {fuel : Nat} {y : DataW H × List MemPlace} (ht : P.underlying t = some (.slice e)) (he : P.underlying e = some (.int .i64)) (hc : P.cellsOf e = 1)
    (hval : Cell.okWide P w .any base t c) (h : DataW.trod enc P w 0 (fun _ => true) true fuel t [c] = some y) : ∃ (nil : Bool) (xs : List Int), Conc (lone w) (ints nil xs) c := by
  have hval' : Value.okWide P w .any base t c := by unfold Value.okWide; rw [ht]; exact hval
  obtain ⟨a, len, cap, rfl⟩ := okWide_slice ht hval'
  exact open_ints_av ht he hc hval' ⟨fuel, show DataW.trod enc P w 0 (fun _ => true) true fuel t [.slice a len cap] = some (y.1, y.2) from h⟩
end
end Go.Abs
