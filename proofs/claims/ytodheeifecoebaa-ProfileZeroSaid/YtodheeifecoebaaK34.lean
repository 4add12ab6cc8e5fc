import Derived.Test.YtodheeifecoebaaK11
set_option linter.all false
set_option linter.unusedVariables false
set_option linter.unusedSimpArgs false
set_option linter.unusedSectionVars false
namespace Go.Abs
open Go.ChangeShapes Go.WideShapes Go.RowKit
/-! opening structs -/
section
variable {H : Type} {enc : TypeId × Value → H} {P : Program} {w : World} {base : Nat}
theorem okWide_struct_cells {t : TypeId} {fs : Array Field} {ts : List TypeId} {v : Value} (ht : P.underlying t = some (.struct fs)) (hts : P.cellTypes P.depth t = some ts) (h : Value.okWide P w .any base t v) :
    ∃ cs, v = .agg cs ∧ cs.size = P.cellsOf t ∧ ∀ (i : Nat) x u, cs[i]? = some x → ts[i % ts.length]? = some u → Cell.okWide P w .any base u x := by
  unfold Value.okWide at h
  rw [ht] at h
  obtain ⟨cs, h1, h2, ts', h3, _, h4⟩ := h
  refine ⟨cs, h1, h2, fun i x u hx hu => ?_⟩
  rw [hts] at h3
  obtain rfl := Option.some.inj h3
  obtain ⟨u', hu', hok⟩ := h4 i x hx
  rw [hu] at hu'
  obtain rfl := Option.some.inj hu'
  exact hok
theorem open_ints_cell {t e : TypeId} {c : Value} {fuel : Nat} {y : DataW H × List MemPlace} (ht : P.underlying t = some (.slice e)) (he : P.underlying e = some (.int .i64)) (hc : P.cellsOf e = 1)
    (hval : Cell.okWide P w .any base t c) (h : DataW.trod enc P w 0 (fun _ => true) true fuel t [c] = some y) : ∃ (nil : Bool) (xs : List Int), Conc (lone w) (ints nil xs) c := by
  have hval' : Value.okWide P w .any base t c := by unfold Value.okWide; rw [ht]; exact hval
  obtain ⟨a, len, cap, rfl⟩ := okWide_slice ht hval'
  exact open_ints_av ht he hc hval' ⟨fuel, show DataW.trod enc P w 0 (fun _ => true) true fuel t [.slice a len cap] = some (y.1, y.2) from h⟩
theorem trod_struct3 {t : TypeId} {f0 f1 f2 : Field} {b : Nat} {spare : Nat → Bool} {held : Bool} {fuel : Nat} {cs : List Value} {x : DataW H × List MemPlace} (ht : P.underlying t = some (.struct #[f0, f1, f2])) (h : DataW.trod enc P w b spare held fuel t cs = some x) :
    ∃ y0 y1 y2 n, cs.length = P.cellsOf t ∧ DataW.trod enc P w b spare held n f0.type ((cs.drop f0.offset).take (P.cellsOf f0.type)) = some y0 ∧
      DataW.trod enc P w b spare held n f1.type ((cs.drop f1.offset).take (P.cellsOf f1.type)) = some y1 ∧ DataW.trod enc P w b spare held n f2.type ((cs.drop f2.offset).take (P.cellsOf f2.type)) = some y2 := by
  obtain ⟨xs, n, _, rfl, hl, hlen, hf⟩ := DataW.trod_struct ht h
  match xs, hlen with
  | [y0, y1, y2], _ => exact ⟨y0, y1, y2, n, hl, by simpa using hf 0 f0 rfl, by simpa using hf 1 f1 rfl, by simpa using hf 2 f2 rfl⟩
end
end Go.Abs
