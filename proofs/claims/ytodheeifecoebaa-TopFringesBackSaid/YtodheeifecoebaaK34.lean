import Derived.Test.YtodheeifecoebaaK307x
import Derived.Test.YtodheeifecoebaaK11
import Derived.Test.YtodheeifecoebaaRows
import Derived.WalkKit
import Derived.ProofKit
import Derived.OpenShut
set_option linter.all false
set_option linter.unusedVariables false
set_option linter.unusedSimpArgs false
set_option linter.unusedSectionVars false
namespace Go.Abs
open Go.ChangeShapes Go.WideShapes Go.RowKit
/-! opening structs -/
section
variable {H : Type} {enc : TypeId × Value → H} {P : Program} {w : World} {base : Nat}
theorem okWide_struct_cells {t : TypeId} {fs : Array Field} {ts : List TypeId} {v : Value} (ht : P.underlying t = some (.struct fs)) (hts : P.cellTypes P.depth t = some ts) (h : Value.okWide P w .any base t v) :
    ∃ cs, v = .agg cs ∧ cs.size = P.cellsOf t ∧ ∀ (i : Nat) x u, cs[i]? = some x → ts[i % ts.length]? = some u → Cell.okWide P w .any base u x := by
  unfold Value.okWide at h
  rw [ht] at h
  obtain ⟨cs, h1, h2, ts', h3, _, h4⟩ := h
  refine ⟨cs, h1, h2, fun i x u hx hu => ?_⟩
  rw [hts] at h3
  obtain rfl := Option.some.inj h3
  obtain ⟨u', hu', hok⟩ := h4 i x hx
  rw [hu] at hu'
  obtain rfl := Option.some.inj hu'
  exact hok
theorem open_ints_cell {t e : TypeId} {c : Value} {fuel : Nat} {y : DataW H × List MemPlace} (ht : P.underlying t = some (.slice e)) (he : P.underlying e = some (.int .i64)) (hc : P.cellsOf e = 1)
    (hval : Cell.okWide P w .any base t c) (h : DataW.trod enc P w 0 (fun _ => true) true fuel t [c] = some y) : ∃ (nil : Bool) (xs : List Int), Conc (lone w) (ints nil xs) c := by
  have hval' : Value.okWide P w .any base t c := by unfold Value.okWide; rw [ht]; exact hval
  obtain ⟨a, len, cap, rfl⟩ := okWide_slice ht hval'
  exact open_ints_av ht he hc hval' ⟨fuel, show DataW.trod enc P w 0 (fun _ => true) true fuel t [.slice a len cap] = some (y.1, y.2) from h⟩
theorem trod_struct3 {t : TypeId} {f0 f1 f2 : Field} {b : Nat} {spare : Nat → Bool} {held : Bool} {fuel : Nat} {cs : List Value} {x : DataW H × List MemPlace} (ht : P.underlying t = some (.struct #[f0, f1, f2])) (h : DataW.trod enc P w b spare held fuel t cs = some x) :
    ∃ y0 y1 y2 n, cs.length = P.cellsOf t ∧ DataW.trod enc P w b spare held n f0.type ((cs.drop f0.offset).take (P.cellsOf f0.type)) = some y0 ∧
      DataW.trod enc P w b spare held n f1.type ((cs.drop f1.offset).take (P.cellsOf f1.type)) = some y1 ∧ DataW.trod enc P w b spare held n f2.type ((cs.drop f2.offset).take (P.cellsOf f2.type)) = some y2 := by
  obtain ⟨xs, n, _, rfl, hl, hlen, hf⟩ := DataW.trod_struct ht h
  match xs, hlen with
  | [y0, y1, y2], _ => exact ⟨y0, y1, y2, n, hl, by simpa using hf 0 f0 rfl, by simpa using hf 1 f1 rfl, by simpa using hf 2 f2 rfl⟩
end
end Go.Abs
namespace Go.Proofs.Ytodheeifecoebaa.topFringesBack
open Go.ChangeShapes Go.WideShapes Go.ChangeAt Go.RowKit Go.Abs
set_option linter.unusedVariables false
theorem own : ownKnob Try.prog.godebug = none := by kernel_rfl
theorem cells3 : Try.prog.cellsOf 3 = 1 := by kernel_rfl
theorem cells22 : Try.prog.cellsOf 22 = 1 := by kernel_rfl
theorem cells91 : Try.prog.cellsOf 91 = 3 := by kernel_rfl
theorem types91 : Try.prog.cellTypes Try.prog.depth 91 = some [3, 22, 22] := by kernel_rfl
set_option maxRecDepth 100000 in
set_option maxHeartbeats 4000000 in
theorem contract (H : Type) (enc : TypeId × Value → H) (W : World) (base : Nat) (args : Array Value) (ds gs : List (DataW H)) (before : List MemPlace)
    (hval : ∀ (j : Nat) t v, Try.f12.params[j]? = some t → args[j]? = some v → Value.okWide Try.prog W .any base t v)
    (hW : DataW.Whole enc Try.prog Try.f12.params.toList Rows.topFringesBackSpec.vars false W args.toList ds gs before) :
    Calls Try.prog 12 args W fun e W' => ∃ v, e = .returned v ∧ Rows.topFringesBackSpec.post enc Try.prog Try.f12 false true false false W args v W' := by
  have hW' := hW
  obtain ⟨p, q, hA0, hV, hbe, hfz, hnd⟩ := hW
  have hA : DataW.TrodAll enc Try.prog W 0 (fun _ => true) true Try.f12.params.toList args.toList ds p := hA0
  rw [Try.params12] at hA hval
  obtain ⟨v0, d0, rfl, rfl, h0⟩ := trodAll_one hA
  obtain ⟨rfl, rfl⟩ := trodVars_none hV
  obtain ⟨cs, rfl, hsz, hcell⟩ := okWide_struct_cells Try.underlying91 types91 (hval 0 91 v0 rfl rfl)
  rw [cells91] at hsz
  obtain ⟨l⟩ := cs
  match l, hsz with
  | [c0, c1, c2], _ =>
  obtain ⟨fuel, hf⟩ := h0
  obtain ⟨y0, y1, y2, n, _, hy0, hy1, hy2⟩ := trod_struct3 Try.underlying91 hf
  rw [cells3] at hy0
  rw [cells22] at hy1 hy2
  obtain ⟨i0, e0, _, _⟩ := DataW.trod_int Try.underlying3 hy0
  simp [Value.cells] at e0
  subst e0
  obtain ⟨nil, xs, hc1⟩ := open_ints_cell Try.underlying22 Try.underlying3 cells3 (hcell 1 c1 22 rfl rfl) hy1
  obtain ⟨nil2, xs2, hc2⟩ := open_ints_cell Try.underlying22 Try.underlying3 cells3 (hcell 2 c2 22 rfl rfl) hy2
  refine (law_calls (k12 i0 nil xs nil2 xs2) (cargs := [_]) ⟨_, _, rfl, ⟨_, rfl, _, _, rfl, rfl, _, _, rfl, hc1, _, _, rfl, hc2, rfl⟩, rfl⟩).mono fun e W' ⟨he, hb⟩ => ?_
  subst he
  exact ⟨_, rfl, post_law (t := 4) hW' rfl rfl (by kernel_rfl) Try.underlying4 (by kernel_rfl) (by rw [Try.params12]; intro t ht; simp only [List.mem_cons, List.not_mem_nil, or_false] at ht; rcases ht with rfl; exact ⟨by kernel_rfl, of_decide_eq_true (by kernel_rfl)⟩) hb⟩
set_option maxRecDepth 100000 in
theorem lifted (os : Os) (started : os.Started) (H : Type) (enc : TypeId × Value → H) :
    ReturnsInHanded {} Try.checked os 12 .any (Rows.topFringesBackSpec.pre6 enc Try.prog Try.f12 Rows.topFringesBackRow.domain false) (Rows.topFringesBackSpec.post enc Try.prog Try.f12 false true false false) := by
  refine returnsInHanded_of_change (C := Try.checked) own started (by kernel_rfl) Try.func12
    (ChangeSpec.witness6 (enc := enc) (C := Try.checked) false ⟨#[], #[.agg #[.int .i64 0, .slice none 0 0, .slice none 0 0]], []⟩ 8 (by kernel_rfl) (by kernel_rfl) (by kernel_rfl) (by kernel_rfl)) ?_
  intro W base args ds gs before hval hW hcnd _
  exact contract H enc W base args ds gs before hval hW
end Go.Proofs.Ytodheeifecoebaa.topFringesBack
