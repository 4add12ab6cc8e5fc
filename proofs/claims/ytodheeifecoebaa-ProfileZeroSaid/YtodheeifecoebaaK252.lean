import Derived.Test.YtodheeifecoebaaK251x
import Derived.Test.YtodheeifecoebaaK34
import Derived.Test.YtodheeifecoebaaK59
import Derived.Test.YtodheeifecoebaaRows
import Derived.WalkKit
import Derived.ProofKit
import Derived.OpenShut
set_option linter.all false
set_option linter.unusedVariables false
set_option linter.unusedSimpArgs false
set_option linter.unusedSectionVars false
namespace Go.Proofs.Ytodheeifecoebaa.profileZero
open Go.ChangeShapes Go.WideShapes Go.ChangeAt Go.RowKit Go.Abs
set_option linter.unusedVariables false
theorem own : ownKnob Try.prog.godebug = none := by kernel_rfl
theorem cells3 : Try.prog.cellsOf 3 = 1 := by kernel_rfl
theorem cells22 : Try.prog.cellsOf 22 = 1 := by kernel_rfl
theorem cells24 : Try.prog.cellsOf 24 = 3 := by kernel_rfl
theorem types24 : Try.prog.cellTypes Try.prog.depth 24 = some [22, 22, 3] := by kernel_rfl
set_option maxRecDepth 100000 in
set_option maxHeartbeats 4000000 in
theorem contract (H : Type) (enc : TypeId × Value → H) (W : World) (base : Nat) (args : Array Value) (ds gs : List (DataW H)) (before : List MemPlace)
    (hval : ∀ (j : Nat) t v, Try.f3.params[j]? = some t → args[j]? = some v → Value.okWide Try.prog W .any base t v)
    (hW : DataW.Whole enc Try.prog Try.f3.params.toList Rows.profileZeroSpec.vars false W args.toList ds gs before) :
    Calls Try.prog 3 args W fun e W' => ∃ v, e = .returned v ∧ Rows.profileZeroSpec.post enc Try.prog Try.f3 false true false false W args v W' := by
  have hW' := hW
  obtain ⟨p, q, hA0, hV, hbe, hfz, hnd⟩ := hW
  have hA : DataW.TrodAll enc Try.prog W 0 (fun _ => true) true Try.f3.params.toList args.toList ds p := hA0
  rw [Try.params3] at hA hval
  obtain ⟨v0, v1, d0, d1, p0, p1, rfl, rfl, rfl, h0, h1⟩ := trodAll_two hA
  obtain ⟨rfl, rfl⟩ := trodVars_none hV
  obtain ⟨cs, rfl, hsz, hcell⟩ := okWide_struct_cells Try.underlying24 types24 (hval 0 24 v0 rfl rfl)
  rw [cells24] at hsz
  obtain ⟨l⟩ := cs
  match l, hsz with
  | [c0, c1, c2], _ =>
  obtain ⟨fuel, hf⟩ := h0
  obtain ⟨y0, y1, y2, n, _, hy0, hy1, hy2⟩ := trod_struct3 Try.underlying24 hf
  rw [cells22] at hy0 hy1
  rw [cells3] at hy2
  obtain ⟨i0, e0, _, _⟩ := DataW.trod_int Try.underlying3 hy2
  simp [Value.cells] at e0
  subst e0
  obtain ⟨n0, ml, hc0⟩ := open_ints_cell Try.underlying22 Try.underlying3 cells3 (hcell 0 c0 22 rfl rfl) hy0
  obtain ⟨n1, il, hc1⟩ := open_ints_cell Try.underlying22 Try.underlying3 cells3 (hcell 1 c1 22 rfl rfl) hy1
  obtain ⟨n2, ol, hc2⟩ := open_ints_av Try.underlying22 Try.underlying3 cells3 (hval 1 22 v1 rfl rfl) h1
  refine (law_calls (k3 (b1 := n0) (b2 := n1) (b3 := n2) (ml := ml) (il := il) (ol := ol) i0) (cargs := [_, _]) ⟨_, _, rfl, ⟨_, rfl, _, _, rfl, hc0, _, _, rfl, hc1, _, _, rfl, rfl, rfl⟩, _, _, rfl, hc2, rfl⟩).mono fun e W' ⟨he, hb⟩ => ?_
  subst he
  exact ⟨_, rfl, post_law (t := 4) hW' rfl rfl (by kernel_rfl) Try.underlying4 (by kernel_rfl) (by rw [Try.params3]; intro t ht; simp only [List.mem_cons, List.not_mem_nil, or_false] at ht; rcases ht with rfl | rfl <;> exact ⟨by kernel_rfl, of_decide_eq_true (by kernel_rfl)⟩) hb⟩
set_option maxRecDepth 100000 in
theorem lifted (os : Os) (started : os.Started) (H : Type) (enc : TypeId × Value → H) :
    ReturnsInHanded {} Try.checked os 3 .any (Rows.profileZeroSpec.pre6 enc Try.prog Try.f3 Rows.profileZeroRow.domain false) (Rows.profileZeroSpec.post enc Try.prog Try.f3 false true false false) := by
  refine returnsInHanded_of_change (C := Try.checked) own started (by kernel_rfl) Try.func3
    (ChangeSpec.witness6 (enc := enc) (C := Try.checked) false ⟨#[], #[.agg #[.slice none 0 0, .slice none 0 0, .int .i64 0], .slice none 0 0], []⟩ 8 (by kernel_rfl) (by kernel_rfl) (by kernel_rfl) (by kernel_rfl)) ?_
  intro W base args ds gs before hval hW hcnd _
  exact contract H enc W base args ds gs before hval hW
end Go.Proofs.Ytodheeifecoebaa.profileZero
