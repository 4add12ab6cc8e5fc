import Derived.Test.YtodheeifecoebaaK239x
import Derived.Test.YtodheeifecoebaaK226
import Derived.Test.YtodheeifecoebaaK34
import Derived.Test.YtodheeifecoebaaRows
import Derived.WalkKit
import Derived.ProofKit
import Derived.OpenShut
set_option linter.all false
set_option linter.unusedVariables false
set_option linter.unusedSimpArgs false
set_option linter.unusedSectionVars false
namespace Go.Proofs.Ytodheeifecoebaa.profileFits
open Go.ChangeShapes Go.WideShapes Go.ChangeAt Go.RowKit Go.Abs
set_option linter.unusedVariables false
theorem own : ownKnob Try.prog.godebug = none := by kernel_rfl
theorem cells3 : Try.prog.cellsOf 3 = 1 := by kernel_rfl
theorem cells22 : Try.prog.cellsOf 22 = 1 := by kernel_rfl
theorem cells128 : Try.prog.cellsOf 128 = 2 := by kernel_rfl
theorem types128 : Try.prog.cellTypes Try.prog.depth 128 = some [22, 3] := by kernel_rfl
set_option maxRecDepth 100000 in
set_option maxHeartbeats 4000000 in
theorem contract (H : Type) (enc : TypeId × Value → H) (W : World) (base : Nat) (args : Array Value) (ds gs : List (DataW H)) (before : List MemPlace)
    (hval : ∀ (j : Nat) t v, Try.f17.params[j]? = some t → args[j]? = some v → Value.okWide Try.prog W .any base t v)
    (hW : DataW.Whole enc Try.prog Try.f17.params.toList Rows.profileFitsSpec.vars false W args.toList ds gs before) :
    Calls Try.prog 17 args W fun e W' => ∃ v, e = .returned v ∧ Rows.profileFitsSpec.post enc Try.prog Try.f17 false true false false W args v W' := by
  have hW' := hW
  obtain ⟨p, q, hA0, hV, hbe, hfz, hnd⟩ := hW
  have hA : DataW.TrodAll enc Try.prog W 0 (fun _ => true) true Try.f17.params.toList args.toList ds p := hA0
  rw [Try.params17] at hA hval
  obtain ⟨v0, v1, v2, d0, d1, d2, p0, p1, p2, rfl, rfl, rfl, h0, h1, h2⟩ := trodAll_three hA
  obtain ⟨rfl, rfl⟩ := trodVars_none hV
  obtain ⟨a0, len0, cap0, rfl⟩ := okWide_slice Try.underlying26 (hval 0 26 v0 rfl rfl)
  obtain ⟨fuel0, hf0⟩ := h0
  obtain ⟨nil, rows, hc0⟩ := open_lists Try.underlying26 Try.underlying22 Try.underlying3 cells22 cells3 (show DataW.trod enc Try.prog W 0 (fun _ => true) true fuel0 26 [.slice a0 len0 cap0] = some (d0, p0) from hf0)
  obtain ⟨hn, xs1, hc1⟩ := open_ints_av Try.underlying22 Try.underlying3 cells3 (hval 1 22 v1 rfl rfl) h1
  obtain ⟨cs, rfl, hsz, hcell⟩ := okWide_struct_cells Try.underlying128 types128 (hval 2 128 v2 rfl rfl)
  rw [cells128] at hsz
  obtain ⟨l⟩ := cs
  match l, hsz with
  | [c0, c1], _ =>
  obtain ⟨fuel, hf⟩ := h2
  obtain ⟨y0, y1, n, _, _, hy0, hy1⟩ := trod_struct2 Try.underlying128 hf
  rw [cells22] at hy0
  rw [cells3] at hy1
  obtain ⟨i0, e0, _, _⟩ := DataW.trod_int Try.underlying3 hy1
  simp [Value.cells] at e0
  subst e0
  obtain ⟨fn, nums, hc2⟩ := open_ints_cell Try.underlying22 Try.underlying3 cells3 (hcell 0 c0 22 rfl rfl) hy0
  refine (law_calls (k17 nil hn fn rows xs1 nums i0) (cargs := [_, _, _]) ⟨_, _, rfl, hc0, _, _, rfl, hc1, _, _, rfl, ⟨_, rfl, _, _, rfl, hc2, _, _, rfl, rfl, rfl⟩, rfl⟩).mono fun e W' ⟨he, hb⟩ => ?_
  subst he
  exact ⟨_, rfl, post_law (t := 4) hW' rfl rfl (by kernel_rfl) Try.underlying4 (by kernel_rfl) (by rw [Try.params17]; intro t ht; simp only [List.mem_cons, List.not_mem_nil, or_false] at ht; rcases ht with rfl | rfl | rfl <;> exact ⟨by kernel_rfl, of_decide_eq_true (by kernel_rfl)⟩) hb⟩
set_option maxRecDepth 100000 in
theorem lifted (os : Os) (started : os.Started) (H : Type) (enc : TypeId × Value → H) :
    ReturnsInHanded {} Try.checked os 17 .any (Rows.profileFitsSpec.pre6 enc Try.prog Try.f17 Rows.profileFitsRow.domain false) (Rows.profileFitsSpec.post enc Try.prog Try.f17 false true false false) := by
  refine returnsInHanded_of_change (C := Try.checked) own started (by kernel_rfl) Try.func17
    (ChangeSpec.witness6 (enc := enc) (C := Try.checked) false ⟨#[], #[.slice none 0 0, .slice none 0 0, .agg #[.slice none 0 0, .int .i64 0]], []⟩ 8 (by kernel_rfl) (by kernel_rfl) (by kernel_rfl) (by kernel_rfl)) ?_
  intro W base args ds gs before hval hW hcnd _
  exact contract H enc W base args ds gs before hval hW
end Go.Proofs.Ytodheeifecoebaa.profileFits
