import Derived.Test.YtodheeifecoebaaK9
import Derived.Test.YtodheeifecoebaaK10x
import Derived.Test.YtodheeifecoebaaK11
import Derived.Test.YtodheeifecoebaaRows
import Derived.WalkKit
import Derived.ProofKit
import Derived.OpenShut
set_option linter.all false
set_option linter.unusedVariables false
set_option linter.unusedSimpArgs false
set_option linter.unusedSectionVars false
namespace Go.Proofs.Ytodheeifecoebaa.profileReduces
open Go.ChangeShapes Go.WideShapes Go.ChangeAt Go.RowKit Go.Abs
set_option linter.unusedVariables false

theorem own : ownKnob Try.prog.godebug = none := by kernel_rfl
theorem cells3 : Try.prog.cellsOf 3 = 1 := by kernel_rfl
theorem cells56 : Try.prog.cellsOf 56 = 2 := by kernel_rfl
theorem cells104 : Try.prog.cellsOf 104 = 3 := by kernel_rfl

set_option maxRecDepth 100000 in
set_option maxHeartbeats 4000000 in
theorem contract (H : Type) (enc : TypeId × Value → H) (W : World) (base : Nat) (args : Array Value) (ds gs : List (DataW H)) (before : List MemPlace)
    (hval : ∀ (j : Nat) t v, Try.f14.params[j]? = some t → args[j]? = some v → Value.okWide Try.prog W .any base t v)
    (hW : DataW.Whole enc Try.prog Try.f14.params.toList Rows.profileReducesSpec.vars false W args.toList ds gs before) :
    Calls Try.prog 14 args W fun e W' => ∃ v, e = .returned v ∧ Rows.profileReducesSpec.post enc Try.prog Try.f14 false true false false W args v W' := by
  have hW' := hW
  obtain ⟨p, q, hA0, hV, hbe, hfz, hnd⟩ := hW
  have hA : DataW.TrodAll enc Try.prog W 0 (fun _ => true) true Try.f14.params.toList args.toList ds p := hA0
  rw [Try.params14] at hA hval
  obtain ⟨v0, v1, d0, d1, p0, p1, rfl, rfl, rfl, h0, h1⟩ := trodAll_two hA
  obtain ⟨rfl, rfl⟩ := trodVars_none hV
  obtain ⟨nil, xs, hc0⟩ := open_ints_av Try.underlying22 Try.underlying3 cells3 (hval 0 22 v0 rfl rfl) h0
  obtain ⟨cs, rfl, hsz⟩ := okWide_struct Try.underlying104 (hval 1 104 v1 rfl rfl)
  rw [cells104] at hsz
  obtain ⟨l⟩ := cs
  match l, hsz with
  | [c0, c1, c2], _ =>
  obtain ⟨fuel, hf⟩ := h1
  obtain ⟨y0, y1, n, _, _, hy0, hy1⟩ := trod_struct2 Try.underlying104 hf
  obtain ⟨z0, z1, m, _, _, hz0, hz1⟩ := trod_struct2 Try.underlying56 hy1
  rw [cells3] at hy0 hz0 hz1
  rw [cells56] at hz0 hz1
  obtain ⟨i0, e0, _, _⟩ := DataW.trod_int Try.underlying3 hy0
  obtain ⟨i1, e1, _, _⟩ := DataW.trod_int Try.underlying3 hz0
  obtain ⟨i2, e2, _, _⟩ := DataW.trod_int Try.underlying3 hz1
  simp [Value.cells] at e0 e1 e2
  subst e0 e1 e2
  refine (law_calls (k14 k19 nil xs i0 i1 i2) (cargs := [v0, _]) ⟨v0, _, rfl, hc0, _, [], rfl, rfl, rfl⟩).mono fun e W' ⟨he, hb⟩ => ?_
  subst he
  exact ⟨_, rfl, post_law (t := 4) hW' rfl rfl (by kernel_rfl) Try.underlying4 (by kernel_rfl) (by rw [Try.params14]; intro t ht; simp only [List.mem_cons, List.not_mem_nil, or_false] at ht; rcases ht with rfl | rfl <;> exact ⟨by kernel_rfl, of_decide_eq_true (by kernel_rfl)⟩) hb⟩

end Go.Proofs.Ytodheeifecoebaa.profileReduces
