import Derived.Test.YtodheeifecoebaaK2x
set_option linter.all false
set_option linter.unusedVariables false
set_option linter.unusedSimpArgs false
set_option linter.unusedSectionVars false
namespace Go.Abs
open Go.Proofs
theorem wcall_rawfn {P : Program} {s : List (Nat × AV)} {h : List Blk} {K : St → Prop} {g : FuncId} {args : List AV} {v : Value} {d : Option Nat} (hf : Fn P g args (.lit v) []) (hp : plainL args = true)
    (hk : K (St.put ⟨s, h⟩ d (.lit v))) : wcall P true (.lit (.func (.func g) #[] #[])) args d ⟨s, h⟩ K := by
  refine wcall_raw ((acall_frame hp hf).mono fun r H' ⟨r0, new, ⟨e1, e2⟩, e3, e4⟩ => ?_)
  subst e1 e2
  simp only [ren, List.map_nil, List.append_nil] at e3 e4
  subst e3 e4
  exact hk
end Go.Abs
