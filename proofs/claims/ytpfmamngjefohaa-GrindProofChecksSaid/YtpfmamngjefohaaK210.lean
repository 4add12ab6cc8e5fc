import Derived.Test.YtpfmamngjefohaaK201
set_option linter.all false
set_option linter.unusedVariables false
set_option linter.unusedSimpArgs false
set_option linter.unusedSectionVars false
namespace Go.Abs
section
variable {P : Program} {s : List (Nat × AV)} {h : List Blk} {K : St → Prop} {g : FuncId} {args args' : List AV} {e : Option Nat} {d : Nat}
theorem wcallX_E1 {w : AV} (hf : Gv d P g args' [w]) (he : rfyL (hget h) args = args') (hp : plainL args' = true) (hx : plain w = true) (hw : rfy (hget []) d w = w)
    (hk : ∀ v H', Ext h H' → Rds d H' v w → K (St.put ⟨s, H'⟩ e v)) : wcallX P false (.lit (.func (.func g) #[] #[])) args e ⟨s, h⟩ K :=
  wcallX_g1 hf he hp hx hw fun v _ hv => hk v _ (Ext.call _ _ _) (hv _ (frzLen _ _))
theorem wcall_E0 {r : AV} (hf : Fn P g args' r []) (hr : plain r = true) (he : rfyL (hget h) args = args') (hp : plainL args' = true)
    (hk : ∀ H', Ext h H' → K (St.put ⟨s, H'⟩ e r)) : wcall P false (.lit (.func (.func g) #[] #[])) args e ⟨s, h⟩ K := by
  refine wcall_fn hf he hp ?_
  rw [ren_plain _ _ hr]
  exact hk _ (Ext.call _ _ _)
theorem wcallX_E0 {r : AV} (hf : Fn P g args' r []) (hr : plain r = true) (he : rfyL (hget h) args = args') (hp : plainL args' = true)
    (hk : ∀ H', Ext h H' → K (St.put ⟨s, H'⟩ e r)) : wcallX P false (.lit (.func (.func g) #[] #[])) args e ⟨s, h⟩ K := by
  refine wcallX_fn hf he hp ?_
  rw [ren_plain _ _ hr]
  exact hk _ (Ext.call _ _ _)
theorem Ext.cell {H H' : List Blk} (hx : Ext H H') {id : Nat} {o n : Bool} {sz : Nat} {els : List (List AV)} (h : H[id]? = some (.cells o n sz els)) : ∃ o', H'[id]? = some (.cells o' n sz els) := hx _ _ _ _ _ h
theorem Rds.six {H : List Blk} {v w : AV} (h : Rds d H v w) (hd : d ≤ 6 := by omega) : rfy (hget H) 6 v = w := (h.to hd).1
end
end Go.Abs
