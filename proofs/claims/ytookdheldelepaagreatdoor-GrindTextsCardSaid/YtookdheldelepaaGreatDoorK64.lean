import Derived.Test.YtookdheldelepaaGreatDoorPCmin
import Derived.Test.YtookdheldelepaaGreatDoorK9
import Derived.Test.YtookdheldelepaaGreatDoorK7x
import Derived.Test.YtookdheldelepaaGreatDoorK51
import Derived.Test.YtookdheldelepaaGreatDoorK201
set_option linter.all false
set_option linter.unusedVariables false
set_option linter.unusedSimpArgs false
set_option linter.unusedSectionVars false
namespace Go.Abs
open Go.Proofs
/-! the best sequence is accepted, with its minutes -/
def PthI (l : List Gr) (w : Int) : Int → List Int → Int → Prop
  | d, [], m => d ≤ w ∧ m = 0
  | d, i :: q, m => (0 ≤ i ∧ i ≤ (l.length : Int) - 1) ∧ (l.getD i.toNat gr0).dm < d ∧ ∃ m', PthI l w (l.getD i.toNat gr0).dm q m' ∧ m = m' + ceil d (l.getD i.toNat gr0).rt
theorem cnt_lt {e d : Int} (h : e < d) : ∀ (l : List Gr) (i : Nat), i < l.length → (l.getD i gr0).dm = e → l.countP (fun g => decide (g.dm < e)) + 1 ≤ l.countP (fun g => decide (g.dm < d))
  | [], i, hi, _ => by simp at hi
  | g :: l, 0, _, he => by
    have hg : g.dm = e := he
    have := List.countP_mono_left (l := l) (p := fun g => decide (g.dm < e)) (q := fun g => decide (g.dm < d)) fun x _ hx => by simp at hx ⊢; omega
    rw [List.countP_cons, List.countP_cons, if_neg (by simp; omega), if_pos (by simp; omega)]
    omega
  | g :: l, i + 1, hi, he => by
    have ih := cnt_lt h l i (by simpa using hi) (by rw [List.getD_cons_succ] at he; exact he)
    rw [List.countP_cons, List.countP_cons]
    by_cases h1 : g.dm < e
    · rw [if_pos (by simpa using h1), if_pos (by simp; omega)]; omega
    · rw [if_neg (by simpa using h1)]; split <;> omega
theorem PthI.len {l : List Gr} {w : Int} : ∀ {q : List Int} {d m : Int}, PthI l w d q m → q.length ≤ l.countP (fun g => decide (g.dm < d))
  | [], _, _, _ => Nat.zero_le _
  | i :: q, d, m, ⟨h1, h2, m', h300, _⟩ => by
    have h301 := PthI.len h300
    have h302 := cnt_lt h2 l i.toNat (by omega) rfl
    simp only [List.length_cons]
    omega
end Go.Abs
namespace Go.Abs
section
variable {P : Program} {s : List (Nat × AV)} {h : List Blk} {K : St → Prop} {g : FuncId} {args args' : List AV} {e : Option Nat} {d : Nat}
theorem wcall_E3 {w1 w2 w3 : AV} (hf : Gv d P g args' [w1, w2, w3]) (he : rfyL (hget h) args = args') (hp : plainL args' = true)
    (hk : ∀ v1 v2 v3 H', Ext h H' → Rds d H' v1 w1 → Rds d H' v2 w2 → Rds d H' v3 w3 → K (St.put ⟨s, H'⟩ e (.tup [v1, v2, v3]))) : wcall P false (.lit (.func (.func g) #[] #[])) args e ⟨s, h⟩ K :=
  wcall_g3 hf he hp fun v1 v2 v3 _ h1 h2 h300 => hk v1 v2 v3 _ (Ext.call _ _ _) (h1 _ (frzLen _ _)) (h2 _ (frzLen _ _)) (h300 _ (frzLen _ _))
theorem wcall_E0 {r : AV} (hf : Fn P g args' r []) (hr : plain r = true) (he : rfyL (hget h) args = args') (hp : plainL args' = true)
    (hk : ∀ H', Ext h H' → K (St.put ⟨s, H'⟩ e r)) : wcall P false (.lit (.func (.func g) #[] #[])) args e ⟨s, h⟩ K := by
  refine wcall_fn hf he hp ?_
  rw [ren_plain _ _ hr]
  exact hk _ (Ext.call _ _ _)
theorem Ext.cell {H H' : List Blk} (hx : Ext H H') {id : Nat} {o n : Bool} {sz : Nat} {els : List (List AV)} (h : H[id]? = some (.cells o n sz els)) : ∃ o', H'[id]? = some (.cells o' n sz els) := hx _ _ _ _ _ h
theorem Rds.six {H : List Blk} {v w : AV} (h : Rds d H v w) (hd : d ≤ 6 := by omega) : rfy (hget H) 6 v = w := (h.to hd).1
end
end Go.Abs
namespace Go.Abs
/-! reading lists of numbers -/
theorem rfy_iB {H : List Blk} {id n d : Nat} {own : Bool} {xs : List Int} (h : H[id]? = some (.cells own false 1 (xs.map fun x => [i64 x]))) (hl : xs.length = n) : rfy (hget H) (d + 1) (.lsl id 0 n) = ints false xs := by
  subst hl
  unfold rfy
  rw [hget_some' h]
  dsimp only
  rw [if_pos (by simp), List.drop_zero, List.take_of_length_le (by simp)]
  rw [List.map_map]
  refine congrArg (AV.sl false 1) (List.map_congr_left fun g _ => ?_)
  cases d <;> simp [rfy]
end Go.Abs
namespace Go.Abs
open Go.Proofs
/-! Shortest of the reference -/
theorem SB.rds {id i : Nat} {H : List Blk} {b : Bool} {q : List Int} (h : H[i]? = some (.cells b false 1 (q.map fun x => [i64 x]))) : rfy (hget H) 1 (.lsl i 0 q.length) = ints false q := by
  unfold rfy
  rw [hget_some' h]
  dsimp only
  rw [if_pos (by simp), List.drop_zero, List.take_of_length_le (by simp)]
  simp [List.map_map, Function.comp_def, rfy]
end Go.Abs
namespace Go.Abs
open Go.Proofs
/-! GrindShortest: calls with nil -/
end Go.Abs
namespace Go.Abs
open Go.Proofs
/-! GrindShortest -/
end Go.Abs
