import Derived.Test.YtodheeifecoebaaK223x
import Derived.Test.YtodheeifecoebaaK9
set_option linter.all false
set_option linter.unusedVariables false
set_option linter.unusedSimpArgs false
set_option linter.unusedSectionVars false
namespace Go.Abs
open Go.Proofs
/-! law 6 -/
theorem Ext.set_resv {H : List Blk} {N : Nat} (h : H[N]? = some .resv) (b : Blk) : Ext H (H.set N b) := fun id o n sz els hc => by
  by_cases e : N = id
  · subst e; rw [h] at hc; simp at hc
  · exact ⟨o, by rw [List.getElem?_set_ne e]; exact hc⟩
theorem freeze1_resv {H : List Blk} {N : Nat} (h : H[N]? = some .resv) (id : Nat) : (freeze1 H id)[N]? = some .resv := by
  unfold freeze1
  split
  · rename_i n' s' e' h1
    by_cases hij : id = N
    · subst hij; rw [h] at h1; simp at h1
    · rw [List.getElem?_set_ne hij]; exact h
  · exact h
theorem freeze_resv {N : Nat} : ∀ (ids : List Nat) (H : List Blk), H[N]? = some .resv → (freeze H ids)[N]? = some .resv
  | [], _, h => h
  | id :: r, H, h => freeze_resv r _ (freeze1_resv h id)
theorem call_resv {H : List Blk} {N : Nat} (h : H[N]? = some .resv) (ids : List Nat) (X : List Blk) : (freeze H ids ++ X)[N]? = some .resv := by
  have h1 := freeze_resv ids H h
  rw [List.getElem?_append_left (List.getElem?_eq_some_iff.1 h1).1]; exact h1
section
variable {P : Program} {s : List (Nat × AV)} {h : List Blk} {K : St → Prop} {g : FuncId} {args args' : List AV} {e : Option Nat} {d : Nat}
theorem wcall_F0 {r : AV} (hf : Fn P g args' r []) (hr : plain r = true) (he : rfyL (hget h) args = args') (hp : plainL args' = true)
    (hk : ∀ H', Ext h H' → (∀ N : Nat, h[N]? = some .resv → H'[N]? = some .resv) → K (St.put ⟨s, H'⟩ e r)) : wcall P false (.lit (.func (.func g) #[] #[])) args e ⟨s, h⟩ K := by
  refine wcall_fn hf he hp ?_
  rw [ren_plain _ _ hr]
  exact hk _ (Ext.call _ _ _) (fun _ hN => call_resv hN _ _)
end
theorem at_ap {H : List Blk} {i : Nat} {b : Blk} (h : H[i]? = some b) (X : List Blk) : (H ++ X)[i]? = some b := by rw [List.getElem?_append_left (List.getElem?_eq_some_iff.1 h).1]; exact h
theorem TmOk.of {n : Nat} {rows : List (Bool × List Int)} (h : checkT n rows = 0) : ∃ s, TmOk n s rows := by
  obtain ⟨m, s, e, h1, h2, h3, h4, h5⟩ := checkT_ok h
  have : m = n := by omega
  subst this
  exact ⟨s, h1, h2, h3, h4, h5⟩
/-! what the copies of the maps give -/
end Go.Abs
