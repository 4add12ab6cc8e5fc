import Derived.Test.YtdedhipkncagjaaK510x
import Derived.Test.YtdedhipkncagjaaK511
import Derived.Test.YtdedhipkncagjaaK391x
import Derived.Test.YtdedhipkncagjaaK502x
set_option linter.all false
set_option linter.unusedVariables false
set_option linter.unusedSimpArgs false
set_option linter.unusedSectionVars false
namespace Go.Abs
open Go.Proofs
/-! what a call leaves in memory that is only told of -/
theorem frzLen : ∀ (ids : List Nat) (H : List Blk), (freeze H ids).length = H.length
  | [], _ => rfl
  | id :: r, H => by
    show (freeze (freeze1 H id) r).length = _
    rw [frzLen r]
    unfold freeze1; split <;> simp
theorem rL1 {d : Nat} {H : List Blk} {v w : AV} (h : Rds d H v w) (hd6 : d ≤ 6) : rfyL (hget H) [v] = [w] := by
  simp only [rfyL, List.map_cons, List.map_nil, h.six hd6]
theorem rL4 {d1 d2 d3 d4 : Nat} {H : List Blk} {v1 v2 v3 v4 w1 w2 w3 w4 : AV} (h1 : Rds d1 H v1 w1) (h2 : Rds d2 H v2 w2) (h3 : Rds d3 H v3 w3) (h4 : Rds d4 H v4 w4) (e1 : d1 ≤ 6) (e2 : d2 ≤ 6) (e3 : d3 ≤ 6) (e4 : d4 ≤ 6) : rfyL (hget H) [v1, v2, v3, v4] = [w1, w2, w3, w4] := by
  have a := rL3 h1 h2 h3 e1 e2 e3
  have b := rL1 h4 e4
  unfold rfyL at a b ⊢
  simp only [List.map_cons, List.map_nil, List.cons.injEq, and_true] at a b ⊢
  exact ⟨a.1, a.2.1, a.2.2, b⟩
theorem rds_dm {d : Nat} {H : List Blk} {x0 x1 : AV} {n0 n1 : Bool} {lo hi : List Int} (h0 : Rds d H x0 (ints n0 lo)) (h1 : Rds d H x1 (ints n1 hi)) : Rds (d + 1) H (.agg [x0, x1]) (dmV n0 lo n1 hi) := by
  refine ⟨?_, by simp [plain, plainL]⟩
  show AV.agg ([x0, x1].map (rfy (hget H) d)) = _
  simp only [List.map_cons, List.map_nil]
  rw [h0.1, h1.1]
section
variable {P : Program} {s : List (Nat × AV)} {h : List Blk} {K : St → Prop} {g : FuncId} {args args' : List AV} {e : Option Nat} {d : Nat}
theorem wcallX_E0 {r : AV} (hf : Fn P g args' r []) (hr : plain r = true) (he : rfyL (hget h) args = args') (hp : plainL args' = true)
    (hk : ∀ H', Ext h H' → K (St.put ⟨s, H'⟩ e r)) : wcallX P false (.lit (.func (.func g) #[] #[])) args e ⟨s, h⟩ K := by
  refine wcallX_fn hf he hp ?_
  rw [ren_plain _ _ hr]
  exact hk _ (Ext.call _ _ _)
theorem wcall_E0 {r : AV} (hf : Fn P g args' r []) (hr : plain r = true) (he : rfyL (hget h) args = args') (hp : plainL args' = true)
    (hk : ∀ H', Ext h H' → K (St.put ⟨s, H'⟩ e r)) : wcall P false (.lit (.func (.func g) #[] #[])) args e ⟨s, h⟩ K := by
  refine wcall_fn hf he hp ?_
  rw [ren_plain _ _ hr]
  exact hk _ (Ext.call _ _ _)
theorem wcall_L {n : Nat} {c : Value} {xs : List Int} (hf : Fn P g args' (.tup [.lsl 0 0 n, .lit c]) [iC xs]) (he : rfyL (hget h) args = args') (hp : plainL args' = true)
    (hk : ∀ id H', Ext h H' → H'[id]? = some (iC xs) → K (St.put ⟨s, H'⟩ e (.tup [.lsl id 0 n, .lit c]))) : wcall P false (.lit (.func (.func g) #[] #[])) args e ⟨s, h⟩ K := by
  refine wcall_fn hf he hp ?_
  refine hk (0 + h.length) _ (Ext.call _ _ _) ?_
  rw [Nat.zero_add, List.getElem?_append_right (by rw [frzLen]; exact Nat.le_refl _), frzLen, Nat.sub_self]
  show some (renB _ (iC xs)) = _
  simp only [renB, renR_ints]
end
theorem wcallX_S {s : List (Nat × AV)} {h : List Blk} {K : St → Prop} {g : FuncId} {args args' : List AV} {e : Option Nat} {q : List Ss} {n : Nat} {c : Int} (hf : Fn Try.prog g args' (.tup [.lsl 0 0 n, i64 c]) [.cells false false 3 (ssR q)]) (he : rfyL (hget h) args = args') (hp : plainL args' = true)
    (hk : ∀ id H', Ext h H' → H'[id]? = some (.cells false false 3 (ssR q)) → K (St.put ⟨s, H'⟩ e (.tup [.lsl id 0 n, i64 c]))) : wcallX Try.prog false (.lit (.func (.func g) #[] #[])) args e ⟨s, h⟩ K := by
  refine wcallX_fn hf he hp ?_
  refine hk (0 + h.length) _ (Ext.call _ _ _) ?_
  rw [Nat.zero_add, List.getElem?_append_right (by rw [frzLen]; exact Nat.le_refl _), frzLen, Nat.sub_self]
  show some (renB _ (.cells false false 3 (ssR q))) = _
  simp only [renB, renR_ss]
abbrev iB (o : Bool) (xs : List Int) : Blk := .cells o false 1 (xs.map fun x => [i64 x])
/-- rows that read as these lists -/
def RowsR (H : List Blk) (E : List (List AV)) (WL : List (List Int)) : Prop := E.length = WL.length ∧ ∀ k, k < WL.length → ∃ v, E.getD k [] = [v] ∧ Rds 1 H v (ints false (WL.getD k []))
theorem RowsR.ext {H H' : List Blk} {E : List (List AV)} {WL : List (List Int)} (h : RowsR H E WL) (hx : Ext H H') : RowsR H' E WL := ⟨h.1, fun k hk => let ⟨v, a, b⟩ := h.2 k hk; ⟨v, a, b.ext hx⟩⟩
theorem RowsR.cons {H : List Blk} {E : List (List AV)} {WL : List (List Int)} {v : AV} {w : List Int} (h : RowsR H E WL) (hv : Rds 1 H v (ints false w)) : RowsR H ([v] :: E) (w :: WL) := by
  refine ⟨by simp [h.1], fun k hk => ?_⟩
  match k, hk with
  | 0, _ => exact ⟨v, rfl, hv⟩
  | k + 1, hk => exact h.2 k (by simpa using hk)
theorem RowsR.nil (H : List Blk) : RowsR H [] [] := ⟨rfl, fun k hk => absurd hk (by simp)⟩
theorem RowsR.map {H : List Blk} {d : Nat} (hd : 1 ≤ d) : ∀ {E : List (List AV)} {WL : List (List Int)}, RowsR H E WL → E.map (fun r => r.map (rfy (hget H) d)) = nlR WL
  | [], [], _ => rfl
  | [], _ :: _, h => absurd h.1 (by simp)
  | _ :: _, [], h => absurd h.1 (by simp)
  | r :: E, w :: WL, h => by
    obtain ⟨v, hv, hr⟩ := h.2 0 (by simp)
    have hv' : r = [v] := hv
    subst hv'
    have ih := RowsR.map hd (E := E) (WL := WL) ⟨by have := h.1; simpa using this, fun k hk => by
      obtain ⟨u, h1, h2⟩ := h.2 (k + 1) (by simpa using hk)
      exact ⟨u, h1, h2⟩⟩
    rw [List.map_cons, ih]
    show [rfy (hget H) d v] :: nlR WL = nlR (w :: WL)
    rw [(hr.to hd).1]
    rfl
theorem RowsR.rds {H : List Blk} {E : List (List AV)} {WL : List (List Int)} {o : Bool} {iw : Nat} (h : RowsR H E WL) (hw : H[iw]? = some (.cells o false 1 E)) : Rds 2 H (.lsl iw 0 WL.length) (.sl false 1 (nlR WL)) := by
  refine ⟨?_, by simp only [plain, plainR_nlR]⟩
  unfold rfy
  rw [hget_some' hw]
  dsimp only
  rw [if_pos (by have := h.1; omega), List.drop_zero, ← h.1, List.take_length]
  exact congrArg (AV.sl false 1) (RowsR.map (by omega) h)
end Go.Abs
