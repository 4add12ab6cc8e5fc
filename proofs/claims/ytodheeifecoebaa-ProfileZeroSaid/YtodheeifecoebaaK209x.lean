import Derived.Test.YtodheeifecoebaaK208x
import Derived.Test.YtodheeifecoebaaK210
set_option linter.all false
set_option linter.unusedVariables false
set_option linter.unusedSimpArgs false
set_option linter.unusedSectionVars false
namespace Go.Abs
open Go.Proofs
theorem rfy0 (h : Nat → Blk) (d : Nat) (x : Value) : rfy h d (.lit x) = .lit x := by cases d <;> rfl
theorem rfy_iB {H : List Blk} {id n d : Nat} {own : Bool} {xs : List Int} (h : H[id]? = some (.cells own false 1 (xs.map fun x => [i64 x]))) (hl : xs.length = n) : rfy (hget H) (d + 1) (.lsl id 0 n) = ints false xs := by
  unfold rfy
  rw [hget_some' h]
  dsimp only
  rw [if_pos (by simp; omega), List.drop_zero, List.take_of_length_le (by simp; omega), List.map_map]
  refine congrArg (AV.sl false 1) (List.map_congr_left fun x _ => ?_)
  simp only [Function.comp, List.map_cons, List.map_nil, rfy0]
theorem rfy_prB {H : List Blk} {id n d : Nat} {own : Bool} {xs : List (Int × Int)} (h : H[id]? = some (.cells own false 2 (prR xs))) (hl : xs.length = n) : rfy (hget H) (d + 1) (.lsl id 0 n) = .sl false 2 (prR xs) := by
  unfold rfy
  rw [hget_some' h]
  have hp := prR_len xs
  dsimp only
  rw [if_pos (by omega), List.drop_zero, List.take_of_length_le (by omega)]
  refine congrArg (AV.sl false 2) ?_
  unfold prR
  rw [List.map_map]
  refine List.map_congr_left fun x _ => ?_
  simp only [Function.comp, List.map_cons, List.map_nil, rfy0]
def cpW (rows : List (Bool × List Int)) : AV := if rows = [] then .sl true 0 [] else .sl false 1 ((rows.map fun r => (false, r.2)).map fun r => [ints r.1 r.2])
theorem I78.rds {rows : List (Bool × List Int)} {H : List Blk} (h : I78 rows rows.length H) (h0 : rows.length ≠ 0) : rfy (hget H) 2 (.lsl (3 * rows.length - 2) 0 rows.length) = cpW rows := by
  have hne : rows ≠ [] := fun e => h0 (by rw [e]; rfl)
  unfold cpW
  rw [if_neg hne]
  unfold rfy
  rw [hget_some' (h.t h0)]
  have ho := otB_len rows rows.length
  dsimp only
  rw [if_pos (by omega), List.drop_zero, List.take_of_length_le (by omega)]
  refine congrArg (AV.sl false 1) ?_
  unfold otB
  rw [List.map_map, List.map_map]
  refine List.ext_getElem (by simp) fun i h1 h2 => ?_
  simp only [List.length_map, List.length_range] at h1
  obtain ⟨o, hr⟩ := h.r i h1
  have e := rfy_iB (d := 0) hr rfl
  have e2 : rowN rows i = rows[i] := by simp [rowN, List.getD, h1]
  simp only [List.getElem_map, List.getElem_range, Function.comp, List.map_cons, List.map_nil, Nat.zero_add] at e ⊢
  rw [e, e2]
end Go.Abs
