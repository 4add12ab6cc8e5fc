import Derived.Test.YtodheeifecoebaaAbs21
set_option linter.all false
set_option linter.unusedVariables false
set_option linter.unusedSimpArgs false
set_option linter.unusedSectionVars false
namespace Go.Abs
/-! sums, and lists told by a function of their numbers: nothing of the program here -/
def sm (f : Nat → Int) : Nat → Int
  | 0 => 0
  | n + 1 => sm f n + f n
theorem sm_congr {f g : Nat → Int} : ∀ n, (∀ i, i < n → f i = g i) → sm f n = sm g n
  | 0, _ => rfl
  | n + 1, h => by unfold sm; rw [sm_congr n fun i hi => h i (by omega), h n (by omega)]
def mk (n : Nat) (f : Nat → Int) : List Int := (List.range n).map f
theorem mk_len (n : Nat) (f : Nat → Int) : (mk n f).length = n := by simp [mk]
theorem mk_get {n : Nat} {f : Nat → Int} {i : Nat} (h : i < n) : (mk n f).getD i 0 = f i := by
  simp [mk, List.getD_eq_getElem?_getD, h]
theorem mk_congr {n : Nat} {f g : Nat → Int} (h : ∀ i, i < n → f i = g i) : mk n f = mk n g := by
  unfold mk
  exact List.map_congr_left fun i hi => h i (List.mem_range.1 hi)
theorem mk_set {n : Nat} {f : Nat → Int} {i : Nat} (v : Int) : (mk n f).set i v = mk n (fun j => if j = i then v else f j) := by
  refine List.ext_getElem (by simp [mk]) fun k h1 h2 => ?_
  simp only [mk, List.getElem_set, List.getElem_map, List.getElem_range]
  by_cases h : i = k
  · subst h; simp
  · simp only [h, if_false]; rw [if_neg (fun e => h e.symm)]
theorem mk_snoc (n : Nat) (f : Nat → Int) : mk (n + 1) f = mk n f ++ [f n] := by simp [mk, List.range_succ]
/-! turned maps: V t i is what turn t shows at sector i; s sectors a turn -/
end Go.Abs
