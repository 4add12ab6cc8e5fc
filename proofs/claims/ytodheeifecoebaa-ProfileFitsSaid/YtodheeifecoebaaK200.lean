import Derived.Test.YtodheeifecoebaaAbs21
set_option linter.all false
set_option linter.unusedVariables false
set_option linter.unusedSimpArgs false
set_option linter.unusedSectionVars false
namespace Go.Abs
/-! sums, and lists told by a function of their numbers: nothing of the program here -/
def sm (f : Nat → Int) : Nat → Int
  | 0 => 0
  | n + 1 => sm f n + f n
theorem sm_congr {f g : Nat → Int} : ∀ n, (∀ i, i < n → f i = g i) → sm f n = sm g n
  | 0, _ => rfl
  | n + 1, h => by unfold sm; rw [sm_congr n fun i hi => h i (by omega), h n (by omega)]
theorem sm_add (f g : Nat → Int) : ∀ n, sm (fun i => f i + g i) n = sm f n + sm g n
  | 0 => rfl
  | n + 1 => by unfold sm; rw [sm_add f g n]; omega
theorem sm_sub (f g : Nat → Int) : ∀ n, sm (fun i => f i - g i) n = sm f n - sm g n
  | 0 => rfl
  | n + 1 => by unfold sm; rw [sm_sub f g n]; omega
theorem sm_mul (c : Int) (f : Nat → Int) : ∀ n, sm (fun i => c * f i) n = c * sm f n
  | 0 => by simp [sm]
  | n + 1 => by unfold sm; rw [sm_mul c f n, Int.mul_add]
theorem sm_const (c : Int) : ∀ n : Nat, sm (fun _ => c) n = n * c
  | 0 => by simp [sm]
  | n + 1 => by unfold sm; rw [sm_const c n, Int.natCast_add, Int.add_mul]; omega
theorem sm_bd {f : Nat → Int} {B : Int} : ∀ n : Nat, (∀ i, i < n → -B ≤ f i ∧ f i ≤ B) → -(n * B) ≤ sm f n ∧ sm f n ≤ n * B
  | 0, _ => by simp [sm]
  | n + 1, h => by
    have h1 := sm_bd n fun i hi => h i (by omega)
    have h2 := h n (by omega)
    have e : ((n + 1 : Nat) : Int) * B = n * B + B := by rw [Int.natCast_add, Int.add_mul]; omega
    unfold sm
    omega
theorem sm_swap (f : Nat → Nat → Int) (m : Nat) : ∀ n, sm (fun i => sm (f i) m) n = sm (fun j => sm (fun i => f i j) n) m
  | 0 => by
    have h : ∀ m, sm (fun _ => 0) m = 0 := fun m => by rw [sm_const]; simp
    simp only [sm, h]
  | n + 1 => by
    simp only [sm]
    rw [sm_swap f m n, ← sm_add]
def mk (n : Nat) (f : Nat → Int) : List Int := (List.range n).map f
theorem mk_len (n : Nat) (f : Nat → Int) : (mk n f).length = n := by simp [mk]
theorem mk_get {n : Nat} {f : Nat → Int} {i : Nat} (h : i < n) : (mk n f).getD i 0 = f i := by
  simp [mk, List.getD_eq_getElem?_getD, h]
theorem mk_congr {n : Nat} {f g : Nat → Int} (h : ∀ i, i < n → f i = g i) : mk n f = mk n g := by
  unfold mk
  exact List.map_congr_left fun i hi => h i (List.mem_range.1 hi)
theorem mk_set {n : Nat} {f : Nat → Int} {i : Nat} (v : Int) : (mk n f).set i v = mk n (fun j => if j = i then v else f j) := by
  refine List.ext_getElem (by simp [mk]) fun k h1 h2 => ?_
  simp only [mk, List.getElem_set, List.getElem_map, List.getElem_range]
  by_cases h : i = k
  · subst h; simp
  · simp only [h, if_false]; rw [if_neg (fun e => h e.symm)]
theorem mk_self (xs : List Int) : mk xs.length (fun i => xs.getD i 0) = xs := by
  refine List.ext_getElem (by simp [mk]) fun k h1 h2 => ?_
  simp [mk, List.getD_eq_getElem?_getD, h2]
/-! turned maps: V t i is what turn t shows at sector i; s sectors a turn -/
end Go.Abs
