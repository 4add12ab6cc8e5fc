import Derived.Test.YtodheeifecoebaaAbs21
set_option linter.all false
set_option linter.unusedVariables false
set_option linter.unusedSimpArgs false
set_option linter.unusedSectionVars false
namespace Go.Abs
/-! sums, and lists told by a function of their numbers: nothing of the program here -/
def sm (f : Nat → Int) : Nat → Int
  | 0 => 0
  | n + 1 => sm f n + f n
theorem sm_congr {f g : Nat → Int} : ∀ n, (∀ i, i < n → f i = g i) → sm f n = sm g n
  | 0, _ => rfl
  | n + 1, h => by unfold sm; rw [sm_congr n fun i hi => h i (by omega), h n (by omega)]
theorem sm_add (f g : Nat → Int) : ∀ n, sm (fun i => f i + g i) n = sm f n + sm g n
  | 0 => rfl
  | n + 1 => by unfold sm; rw [sm_add f g n]; omega
theorem sm_const (c : Int) : ∀ n : Nat, sm (fun _ => c) n = n * c
  | 0 => by simp [sm]
  | n + 1 => by unfold sm; rw [sm_const c n, Int.natCast_add, Int.add_mul]; omega
theorem sm_bd {f : Nat → Int} {B : Int} : ∀ n : Nat, (∀ i, i < n → -B ≤ f i ∧ f i ≤ B) → -(n * B) ≤ sm f n ∧ sm f n ≤ n * B
  | 0, _ => by simp [sm]
  | n + 1, h => by
    have h1 := sm_bd n fun i hi => h i (by omega)
    have h2 := h n (by omega)
    have e : ((n + 1 : Nat) : Int) * B = n * B + B := by rw [Int.natCast_add, Int.add_mul]; omega
    unfold sm
    omega
/-- the first one set forth -/
theorem sm_shift (f : Nat → Int) : ∀ n, sm f (n + 1) = f 0 + sm (fun i => f (i + 1)) n
  | 0 => by simp [sm]
  | n + 1 => by
    rw [sm, sm_shift f n, sm]; omega
/-- turned once round: the last one has become the first -/
theorem sm_cyc (f g : Nat → Int) (n : Nat) (h0 : g n = f 0) (h : ∀ i, i < n → g i = f (i + 1)) : sm g (n + 1) = sm f (n + 1) := by
  rw [sm_shift f, sm, h0, sm_congr n h]; omega
/-- turned round some times -/
theorem sm_per {f : Nat → Int} {n : Nat} (hp : ∀ i, f (i + n) = f i) : ∀ t, sm (fun i => f (i + t)) n = sm f n
  | 0 => rfl
  | t + 1 => by
    rw [← sm_per hp t]
    cases n with
    | zero => rfl
    | succ n =>
      refine sm_cyc (fun i => f (i + t)) _ n ?_ fun i _ => ?_
      · show f (n + (t + 1)) = f (0 + t)
        rw [show n + (t + 1) = t + (n + 1) by omega, hp]; simp
      · show f (i + (t + 1)) = f (i + 1 + t)
        rw [show i + (t + 1) = i + 1 + t by omega]
/-- the sum backwards -/
theorem sm_rev (f : Nat → Int) : ∀ n, sm (fun i => f (n - 1 - i)) n = sm f n
  | 0 => rfl
  | n + 1 => by
    rw [sm_shift, sm]
    have : sm (fun i => f (n + 1 - 1 - (i + 1))) n = sm (fun i => f (n - 1 - i)) n := sm_congr n fun i hi => by
      show f (n + 1 - 1 - (i + 1)) = f (n - 1 - i)
      rw [show n + 1 - 1 - (i + 1) = n - 1 - i by omega]
    rw [this, sm_rev f n]
    simp; omega

def mk (n : Nat) (f : Nat → Int) : List Int := (List.range n).map f
theorem mk_len (n : Nat) (f : Nat → Int) : (mk n f).length = n := by simp [mk]
theorem mk_get {n : Nat} {f : Nat → Int} {i : Nat} (h : i < n) : (mk n f).getD i 0 = f i := by
  simp [mk, List.getD_eq_getElem?_getD, h]
theorem mk_congr {n : Nat} {f g : Nat → Int} (h : ∀ i, i < n → f i = g i) : mk n f = mk n g := by
  unfold mk
  exact List.map_congr_left fun i hi => h i (List.mem_range.1 hi)
theorem mk_set {n : Nat} {f : Nat → Int} {i : Nat} (v : Int) : (mk n f).set i v = mk n (fun j => if j = i then v else f j) := by
  refine List.ext_getElem (by simp [mk]) fun k h1 h2 => ?_
  simp only [mk, List.getElem_set, List.getElem_map, List.getElem_range]
  by_cases h : i = k
  · subst h; simp
  · simp only [h, if_false]; rw [if_neg (fun e => h e.symm)]
theorem mk_snoc (n : Nat) (f : Nat → Int) : mk (n + 1) f = mk n f ++ [f n] := by simp [mk, List.range_succ]
/-! turned maps: V t i is what turn t shows at sector i; s sectors a turn -/
def rst (V : Nat → Nat → Int) (k i : Nat) : Int := sm (fun t => V t i) k
/-- the mirror's part, of the turns before u -/
def mirp (V : Nat → Nat → Int) (k s n u j : Nat) : Int := sm (fun t => (k : Int) * V t ((j + t * s) % n) - rst V k ((j + t * s) % n)) u
def mir (V : Nat → Nat → Int) (k s n j : Nat) : Int := mirp V k s n k j

theorem at_iff {n i j m : Nat} (hi : i < n) (hj : j < n) (hm : m ≤ n) : (j + m) % n = i ↔ j = (i + n - m) % n := by
  by_cases h1 : j + m < n
  · rw [Nat.mod_eq_of_lt h1]
    by_cases h2 : i + n - m < n
    · rw [Nat.mod_eq_of_lt h2]; omega
    · rw [Nat.mod_eq_sub_mod (by omega), Nat.mod_eq_of_lt (by omega)]; omega
  · by_cases h3 : j + m < n + n
    · rw [Nat.mod_eq_sub_mod (by omega), Nat.mod_eq_of_lt (by omega)]
      by_cases h2 : i + n - m < n
      · rw [Nat.mod_eq_of_lt h2]; omega
      · rw [Nat.mod_eq_sub_mod (by omega), Nat.mod_eq_of_lt (by omega)]; omega
    · omega
theorem at_inv {n i m : Nat} (hi : i < n) (hm : m ≤ n) : ((i + n - m) % n + m) % n = i := by
  have : 0 < n := by omega
  exact (at_iff hi (Nat.mod_lt _ this) hm).2 rfl
theorem rst_bd {V : Nat → Nat → Int} {B : Int} {k i : Nat} (h : ∀ t, t < k → -B ≤ V t i ∧ V t i ≤ B) : -(k * B) ≤ rst V k i ∧ rst V k i ≤ k * B := sm_bd k h
theorem mirp_bd {V : Nat → Nat → Int} {k s n j u : Nat} (hn : 0 < n) (hk : k ≤ 12) (hu : u ≤ k) (h : ∀ t i, t < k → i < n → -100000 ≤ V t i ∧ V t i ≤ 100000) : -28800000 ≤ mirp V k s n u j ∧ mirp V k s n u j ≤ 28800000 := by
  have h1 : ∀ t, t < u → -2400000 ≤ (k : Int) * V t ((j + t * s) % n) - rst V k ((j + t * s) % n) ∧ (k : Int) * V t ((j + t * s) % n) - rst V k ((j + t * s) % n) ≤ 2400000 := fun t ht => by
    have hi := Nat.mod_lt (j + t * s) hn
    generalize (j + t * s) % n = i at *
    have h2 := h t i (by omega) hi
    have h3 := rst_bd (V := V) (B := 100000) (k := k) (i := i) fun t ht => h t i ht hi
    have h4 : -(12 * 100000) ≤ (k : Int) * V t i ∧ (k : Int) * V t i ≤ 12 * 100000 := by
      obtain ⟨a, b⟩ := h2
      have hk0 : (0 : Int) ≤ k := by omega
      have e1 : (k : Int) * V t i ≤ k * 100000 := Int.mul_le_mul_of_nonneg_left b hk0
      have e2 : (k : Int) * (-100000) ≤ k * V t i := Int.mul_le_mul_of_nonneg_left a hk0
      omega
    omega
  have h2 := sm_bd (B := 2400000) u h1
  unfold mirp
  omega
end Go.Abs
