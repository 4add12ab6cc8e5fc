import Derived.Test.YtodheeifecoebaaK8
import Derived.Test.YtodheeifecoebaaK43x
import Derived.Test.YtodheeifecoebaaK42x
import Derived.Test.YtodheeifecoebaaK54x
import Derived.Test.YtodheeifecoebaaK70a
import Derived.Test.YtodheeifecoebaaK112x
import Derived.Test.YtodheeifecoebaaK106x
set_option linter.all false
set_option linter.unusedVariables false
set_option linter.unusedSimpArgs false
set_option linter.unusedSectionVars false
namespace Go.Abs
open Go.Proofs
/-! a list with a number taken off, piece by piece -/
end Go.Abs
namespace Go.Abs
open Go.Proofs
/-! Reaching -/
theorem IsTo.lt {o z : Nat} {M : List (List Int)} {H : List Blk} (h : IsTo o z M H) (hz : 1 ≤ z) : o + z < H.length := by
  obtain ⟨w, h4⟩ := h.r (z - 1) (by omega)
  have := (List.getElem?_eq_some_iff.1 h4).1
  omega
structure I83 (z N : Nat) (M : List (List Int)) (a b : Int) (xs : List Int) (H : List Blk) : Prop where
  t : IsTo 1 z M H
  p : H[0]? = some (.cells true false 2 [[i64 a, i64 b]])
  o : H[N]? = some (.cells true false 1 (xs.map fun x => [i64 x]))
/-- all lengths are known where the first zone reaches all -/
theorem all_fin {z : Nat} {l : List Rd} (h : checkR z l = 0) (hr : ∃ r, r ≤ z ∧ (rnds (arcsL l l.length) z (r + 1)).at_ < 0) (hw : ((tabM (arcsL l l.length) z).getD 0 []).any isFar = false) :
    ∀ i j, i < z → j < z → -41000000 ≤ mget (tabM (arcsL l l.length) z) i j ∧ mget (tabM (arcsL l l.length) z) i j ≤ 41000000 := by
  obtain ⟨hz, hl, hrd⟩ := checkR_ok h
  obtain ⟨hA, hN, hok⟩ := arcs_ok hrd
  have hn : (arcsL l l.length).length ≤ 200 := by have := arcsL_len l l.length; omega
  obtain ⟨P, hP1, hP2⟩ := rest_bound hA hn hr (by omega)
  have hS := tab_stt hA hN (by omega) hP1 hP2
  have hfar : far = 1099511627776 := rfl
  generalize tabM (arcsL l l.length) z = M at *
  have hbd := fun i j (hi : i < z) (hj : j < z) => hS.bd hA (Nat.le_refl _) (by omega) (i := i) (j := j) hi hj
  have hrow0 : ∀ k, k < z → mget M 0 k < far := fun k hk => by
    rw [List.any_eq_false] at hw
    have hk2 : k < (M.getD 0 []).length := by rw [hS.sq.hr 0 (by omega)]; exact hk
    have h1 := hw (mget M 0 k) (by
      unfold mget
      rw [List.getD_eq_getElem?_getD (l := M.getD 0 []), List.getElem?_eq_getElem hk2]
      exact List.getElem_mem hk2)
    rcases hbd 0 k (by omega) hk with h2 | h2
    · exfalso; apply h1; unfold isFar; rw [h2]; rfl
    · omega
  have hcol := fun i (hi : i < z) => hS.back hA (arcs_two l) (by omega) (i := 0) (j := i) (by omega) hi (hrow0 i hi)
  intro i j hi hj
  have h1 := hS.cl 0 i j (by omega) hi hj (hcol i hi) (hrow0 j hj)
  have h2 := hbd i 0 hi (by omega)
  have h3 := hbd 0 j (by omega) hj
  have h4 := hcol i hi
  have h5 := hrow0 j hj
  rcases hbd i j hi hj with h6 | h6
  · omega
  · exact h6
end Go.Abs
namespace Go.Abs
open Go.Proofs
def enc (M : List (List Int)) : Nat → List (Int × Int)
  | 0 => []
  | k + 1 => enc M k ++ [(-(mget M k 0), mget M 0 k)]
def erows (xs : List (Int × Int)) : List (List AV) := xs.map fun p => [i64 p.1, i64 p.2]
structure I31 (M : List (List Int)) (z k : Nat) (H : List Blk) : Prop where
  tb : IsTb z M H
  len : H.length = 1 + z + 2 * k
  out : k ≠ 0 → H[z + 2 * k]? = some (.cells true false 2 (erows (enc M k)))
end Go.Abs
namespace Go.Abs
open Go.Proofs
theorem r19 : rcall Try.prog muts noPrim itA 3000 19 [] [] = some (bl true, []) := by kernel_rfl
theorem k19 : Fn Try.prog 19 [] (bl true) [] := rcall_ok (noPrim_ok _) itA_ok r19
end Go.Abs
namespace Go.Abs
open Go.Proofs
end Go.Abs
namespace Go.Abs
open Go.Proofs
end Go.Abs
namespace Go.Abs
open Go.Proofs
/-! what a table holds at the end -/
end Go.Abs
namespace Go.Abs
open Go.Proofs
end Go.Abs
namespace Go.Abs
open Go.Proofs
/-! law 18 -/
end Go.Abs
