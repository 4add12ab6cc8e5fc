import Derived.Test.YtpfmamngjefohaaK333x
import Derived.Test.YtpfmamngjefohaaK347x
import Derived.Test.YtpfmamngjefohaaK355x
set_option linter.all false
set_option linter.unusedVariables false
set_option linter.unusedSimpArgs false
set_option linter.unusedSectionVars false
namespace Go.Abs
open Go.Proofs
/-! the bound of weights is at most the time of a plan -/
def qs (l : List Sk) (mi lo hi : List Int) (k : Nat) : Nat → Int
  | 0 => 0
  | z + 1 => qs l mi lo hi k z + (lo.getD z 0 - hi.getD z 0) * pwz l mi k z
theorem qs_zero (l : List Sk) (mi lo hi : List Int) : ∀ z, qs l mi lo hi 0 z = 0
  | 0 => rfl
  | z + 1 => by simp only [qs, pwz, qs_zero l mi lo hi z]; simp
theorem qs_succ (l : List Sk) (mi lo hi : List Int) (k : Nat) : ∀ z, qs l mi lo hi (k + 1) z = qs l mi lo hi k z + mi.getD k 0 * plz (l.getD k sk0).wr lo hi z
  | 0 => by simp [qs, plz]
  | z + 1 => by
    have ih := qs_succ l mi lo hi k z
    simp only [qs, plz, pwz]
    rw [ih, Int.mul_add, Int.mul_add, Int.mul_left_comm, Int.mul_comm (lo.getD z 0 - hi.getD z 0) ((l.getD k sk0).wr.getD z 0)]
    omega
theorem qs_up {l : List Sk} {mi lo hi : List Int} {pden wden : Int} {n : Nat} (hP : POk l mi pden) (hpl : ∀ i, i < l.length → plz (l.getD i sk0).wr lo hi n ≤ wden) : ∀ k, k ≤ l.length → qs l mi lo hi k n ≤ tot mi k * wden
  | 0, _ => by rw [qs_zero]; simp [tot]
  | k + 1, hk => by
    have h1 := qs_up hP hpl k (by omega)
    have h2 := hP.mn k (by have := hP.len; omega)
    have h3 := Int.mul_le_mul_of_nonneg_left (hpl k (by omega)) h2.1
    rw [qs_succ]
    simp only [tot]
    rw [Int.add_mul]
    omega
theorem qs_low {l : List Sk} {mi dlo dhi lo hi : List Int} {pden wden : Int} {n : Nat} (hn : n = (l.getD 0 sk0).wr.length) (hW : WOk n lo hi wden) (hb : ∀ z, z < n → badZ (pwL l mi) dlo dhi pden z = false) : ∀ z, z ≤ n → bnd dlo dhi lo hi z * pden ≤ qs l mi lo hi l.length z
  | 0, _ => by simp [bnd, qs]
  | z + 1, hz => by
    have h1 := qs_low (mi := mi) (dlo := dlo) (dhi := dhi) (pden := pden) hn hW hb z (by omega)
    have h2 := hb z (by omega)
    have eW : (pwL l mi).getD z 0 = pwz l mi l.length z := fL_get _ (by omega)
    unfold badZ at h2
    rw [eW] at h2
    simp only [Bool.not_eq_false', Bool.and_eq_true, decide_eq_true_eq] at h2
    have a1 := Int.mul_le_mul_of_nonneg_left h2.1 (hW.r1 z (by omega)).1
    have a2 := Int.mul_le_mul_of_nonneg_left h2.2 (hW.r2 z (by omega)).1
    simp only [bnd, qs]
    rw [Int.add_mul, Int.sub_mul, Int.sub_mul, Int.mul_assoc, Int.mul_assoc]
    omega
theorem weak {l : List Sk} {mi dlo dhi lo hi : List Int} {pden wden : Int} {n : Nat} (hn : n = (l.getD 0 sk0).wr.length) (hP : POk l mi pden) (hW : WOk n lo hi wden) (hb : ∀ z, z < n → badZ (pwL l mi) dlo dhi pden z = false) (hpl : ∀ i, i < l.length → plz (l.getD i sk0).wr lo hi n ≤ wden) : bnd dlo dhi lo hi n * pden ≤ tot mi mi.length * wden := by
  have h1 := qs_low (mi := mi) (dlo := dlo) (dhi := dhi) (pden := pden) hn hW hb n (Nat.le_refl _)
  have h2 := qs_up hP hpl l.length (Nat.le_refl _)
  rw [hP.len]
  omega
end Go.Abs
