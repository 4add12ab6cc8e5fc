import Derived.Test.YtdedhipkncagjaaK376x
import Derived.Test.YtdedhipkncagjaaK330x
import Derived.Test.YtdedhipkncagjaaK373x
set_option linter.all false
set_option linter.unusedVariables false
set_option linter.unusedSimpArgs false
set_option linter.unusedSectionVars false
namespace Go.Abs
open Go.Proofs
/-! LeftFor of the reference: a round -/
end Go.Abs
namespace Go.Abs
open Go.Proofs
/-! LeftFor of the reference, whole -/
theorem rb_of {l : List Sk} {s : List Ss} {b : ByteArray} {lo hi : List Int} (hS : SOk l) (hZ : ZOk l s) (hD : DOk (l.getD 0 sk0).wr.length lo hi) : RB lo hi (wrL l s b) (l.getD 0 sk0).wr.length := by
  have hz := hS.zon
  have hf := hZ.few
  refine ⟨by omega, hD.l1, hD.l2, fL_len _ _, fun k hk => ?_⟩
  have h1 := hD.r1 k hk
  have h2 := hD.r2 k hk
  have h200 : (wrL l s b).getD k 0 = wz l s b s.length k := fL_get _ hk
  have h201 := wz_bd hS hZ b hk s.length (Nat.le_refl _)
  omega
theorem lids_take (h : Nat → Blk) (d : Nat) (xs : List Int) (n : Nat) : List.flatMap (fun r => List.flatMap (lids h d) r) (List.take n (xs.map fun x => [i64 x])) = [] := by
  rw [List.flatMap_eq_nil_iff]
  intro r hr
  obtain ⟨x, _, rfl⟩ := List.mem_map.1 (List.mem_of_mem_take hr)
  cases d <;> rfl
end Go.Abs
namespace Go.Abs
open Go.Proofs
/-! LeftFor -/
end Go.Abs
namespace Go.Abs
open Go.Proofs
/-! sums of wear, in any order -/
def zg (l : List Sk) (g : Ss) : Int := if nmB g.mi = false then 4 else if decide (sAt l g.st < 0) = true then 6 else if (decide (1 ≤ g.mn) && decide (g.mn ≤ 10000)) = false then 2 else 0
theorem zEr_zg (l : List Sk) (s : List Ss) (k : Nat) : zEr l s k = zg l (s.getD k ss0) := rfl
theorem fe_zero {e : Nat → Int} : ∀ n, (∀ k, k < n → e k = 0) → fe e n = 0
  | 0, _ => rfl
  | n + 1, h => fe_next (fe_zero n fun k hk => h k (by omega)) (h n (by omega))
theorem zE_iff {l : List Sk} {s : List Ss} : zE l s = 0 ↔ s.length ≤ 200 ∧ ∀ g ∈ s, zg l g = 0 := by
  constructor
  · intro h
    have hZ := zE_ok h
    refine ⟨hZ.few, fun g hg => ?_⟩
    unfold zE at h
    rw [if_neg (by have := hZ.few; omega)] at h
    obtain ⟨k, hk, rfl⟩ := List.mem_iff_getElem.1 hg
    have := fe_all h k hk
    rw [zEr_zg, List.getD_eq_getElem?_getD, List.getElem?_eq_getElem hk] at this
    exact this
  · rintro ⟨h1, h2⟩
    unfold zE
    rw [if_neg (by omega)]
    refine fe_zero _ fun k hk => ?_
    rw [zEr_zg, List.getD_eq_getElem?_getD, List.getElem?_eq_getElem hk]
    exact h2 _ (List.getElem_mem hk)
def sS (l : List Sk) (b : ByteArray) (z : Nat) : List Ss → Int
  | [] => 0
  | g :: r => (if eqT g.mi b = true then g.mn * wOf l g.st z else 0) + sS l b z r
theorem sS_app (l : List Sk) (b : ByteArray) (z : Nat) : ∀ s t, sS l b z (s ++ t) = sS l b z s + sS l b z t
  | [], t => by simp [sS]
  | g :: r, t => by simp only [List.cons_append, sS, sS_app l b z r t]; omega
theorem wz_take (l : List Sk) (s : List Ss) (b : ByteArray) (z : Nat) : ∀ k, k ≤ s.length → wz l s b k z = sS l b z (s.take k)
  | 0, _ => rfl
  | k + 1, hk => by
    have ih := wz_take l s b z k (by omega)
    have hk' : k < s.length := by omega
    have e : s.getD k ss0 = s[k] := by rw [List.getD_eq_getElem?_getD, List.getElem?_eq_getElem hk']; rfl
    rw [List.take_succ_eq_append_getElem hk', sS_app]
    simp only [wz, sS]
    rw [ih, e]
    split <;> omega
theorem wz_sS (l : List Sk) (s : List Ss) (b : ByteArray) (z : Nat) : wz l s b s.length z = sS l b z s := by
  rw [wz_take l s b z s.length (Nat.le_refl _), List.take_length]
theorem wrL_sS (l : List Sk) (s : List Ss) (b : ByteArray) : wrL l s b = fL (l.getD 0 sk0).wr.length (fun z => sS l b z s) := fL_congr fun z _ => wz_sS l s b z
theorem wrL_get (l : List Sk) (s : List Ss) (b : ByteArray) {z : Nat} (hz : z < (l.getD 0 sk0).wr.length) : (wrL l s b).getD z 0 = sS l b z s := by rw [wrL_sS]; exact fL_get _ hz
theorem zE_last {l : List Sk} {s : List Ss} {x : Ss} (h : zE l (s ++ [x]) = 0) : zE l [x] = 0 := by
  rw [zE_iff] at h ⊢
  exact ⟨by simp, fun g hg => h.2 g (List.mem_append_right _ hg)⟩
end Go.Abs
