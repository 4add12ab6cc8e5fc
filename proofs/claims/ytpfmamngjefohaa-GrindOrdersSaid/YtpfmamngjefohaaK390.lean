import Derived.Test.YtpfmamngjefohaaK377x
set_option linter.all false
set_option linter.unusedVariables false
set_option linter.unusedSimpArgs false
set_option linter.unusedSectionVars false
namespace Go.Abs
open Go.Proofs
/-! sums of wear, in any order -/
def zg (l : List Sk) (g : Ss) : Int := if nmB g.mi = false then 4 else if decide (sAt l g.st < 0) = true then 6 else if (decide (1 ≤ g.mn) && decide (g.mn ≤ 10000)) = false then 2 else 0
theorem zEr_zg (l : List Sk) (s : List Ss) (k : Nat) : zEr l s k = zg l (s.getD k ss0) := rfl
theorem fe_zero {e : Nat → Int} : ∀ n, (∀ k, k < n → e k = 0) → fe e n = 0
  | 0, _ => rfl
  | n + 1, h => fe_next (fe_zero n fun k hk => h k (by omega)) (h n (by omega))
theorem zE_iff {l : List Sk} {s : List Ss} : zE l s = 0 ↔ s.length ≤ 200 ∧ ∀ g ∈ s, zg l g = 0 := by
  constructor
  · intro h
    have hZ := zE_ok h
    refine ⟨hZ.few, fun g hg => ?_⟩
    unfold zE at h
    rw [if_neg (by have := hZ.few; omega)] at h
    obtain ⟨k, hk, rfl⟩ := List.mem_iff_getElem.1 hg
    have := fe_all h k hk
    rw [zEr_zg, List.getD_eq_getElem?_getD, List.getElem?_eq_getElem hk] at this
    exact this
  · rintro ⟨h1, h2⟩
    unfold zE
    rw [if_neg (by omega)]
    refine fe_zero _ fun k hk => ?_
    rw [zEr_zg, List.getD_eq_getElem?_getD, List.getElem?_eq_getElem hk]
    exact h2 _ (List.getElem_mem hk)
def sS (l : List Sk) (b : ByteArray) (z : Nat) : List Ss → Int
  | [] => 0
  | g :: r => (if eqT g.mi b = true then g.mn * wOf l g.st z else 0) + sS l b z r
theorem sS_app (l : List Sk) (b : ByteArray) (z : Nat) : ∀ s t, sS l b z (s ++ t) = sS l b z s + sS l b z t
  | [], t => by simp [sS]
  | g :: r, t => by simp only [List.cons_append, sS, sS_app l b z r t]; omega
theorem sS_rev (l : List Sk) (b : ByteArray) (z : Nat) : ∀ s, sS l b z s.reverse = sS l b z s
  | [] => rfl
  | g :: r => by rw [List.reverse_cons, sS_app, sS_rev l b z r]; simp only [sS]; omega
theorem sS_filter (l : List Sk) (b : ByteArray) (z : Nat) : ∀ s, sS l b z (s.filter fun g => eqT g.mi b) = sS l b z s
  | [] => rfl
  | g :: r => by
    have ih := sS_filter l b z r
    cases h : eqT g.mi b with
    | true => rw [List.filter_cons_of_pos (by exact h)]; simp only [sS]; rw [ih]
    | false => rw [List.filter_cons_of_neg (by rw [h]; simp)]; simp only [sS]; rw [ih, h]; simp
theorem wz_take (l : List Sk) (s : List Ss) (b : ByteArray) (z : Nat) : ∀ k, k ≤ s.length → wz l s b k z = sS l b z (s.take k)
  | 0, _ => rfl
  | k + 1, hk => by
    have ih := wz_take l s b z k (by omega)
    have hk' : k < s.length := by omega
    have e : s.getD k ss0 = s[k] := by rw [List.getD_eq_getElem?_getD, List.getElem?_eq_getElem hk']; rfl
    rw [List.take_succ_eq_append_getElem hk', sS_app]
    simp only [wz, sS]
    rw [ih, e]
    split <;> omega
theorem wz_sS (l : List Sk) (s : List Ss) (b : ByteArray) (z : Nat) : wz l s b s.length z = sS l b z s := by
  rw [wz_take l s b z s.length (Nat.le_refl _), List.take_length]
theorem wrL_sS (l : List Sk) (s : List Ss) (b : ByteArray) : wrL l s b = fL (l.getD 0 sk0).wr.length (fun z => sS l b z s) := fL_congr fun z _ => wz_sS l s b z
theorem wrL_rev (l : List Sk) (s : List Ss) (b : ByteArray) : wrL l s.reverse b = wrL l s b := by
  rw [wrL_sS, wrL_sS]; exact fL_congr fun z _ => sS_rev l b z s
theorem wrL_mine (l : List Sk) (s : List Ss) (b : ByteArray) : wrL l (s.reverse.filter fun g => eqT g.mi b) b = wrL l s b := by
  rw [wrL_sS, wrL_sS]; exact fL_congr fun z _ => by rw [sS_filter, sS_rev]
theorem wrL_get (l : List Sk) (s : List Ss) (b : ByteArray) {z : Nat} (hz : z < (l.getD 0 sk0).wr.length) : (wrL l s b).getD z 0 = sS l b z s := by rw [wrL_sS]; exact fL_get _ hz
theorem wrL_snoc (l : List Sk) (s : List Ss) (x : Ss) (b : ByteArray) {z : Nat} (hz : z < (l.getD 0 sk0).wr.length) : (wrL l (s ++ [x]) b).getD z 0 = (wrL l s b).getD z 0 + (wrL l [x] b).getD z 0 := by
  rw [wrL_get l _ b hz, wrL_get l _ b hz, wrL_get l _ b hz, sS_app]
theorem zE_rev {l : List Sk} {s : List Ss} (h : zE l s = 0) : zE l s.reverse = 0 := by
  rw [zE_iff] at h ⊢
  exact ⟨by rw [List.length_reverse]; exact h.1, fun g hg => h.2 g (List.mem_reverse.1 hg)⟩
theorem zE_filter {l : List Sk} {s : List Ss} (p : Ss → Bool) (h : zE l s = 0) : zE l (s.filter p) = 0 := by
  rw [zE_iff] at h ⊢
  exact ⟨Nat.le_trans (List.length_filter_le _ _) h.1, fun g hg => h.2 g (List.mem_filter.1 hg).1⟩
theorem zE_last {l : List Sk} {s : List Ss} {x : Ss} (h : zE l (s ++ [x]) = 0) : zE l [x] = 0 := by
  rw [zE_iff] at h ⊢
  exact ⟨by simp, fun g hg => h.2 g (List.mem_append_right _ hg)⟩
/-- what is left is told right -/
theorem left_ok {lo hi W : List Int} {n z : Nat} (hD : DOk n lo hi) (hz : z < n) (h : W.getD z 0 ≤ hi.getD z 0) : 0 ≤ lwz lo W z ∧ lwz lo W z ≤ hwz hi W z := by
  have := hD.le z hz
  unfold lwz hwz
  split <;> omega
end Go.Abs
