import Derived.Test.YtdedhipkncagjaaK512
set_option linter.all false
set_option linter.unusedVariables false
set_option linter.unusedSimpArgs false
set_option linter.unusedSectionVars false
namespace Go.Abs
open Go.Proofs
/-! TopNeverDigs: the plain law -/
theorem eqT_congr {x b : ByteArray} (h : eqT x b = true) (y : ByteArray) : eqT y x = eqT y b := by
  rw [eqT_iff] at h
  unfold eqT
  rw [h]
theorem sS_congr {l : List Sk} {x b : ByteArray} (h : eqT x b = true) (z : Nat) : ∀ S, sS l x z S = sS l b z S
  | [] => rfl
  | g :: r => by simp only [sS, eqT_congr h, sS_congr h z r]
theorem sS_one {l : List Sk} {b : ByteArray} {z : Nat} {x : Ss} : sS l b z [x] = if eqT x.mi b = true then x.mn * wOf l x.st z else 0 := by simp [sS]
theorem sS_pos {l : List Sk} (hS : SOk l) {z : Nat} (hz : z < (l.getD 0 sk0).wr.length) (b : ByteArray) {S : List Ss} (h : zE l S = 0) : 0 ≤ sS l b z S := by
  have := (wz_bd hS (zE_ok h) b hz S.length (Nat.le_refl _)).1
  rw [wz_sS] at this
  exact this
def WLof (l : List Sk) (b : ByteArray) (S : List Ss) : List (List Int) := if mrE b = 0 then (S.map fun y => wrL l [y] b).reverse else []
theorem WLof_snoc {l : List Sk} {b : ByteArray} (h : mrE b = 0) (S : List Ss) (x : Ss) : WLof l b (S ++ [x]) = wrL l [x] b :: WLof l b S := by simp [WLof, h]
theorem WLof_bad {l : List Sk} {b : ByteArray} (h : mrE b ≠ 0) (S : List Ss) : WLof l b S = [] := by simp [WLof, h]
structure Acc (l : List Sk) (hs ws hi : List Int) (S : List Ss) : Prop where
  e : S = [] ∨ (sE l = 0 ∧ zE l S = 0)
  le : ∀ b z, z < hs.length → sS l b z S ≤ hi.getD z 0
/-- what the widths and the heights give -/
structure Rt (l : List Sk) (hs ws : List Int) : Prop where
  w : ∀ k, k < l.length → (l.getD k sk0).wr.length = hs.length
  d : ∀ z, z < hs.length → 0 ≤ hs.getD z 0 - ws.getD z 0 ∧ hs.getD z 0 - ws.getD z 0 ≤ 10000
  t : twE hs ws = 0
theorem Acc.nil {l : List Sk} {hs ws : List Int} (h : Rt l hs ws) : Acc l hs ws (hwL hs ws hs.length) [] := ⟨.inl rfl, fun b z hz => by
  show (0 : Int) ≤ _
  unfold hwL
  rw [fL_get _ hz]
  exact (h.d z hz).1⟩
theorem Acc.snoc {l : List Sk} {hs ws lo hi : List Int} {S : List Ss} {x : Ss} (hr : Rt l hs ws) (h : Acc l hs ws hi S) (h0 : adE l lo hi S x = 0) (hok : okB hi (wrL l (S ++ [x]) x.mi) (l.getD 0 sk0).wr.length = true) : Acc l hs ws hi (S ++ [x]) := by
  obtain ⟨z1, z2, z3, z4⟩ := adE_zero h0
  have hS := sE_ok z1
  have hn := hr.w 0 hS.pos
  refine ⟨.inr ⟨z1, z4⟩, fun b z hz => ?_⟩
  by_cases he : eqT x.mi b = true
  · have h1 : ∀ z, z < (l.getD 0 sk0).wr.length → (wrL l (S ++ [x]) x.mi).getD z 0 ≤ hi.getD z 0 := of_decide_eq_true hok
    have h2 := h1 z (by omega)
    rw [wrL_get l _ _ (by omega), sS_congr he] at h2
    exact h2
  · rw [sS_app, sS_one, if_neg he]
    have := h.le b z hz
    omega
theorem psW_cons (w : List Int) (WL : List (List Int)) (z : Nat) : ∀ k, psW (w :: WL) (k + 1) z = w.getD z 0 + psW WL k z
  | 0 => by simp [psW]
  | k + 1 => by
    rw [psW, psW_cons w WL z k, psW]
    show _ + psW WL k z + (WL.getD k []).getD z 0 = _
    omega
theorem zE_init {l : List Sk} {S : List Ss} {x : Ss} (h : zE l (S ++ [x]) = 0) : zE l S = 0 := by
  rw [zE_iff] at h ⊢
  refine ⟨by have := h.1; simp at this; omega, fun g hg => h.2 g (List.mem_append_left _ hg)⟩
theorem WLof_all {l : List Sk} (hS : SOk l) {b : ByteArray} (hb : mrE b = 0) {z : Nat} (hz : z < (l.getD 0 sk0).wr.length) (S : List Ss) (h : zE l S = 0) :
    (∀ k, k ≤ (WLof l b S).length → 0 ≤ psW (WLof l b S) k z ∧ psW (WLof l b S) k z ≤ sS l b z S) ∧ (∀ k, k < (WLof l b S).length → ((WLof l b S).getD k []).length = (l.getD 0 sk0).wr.length ∧ 0 ≤ ((WLof l b S).getD k []).getD z 0 ∧ ((WLof l b S).getD k []).getD z 0 ≤ sS l b z S) ∧ (WLof l b S).length = S.length := by
  obtain ⟨R, rfl⟩ : ∃ R, S = R.reverse := ⟨S.reverse, by simp⟩
  induction R with
  | nil =>
    have e : WLof l b [].reverse = [] := by simp [WLof]
    rw [e]
    refine ⟨fun k hk => ?_, fun k hk => absurd hk (by simp), rfl⟩
    have : k = 0 := by simpa using hk
    subst this
    simp [psW, sS]
  | cons x R ih =>
    rw [List.reverse_cons] at h ⊢
    obtain ⟨i1, i2, i3⟩ := ih (zE_init h)
    have hx : 0 ≤ sS l b z [x] := sS_pos hS hz b (zE_last h)
    have hp : 0 ≤ sS l b z R.reverse := sS_pos hS hz b (zE_init h)
    have hwx := wrL_get l [x] b hz
    rw [WLof_snoc hb, sS_app]
    refine ⟨fun k hk => ?_, fun k hk => ?_, by simp [i3]⟩
    · match k, hk with
      | 0, _ => exact ⟨by simp [psW], by simp only [psW]; omega⟩
      | k + 1, hk =>
        rw [psW_cons, hwx]
        have := i1 k (by simpa using hk)
        omega
    · match k, hk with
      | 0, _ =>
        refine ⟨fL_len _ _, ?_⟩
        show 0 ≤ (wrL l [x] b).getD z 0 ∧ (wrL l [x] b).getD z 0 ≤ _
        rw [hwx]; omega
      | k + 1, hk =>
        have := i2 k (by simpa using hk)
        refine ⟨this.1, ?_⟩
        show 0 ≤ ((WLof l b R.reverse).getD k []).getD z 0 ∧ ((WLof l b R.reverse).getD k []).getD z 0 ≤ _
        omega
theorem hw_get {hs ws : List Int} {z : Nat} (hz : z < hs.length) : (hwL hs ws hs.length).getD z 0 = hs.getD z 0 - ws.getD z 0 := by
  unfold hwL; rw [fL_get _ hz]; rfl
theorem Acc.d1 {l : List Sk} {hs ws : List Int} {S : List Ss} {b : ByteArray} (hr : Rt l hs ws) (h : Acc l hs ws (hwL hs ws hs.length) S) (hs0 : sE l = 0) (hz0 : zE l S = 0) : D19 hs ws [wrL l S b] := by
  obtain ⟨t1, t2, t3⟩ := twE_ok hr.t
  have hS := sE_ok hs0
  have hn := hr.w 0 hS.pos
  have key : ∀ z, z < hs.length → 0 ≤ (wrL l S b).getD z 0 ∧ (wrL l S b).getD z 0 ≤ hs.getD z 0 - ws.getD z 0 ∧ hs.getD z 0 - ws.getD z 0 ≤ 10000 := fun z hz => by
    rw [wrL_get l S b (by omega)]
    have h1 := h.le b z hz
    rw [hw_get hz] at h1
    exact ⟨sS_pos hS (by omega) b hz0, h1, (hr.d z hz).2⟩
  refine ⟨t1, t2, t3, by simp, fun k hk => ?_, fun k hk z hz => ?_, fun k hk z hz => ?_⟩
  · have : k = 0 := by simpa using hk
    subst this
    show (wrL l S b).length = _
    rw [← hn]; exact fL_len _ _
  · have : k = 0 := by simpa using hk
    subst this
    have := key z hz
    show 0 ≤ (wrL l S b).getD z 0 ∧ (wrL l S b).getD z 0 ≤ _
    omega
  · have := key z hz
    match k, hk with
    | 0, _ => simp only [psW]; omega
    | 1, _ =>
      show _ ≤ _ - (0 + (wrL l S b).getD z 0)
      omega
    | k + 2, hk => simp at hk
theorem Acc.d2 {l : List Sk} {hs ws : List Int} {S : List Ss} {b : ByteArray} (hr : Rt l hs ws) (h : Acc l hs ws (hwL hs ws hs.length) S) (hs0 : sE l = 0) (hz0 : zE l S = 0) (hb : mrE b = 0) (hfew : S.length ≤ 100) : D19 hs ws (WLof l b S) := by
  obtain ⟨t1, t2, t3⟩ := twE_ok hr.t
  have hS := sE_ok hs0
  have hn := hr.w 0 hS.pos
  have key : ∀ z, z < hs.length → sS l b z S ≤ hs.getD z 0 - ws.getD z 0 ∧ hs.getD z 0 - ws.getD z 0 ≤ 10000 := fun z hz => by
    have h1 := h.le b z hz
    rw [hw_get hz] at h1
    exact ⟨h1, (hr.d z hz).2⟩
  have hz1 : 0 < (l.getD 0 sk0).wr.length := hS.zon.1
  have hl := (WLof_all hS hb hz1 S hz0).2.2
  refine ⟨t1, t2, t3, by omega, fun k hk => ?_, fun k hk z hz => ?_, fun k hk z hz => ?_⟩
  · rw [← hn]; exact ((WLof_all hS hb hz1 S hz0).2.1 k hk).1
  · have a := ((WLof_all hS hb (z := z) (by omega) S hz0).2.1 k hk).2
    have := key z hz
    omega
  · have a := (WLof_all hS hb (z := z) (by omega) S hz0).1 k hk
    have := key z hz
    omega
end Go.Abs
