import Derived.Test.YtodheeifecoebaaK90
import Derived.Test.YtodheeifecoebaaK97x
import Derived.Test.YtodheeifecoebaaK9
set_option linter.all false
set_option linter.unusedVariables false
set_option linter.unusedSimpArgs false
set_option linter.unusedSectionVars false
namespace Go.Abs
open Go.Proofs
/-! the readings that can be left out -/
def gRd (z : Int) (r : Rd) : Prop := ((0 ≤ r.a ∧ r.a ≤ z - 1) ∧ (0 ≤ r.b ∧ r.b ≤ z - 1)) ∧ r.a ≠ r.b ∧ ((-1000000 ≤ r.lo ∧ r.lo ≤ 1000000) ∧ (-1000000 ≤ r.hi ∧ r.hi ≤ 1000000)) ∧ r.lo ≤ r.hi
theorem rdErr_iff {z : Int} : ∀ {l : List Rd}, rdErr z l = 0 ↔ ∀ r ∈ l, gRd z r
  | [] => by simp [rdErr]
  | r :: rs => by
    have ih := @rdErr_iff z rs
    constructor
    · intro h x hx
      unfold rdErr at h
      split at h
      · simp at h
      · split at h
        · simp at h
        · split at h
          · simp at h
          · split at h
            · simp at h
            · rcases List.mem_cons.1 hx with rfl | hx
              · unfold gRd; omega
              · exact ih.1 h x hx
    · intro h
      have h0 := h r (List.mem_cons_self ..)
      unfold gRd at h0
      unfold rdErr
      rw [if_neg (fun hh => hh h0.1), if_neg h0.2.1, if_neg (fun hh => hh h0.2.2.1), if_neg (by omega)]
      exact ih.2 fun x hx => h x (List.mem_cons_of_mem _ hx)
theorem rd_mem {l : List Rd} {i : Nat} (h : i < l.length) : l.getD i rd0 ∈ l := by
  rw [List.getD_eq_getElem?_getD, List.getElem?_eq_getElem h]
  exact List.getElem_mem h
theorem rd_idx {l : List Rd} {r : Rd} (h : r ∈ l) : ∃ i, i < l.length ∧ l.getD i rd0 = r := by
  obtain ⟨i, hi, e⟩ := List.getElem_of_mem h
  exact ⟨i, hi, by rw [List.getD_eq_getElem?_getD, List.getElem?_eq_getElem hi]; exact e⟩
def PotR (P : Nat → Int) (l : List Rd) : Prop := ∀ r ∈ l, P r.b.toNat ≤ P r.a.toNat + r.hi ∧ P r.a.toNat ≤ P r.b.toNat - r.lo
theorem potR_iff {P : Nat → Int} {l : List Rd} : (∀ k, k < (arcsL l l.length).length → P ((arcsL l l.length).getD k ar0).t.toNat ≤ P ((arcsL l l.length).getD k ar0).f.toNat + ((arcsL l l.length).getD k ar0).len) ↔ PotR P l := by
  constructor
  · intro h r hr
    obtain ⟨i, hi, rfl⟩ := rd_idx hr
    obtain ⟨k, m, h1, h2, h3, h4⟩ := arcs_get l l.length (Nat.le_refl _) i hi
    have a := h k h1
    have b := h m h2
    rw [h3] at a
    rw [h4] at b
    dsimp only at a b
    omega
  · intro h k hk
    obtain ⟨i, hi, h2⟩ := getD_arcs l l.length (Nat.le_refl _) k hk
    have := h _ (rd_mem hi)
    rcases h2 with h2 | h2
    · rw [h2]; dsimp only; omega
    · rw [h2]; dsimp only; omega
/-- readings that are right and do not contradict each other -/
def NC (z : Nat) (l : List Rd) : Prop := checkR z l = 0 ∧ ∃ r, r ≤ z ∧ (rnds (arcsL l l.length) z (r + 1)).at_ < 0
theorem NC.pot {z : Nat} {l : List Rd} (h : NC z l) : ∃ P : Nat → Int, PotR P l ∧ ∀ v, v < z → -10000000000 ≤ P v ∧ P v ≤ 10000000000 := by
  obtain ⟨hz, hl, hrd⟩ := checkR_ok h.1
  obtain ⟨hA, hN, hok⟩ := arcs_ok hrd
  have hal := arcsL_len l l.length
  obtain ⟨P, h1, h2⟩ := rest_bound hA (by omega) h.2 (by omega)
  exact ⟨P, potR_iff.1 h1, h2⟩
theorem NC.of {z : Nat} {l : List Rd} {P : Nat → Int} (h : checkR z l = 0) (hp : PotR P l) : NC z l := by
  obtain ⟨hz, hl, hrd⟩ := checkR_ok h
  obtain ⟨hA, hN, hok⟩ := arcs_ok hrd
  have hal := arcsL_len l l.length
  exact ⟨h, z, Nat.le_refl _, pot_no_circle hA hN (by omega) (by omega) (P := fun v => P v.toNat) fun k hk => potR_iff.2 hp k hk⟩
theorem NC.sub {z : Nat} {l s : List Rd} (h : NC z l) (hs : ∀ r ∈ s, r ∈ l) (hlen : s.length ≤ l.length) : NC z s := by
  obtain ⟨hz, hl, hrd⟩ := checkR_ok h.1
  obtain ⟨P, hp, _⟩ := h.pot
  refine NC.of (P := P) ?_ fun r hr => hp r (hs r hr)
  unfold checkR
  rw [if_neg (by omega), if_neg (by omega)]
  exact rdErr_iff.2 fun r hr => rdErr_iff.1 hrd r (hs r hr)
def tb (z : Nat) (l : List Rd) : List (List Int) := tabM (arcsL l l.length) z
theorem NC.stt {z : Nat} {l : List Rd} (h : NC z l) : Stt (arcsL l l.length) z z (tb z l) := by
  obtain ⟨hz, hl, hrd⟩ := checkR_ok h.1
  obtain ⟨hA, hN, hok⟩ := arcs_ok hrd
  obtain ⟨P, hp, hb⟩ := h.pot
  exact tab_stt hA hN (by omega) (potR_iff.2 hp) hb
def imp (z : Nat) (s : List Rd) (r : Rd) : Bool := decide (mget (tb z s) r.a.toNat r.b.toNat ≤ r.hi) && decide (mget (tb z s) r.b.toNat r.a.toNat ≤ -r.lo)
theorem mem_erase {l : List Rd} {i : Nat} {r : Rd} (h : r ∈ l.eraseIdx i) : r ∈ l := List.mem_of_mem_eraseIdx h
theorem tb_erase {z : Nat} {l : List Rd} (h : NC z l) {i : Nat} (hi : i < l.length) (hc : imp z (l.eraseIdx i) (l.getD i rd0) = true) : tb z (l.eraseIdx i) = tb z l := by
  have hs : NC z (l.eraseIdx i) := h.sub (fun r hr => mem_erase hr) (by rw [List.length_eraseIdx]; split <;> omega)
  obtain ⟨hz, hl, hrd⟩ := checkR_ok h.1
  obtain ⟨hA, hN, hok⟩ := arcs_ok hrd
  have hM := h.stt
  have hS := hs.stt
  unfold imp at hc
  simp only [Bool.and_eq_true, decide_eq_true_eq] at hc
  refine (tab_eq hM.sq hS.sq fun a b ha hb => stt_same hM hS hA (by omega) (fun k hk => ?_) (fun k hk => ?_) ha hb).symm
  · obtain ⟨j, hj, h2⟩ := getD_arcs (l.eraseIdx i) _ (Nat.le_refl _) k hk
    obtain ⟨j2, hj2, e⟩ := rd_idx (mem_erase (rd_mem hj))
    obtain ⟨m, n, h3, h4, h5, h6⟩ := arcs_get l l.length (Nat.le_refl _) j2 hj2
    rw [e] at h5 h6
    rcases h2 with h2 | h2
    · exact ⟨m, h3, by rw [h5, h2], by rw [h5, h2], by rw [h5, h2]⟩
    · exact ⟨n, h4, by rw [h6, h2], by rw [h6, h2], by rw [h6, h2]⟩
  · obtain ⟨j, hj, h2⟩ := getD_arcs l _ (Nat.le_refl _) k hk
    by_cases hji : j = i
    · subst hji
      rcases h2 with h2 | h2
      · rw [h2]; exact hc.1
      · rw [h2]; exact hc.2
    · have hm : l.getD j rd0 ∈ l.eraseIdx i := by
        rw [List.mem_eraseIdx_iff_getElem]
        exact ⟨j, hj, hji, by rw [List.getD_eq_getElem?_getD, List.getElem?_eq_getElem hj]; rfl⟩
      obtain ⟨j2, hj2, e⟩ := rd_idx hm
      obtain ⟨m, n, h3, h4, h5, h6⟩ := arcs_get (l.eraseIdx i) _ (Nat.le_refl _) j2 hj2
      have hAk := hA k hk
      rw [e] at h5 h6
      rcases h2 with h2 | h2
      · have hw := Wk.arc h3
        rw [h5] at hw
        rw [h2] at hAk ⊢
        dsimp only at hAk hw ⊢
        exact hS.opt [] _ _ _ (by omega) (by omega) List.nodup_nil (fun v hv => by simp at hv) hw
      · have hw := Wk.arc h4
        rw [h6] at hw
        rw [h2] at hAk ⊢
        dsimp only at hAk hw ⊢
        exact hS.opt [] _ _ _ (by omega) (by omega) List.nodup_nil (fun v hv => by simp at hv) hw
/-- k readings, from the last one on, are looked at -/
def nd (c : List Rd → Rd → Bool) (l : List Rd) : Nat → List Rd × List Nat
  | 0 => (l, [])
  | k + 1 => if c ((nd c l k).1.eraseIdx (l.length - (k + 1))) (l.getD (l.length - (k + 1)) rd0) = true then ((nd c l k).1.eraseIdx (l.length - (k + 1)), (l.length - (k + 1)) :: (nd c l k).2) else nd c l k
theorem nd_inv (c : List Rd → Rd → Bool) (l : List Rd) : ∀ k, k ≤ l.length → ∃ R, (nd c l k).1 = l.take (l.length - k) ++ R ∧ (∀ x ∈ R, x ∈ l) ∧ R.length ≤ k
  | 0, _ => ⟨[], by simp [nd], fun x hx => by simp at hx, by simp⟩
  | k + 1, hk => by
    obtain ⟨R, h1, h2, h3⟩ := nd_inv c l k (by omega)
    have hn : l.length - k = l.length - (k + 1) + 1 := by omega
    have ht : l.take (l.length - k) = l.take (l.length - (k + 1)) ++ [l.getD (l.length - (k + 1)) rd0] := by
      rw [hn, List.take_succ_eq_append_getElem (by omega)]
      rw [List.getD_eq_getElem?_getD, List.getElem?_eq_getElem (by omega)]
      rfl
    unfold nd
    split
    · refine ⟨R, ?_, h2, by omega⟩
      rw [h1, ht, List.append_assoc, List.eraseIdx_append_of_length_le (by simp), List.length_take, show l.length - (k + 1) - min (l.length - (k + 1)) l.length = 0 by omega]
      rfl
    · refine ⟨l.getD (l.length - (k + 1)) rd0 :: R, ?_, fun x hx => ?_, by simp; omega⟩
      · rw [h1, ht, List.append_assoc]; rfl
      · rcases List.mem_cons.1 hx with rfl | hx
        · exact rd_mem (by omega)
        · exact h2 x hx
theorem nd_len (c : List Rd → Rd → Bool) (l : List Rd) {k : Nat} (hk : k ≤ l.length) : l.length - k ≤ (nd c l k).1.length ∧ (nd c l k).1.length ≤ l.length := by
  obtain ⟨R, h1, _, h3⟩ := nd_inv c l k hk
  rw [h1]
  simp
  omega
theorem nd_at (c : List Rd → Rd → Bool) (l : List Rd) {k i : Nat} (hk : k ≤ l.length) (hi : i < l.length - k) : (nd c l k).1.getD i rd0 = l.getD i rd0 := by
  obtain ⟨R, h1, _, _⟩ := nd_inv c l k hk
  rw [h1, List.getD_eq_getElem?_getD, List.getElem?_append_left (by simp; omega), List.getElem?_take, if_pos hi, List.getD_eq_getElem?_getD]
theorem nd_mem (c : List Rd → Rd → Bool) (l : List Rd) {k : Nat} (hk : k ≤ l.length) : ∀ r ∈ (nd c l k).1, r ∈ l := by
  obtain ⟨R, h1, h2, _⟩ := nd_inv c l k hk
  rw [h1]
  intro r hr
  rcases List.mem_append.1 hr with h | h
  · exact List.mem_of_mem_take h
  · exact h2 r h
theorem nd_nc {z : Nat} {l : List Rd} (h : NC z l) (c : List Rd → Rd → Bool) {k : Nat} (hk : k ≤ l.length) : NC z (nd c l k).1 := h.sub (nd_mem c l hk) (nd_len c l hk).2
/-- without them the table is the same -/
theorem nd_tb {z : Nat} {l : List Rd} (h : NC z l) : ∀ k, k ≤ l.length → tb z (nd (imp z) l k).1 = tb z l
  | 0, _ => rfl
  | k + 1, hk => by
    have ih := nd_tb h k (by omega)
    have hl := nd_len (imp z) l (k := k) (by omega)
    have ha := nd_at (imp z) l (k := k) (i := l.length - (k + 1)) (by omega) (by omega)
    unfold nd
    split
    · rename_i hc
      rw [← ih]
      refine tb_erase (nd_nc h (imp z) (k := k) (by omega)) (by omega) ?_
      rw [ha]
      exact hc
    · exact ih
/-- what is kept -/
def kpR (l : List Rd) (out : List Nat) : Nat → List Rd
  | 0 => []
  | k + 1 => if l.length - (k + 1) ∈ out then kpR l out k else l.getD (l.length - (k + 1)) rd0 :: kpR l out k
def kpL (l : List Rd) (out : List Nat) : Nat → List Rd
  | 0 => []
  | k + 1 => if k ∈ out then kpL l out k else kpL l out k ++ [l.getD k rd0]
theorem kp_mix (l : List Rd) (out : List Nat) : ∀ k, k ≤ l.length → kpL l out (l.length - k) ++ kpR l out k = kpL l out l.length
  | 0, _ => by simp [kpR]
  | k + 1, hk => by
    have ih := kp_mix l out k (by omega)
    have eL : kpL l out (l.length - (k + 1) + 1) = if l.length - (k + 1) ∈ out then kpL l out (l.length - (k + 1)) else kpL l out (l.length - (k + 1)) ++ [l.getD (l.length - (k + 1)) rd0] := rfl
    have eR : kpR l out (k + 1) = if l.length - (k + 1) ∈ out then kpR l out k else l.getD (l.length - (k + 1)) rd0 :: kpR l out k := rfl
    rw [← ih, show l.length - k = l.length - (k + 1) + 1 by omega, eL, eR]
    by_cases h : l.length - (k + 1) ∈ out
    · rw [if_pos h, if_pos h]
    · rw [if_neg h, if_neg h, List.append_assoc]; rfl
theorem nd_out (c : List Rd → Rd → Bool) (l : List Rd) : ∀ k, k ≤ l.length → ∀ i ∈ (nd c l k).2, l.length - k ≤ i ∧ i < l.length
  | 0, _ => fun i hi => by simp [nd] at hi
  | k + 1, hk => by
    have ih := nd_out c l k (by omega)
    unfold nd
    split
    · intro i hi
      rcases List.mem_cons.1 hi with rfl | hi
      · omega
      · have := ih i hi; omega
    · intro i hi
      have := ih i hi; omega
theorem nd_grow (c : List Rd → Rd → Bool) (l : List Rd) {k : Nat} : ∀ m, k ≤ m → m ≤ l.length → ∀ i, l.length - k ≤ i → (i ∈ (nd c l m).2 ↔ i ∈ (nd c l k).2)
  | 0, hk, _ => fun i _ => by obtain rfl : k = 0 := by omega
                              exact Iff.rfl
  | m + 1, hk, hm => by
    intro i hi
    by_cases h : k = m + 1
    · subst h; exact Iff.rfl
    · have ih := nd_grow c l m (by omega) (by omega) i hi
      rw [← ih]
      have hu : (nd c l (m + 1)).2 = if c ((nd c l m).1.eraseIdx (l.length - (m + 1))) (l.getD (l.length - (m + 1)) rd0) = true then (l.length - (m + 1)) :: (nd c l m).2 else (nd c l m).2 := by
        rw [nd]; split <;> rfl
      rw [hu]
      split
      · rw [List.mem_cons]
        constructor
        · rintro (h2 | h2)
          · omega
          · exact h2
        · exact .inr
      · exact Iff.rfl
theorem nd_kept (c : List Rd → Rd → Bool) (l : List Rd) : ∀ k, k ≤ l.length → (nd c l k).1 = l.take (l.length - k) ++ kpR l (nd c l l.length).2 k
  | 0, _ => by simp [nd, kpR]
  | k + 1, hk => by
    have ih := nd_kept c l k (by omega)
    have hn : l.length - k = l.length - (k + 1) + 1 := by omega
    have ht : l.take (l.length - k) = l.take (l.length - (k + 1)) ++ [l.getD (l.length - (k + 1)) rd0] := by
      rw [hn, List.take_succ_eq_append_getElem (by omega)]
      rw [List.getD_eq_getElem?_getD, List.getElem?_eq_getElem (by omega)]
      rfl
    have hg := nd_grow c l (k := k + 1) l.length hk (Nat.le_refl _) (l.length - (k + 1)) (Nat.le_refl _)
    have hnot : l.length - (k + 1) ∉ (nd c l k).2 := fun h => by have := (nd_out c l k (by omega) _ h).1; omega
    have e : kpR l (nd c l l.length).2 (k + 1) = if l.length - (k + 1) ∈ (nd c l l.length).2 then kpR l (nd c l l.length).2 k else l.getD (l.length - (k + 1)) rd0 :: kpR l (nd c l l.length).2 k := rfl
    rw [e]
    by_cases hc : c ((nd c l k).1.eraseIdx (l.length - (k + 1))) (l.getD (l.length - (k + 1)) rd0) = true
    · have e2 : nd c l (k + 1) = ((nd c l k).1.eraseIdx (l.length - (k + 1)), (l.length - (k + 1)) :: (nd c l k).2) := by rw [nd, if_pos hc]
      rw [if_pos (hg.2 (by rw [e2]; simp)), e2]
      dsimp only
      rw [ih, ht, List.append_assoc, List.eraseIdx_append_of_length_le (by simp), List.length_take, show l.length - (k + 1) - min (l.length - (k + 1)) l.length = 0 by omega]
      rfl
    · have e2 : nd c l (k + 1) = nd c l k := by rw [nd, if_neg hc]
      rw [if_neg (fun h => hnot (by rw [e2] at hg; exact hg.1 h)), e2, ih, ht, List.append_assoc]
      rfl
theorem nd_left (c : List Rd → Rd → Bool) (l : List Rd) : (nd c l l.length).1 = kpL l (nd c l l.length).2 l.length := by
  rw [nd_kept c l l.length (Nat.le_refl _), Nat.sub_self]
  have := kp_mix l (nd c l l.length).2 l.length (Nat.le_refl _)
  rw [Nat.sub_self] at this
  exact this
end Go.Abs
namespace Go.Abs
open Go.Proofs
def imp2 (z : Nat) (s : List Rd) (r : Rd) : Bool := decide (mget (toR (tb z s)) r.a.toNat r.b.toNat ≤ r.hi) && decide (mget (toR (tb z s)) r.b.toNat r.a.toNat ≤ -r.lo)
theorem rv_le {x y : Int} (hx : x = far ∨ (-41000000 ≤ x ∧ x ≤ 41000000)) (hy : y ≤ 1000000) : decide (rv x ≤ y) = decide (x ≤ y) := by
  have hfar : far = 1099511627776 := rfl
  have hFAR : FAR = 1000000000000 := rfl
  unfold rv
  split
  · rfl
  · rw [decide_eq_false (by omega), decide_eq_false (by omega)]
theorem imp_eq {z : Nat} {s : List Rd} {r : Rd} (h : NC z s) (hr : gRd z r) : imp2 z s r = imp z s r := by
  obtain ⟨hz, hl, hrd⟩ := checkR_ok h.1
  obtain ⟨hA, hN, hok⟩ := arcs_ok hrd
  have hS := h.stt
  unfold gRd at hr
  have b1 := hS.bd hA (Nat.le_refl _) (by omega) (i := r.a.toNat) (j := r.b.toNat) (by omega) (by omega)
  have b2 := hS.bd hA (Nat.le_refl _) (by omega) (i := r.b.toNat) (j := r.a.toNat) (by omega) (by omega)
  unfold imp imp2
  rw [toR_get hS.sq (by omega) (by omega), toR_get hS.sq (by omega) (by omega), rv_le b1 (by omega), rv_le b2 (by omega)]
end Go.Abs
