import Derived.Test.YtpfmamngjefohaaK352
import Derived.Test.YtpfmamngjefohaaK358x
set_option linter.all false
set_option linter.unusedVariables false
set_option linter.unusedSimpArgs false
set_option linter.unusedSectionVars false
namespace Go.Abs
open Go.Proofs
/-! GrindCompares: all cases -/
theorem cpE_zero {l : List Sk} {lo hi mi : List Int} {den : Int} (h : cpE l lo hi mi den = 0) : ppE l lo hi mi den = 0 ∧ (∀ z, z < (l.getD 0 sk0).wr.length → badZ (pwL l mi) lo hi den z = false) ∧ cpN l lo hi mi den = tot mi mi.length := by
  unfold cpE at h
  by_cases g : ppE l lo hi mi den = 0
  · rw [if_neg (fun h => h g)] at h
    by_cases g2 : fzP (l.getD 0 sk0).wr.length (pwL l mi) lo hi den = -1
    · refine ⟨g, ?_, by unfold cpN; rw [if_neg (fun h => h g), if_pos g2]⟩
      rcases fstP_cases (badZ (pwL l mi) lo hi den) (l.getD 0 sk0).wr.length with ⟨_, h1⟩ | ⟨k, _, h2, _⟩
      · exact h1
      · unfold fzP at g2
        rw [h2] at g2
        omega
    · rw [if_neg g2] at h; simp at h
  · rw [if_pos g] at h; exact (g h).elim
theorem pfE_zero {l : List Sk} {dlo dhi lo hi : List Int} {den : Int} (h : pfE l dlo dhi lo hi den = 0) : wpE l dlo dhi lo hi den = 0 ∧ pfB l lo hi den = true ∧ pfN l dlo dhi lo hi den = bnd dlo dhi lo hi (l.getD 0 sk0).wr.length := by
  unfold pfE at h
  by_cases g : wpE l dlo dhi lo hi den = 0
  · rw [if_neg (fun h => h g)] at h
    by_cases g2 : pfB l lo hi den = true
    · exact ⟨g, g2, by unfold pfN; rw [if_neg (fun h => h g), if_pos g2]; rfl⟩
    · rw [if_neg g2] at h; simp at h
  · rw [if_pos g] at h; exact (g h).elim
theorem co_ok {l : List Sk} {dlo dhi mi lo hi : List Int} {p w : Int} (h1 : cpE l dlo dhi mi p = 0) (h2 : pfE l dlo dhi lo hi w = 0) : (0 ≤ cpN l dlo dhi mi p ∧ cpN l dlo dhi mi p ≤ 100000000000) ∧ (1 ≤ p ∧ p ≤ 10000000) ∧ (1 ≤ w ∧ w ≤ 10000000) ∧ pfN l dlo dhi lo hi w * p ≤ cpN l dlo dhi mi p * w ∧ (-1000000000000000 ≤ pfN l dlo dhi lo hi w ∧ pfN l dlo dhi lo hi w ≤ 1000000000000000) := by
  obtain ⟨a1, a2, a3⟩ := cpE_zero h1
  obtain ⟨b1, b2, b3⟩ := pfE_zero h2
  obtain ⟨z1, z2, z3⟩ := ppE_zero a1
  obtain ⟨_, _, z4⟩ := wpE_zero b1
  have hS := sE_ok z1
  have hD := dmE_ok z2
  have hP := plE_ok z3
  have hW := wgE_ok z4
  have hw := weak rfl hP hW a2 (fun i hi => (of_decide_eq_true b2) i hi)
  rw [a3, b3]
  have t := tot_bd hP.mn mi.length (Nat.le_refl _)
  have hl := hP.len
  have hf := hS.few
  have hz := hS.zon
  have bb := bnd_bd hD hW (l.getD 0 sk0).wr.length (Nat.le_refl _)
  refine ⟨⟨by omega, by omega⟩, hP.den, hW.den, hw, by omega, by omega⟩
theorem coN_pos {E1 E2 T B w p : Int} (h : E1 = 0 → E2 = 0 → B * p ≤ T * w) : 0 ≤ coN E1 E2 T B w p := by
  unfold coN
  by_cases z1 : E1 = 0
  · rw [if_neg (fun h => h z1)]
    by_cases z2 : E2 = 0
    · rw [if_neg (fun h => h z2)]
      have := h z1 z2
      unfold cmpI
      rw [if_neg (by omega)]
      split <;> omega
    · rw [if_pos z2]; omega
  · rw [if_pos z1]; omega
theorem ppE_dE (l : List Sk) (lo hi mi : List Int) (den : Int) : ppE l lo hi mi den = if dE l lo hi ≠ 0 then dE l lo hi else plE l mi den := by
  unfold ppE dE
  by_cases g : sE l = 0
  · have g' : ¬(sE l ≠ 0) := fun h => h g
    rw [if_neg g', if_neg g']
  · rw [if_pos g, if_pos g, if_pos g]
theorem k4 (nil : Bool) (l : List Sk) (d1 : Bool) (dlo : List Int) (d2 : Bool) (dhi : List Int) (n0 : Bool) (mi : List Int) (p : Int) (n1 : Bool) (lo : List Int) (n2 : Bool) (hi : List Int) (w : Int) (hl : l.length ≤ 9223372036854775807) : Fn Try.prog 4 [sts nil l, dmV d1 dlo d2 dhi, anV (ints n0 mi) p n1 lo n2 hi w] (bl true) [] := by
  by_cases hE : lgB l = false ∨ (decide ((dlo.length : Int) ≤ 43) && decide ((dhi.length : Int) ≤ 43)) = false ∨ brB mi.length lo.length hi.length = false
  · exact k4early nil l d1 dlo d2 dhi n0 mi p n1 lo n2 hi w hl hE
  simp only [not_or, Bool.not_eq_false] at hE
  obtain ⟨h1, h2, h3⟩ := hE
  have h18 := k18 nil l hl
  have h19 := k19 d1 d2 dlo dhi
  have h20 := k20 n0 mi p n1 n2 lo hi w
  rw [h1] at h18
  rw [h2] at h19
  rw [h3] at h20
  unfold brB at h3
  simp only [Bool.and_eq_true, decide_eq_true_eq] at h2 h3
  obtain ⟨b1, b2⟩ := lgB_bd h1
  have hsz : ∀ k, k < l.length → (l.getD k sk0).nm.size < 1000000 ∧ (l.getD k sk0).wr.length < 1000000 := fun k hk => by have := b2 k hk; omega
  have h22 := k22 (nil := nil) (l := l) (by omega) (fun t ht => (hsz t ht).2)
  have h23 := gv_dm d1 d2 dlo dhi (by omega) (by omega)
  have h24 := k24 n0 mi p (by omega)
  have h25 := k25 n1 n2 lo hi w (by omega) (by omega)
  obtain ⟨b, m, E, hcp, hV⟩ := cp_stv (l := l) (by omega) hsz
  have h36 := k36a (lo := dlo) (hi := dhi) (mi := mi) (den := p) hcp hV (by omega) (by omega) (by omega) (by omega)
  have h48 := k48a (dlo := dlo) (dhi := dhi) (lo := lo) (hi := hi) (den := w) hcp hV (by omega) (by omega)
  have hEp : plainR E = true := hV.p
  rw [hcp] at h36 h48
  have h21 := k21 (n0 := false) (n1 := false) (n2 := false) (d1 := false) (d2 := false) hEp h36 (fun _ => h48) (fun e1 e2 => by
    obtain ⟨q1, q2, q3, q4, _⟩ := co_ok e1 e2
    exact ⟨q1, q2, q3, q4⟩)
  rw [← hcp] at h21
  have h26 := k26 nil d1 d2 l dlo dhi (by omega) hsz (by omega) (by omega)
  have h42 : dE l dlo dhi = 0 → Fn Try.prog 42 [sts nil l, dmV d1 dlo d2 dhi, plV n0 mi p] (.tup [i64 (cpN l dlo dhi mi p), i64 (cpE l dlo dhi mi p)]) [] := fun h => by
    have h9 := k42 (nil := nil) (n1 := d1) (n2 := d2) (np := n0) (lo := dlo) (hi := dhi) (mi := mi) (den := p) (sE_ok (dE_zero h).1) (dmE_ok (dE_zero h).2) (by omega)
    have e : ppE l dlo dhi mi p = plE l mi p := by rw [ppE_dE, if_neg (fun h' => h' h)]
    unfold cpN cpE
    rw [e]
    exact h9
  have h27 : dE l dlo dhi = 0 → Fn Try.prog 27 [sts nil l, dmV d1 dlo d2 dhi, anV (ints n0 mi) p n1 lo n2 hi w] (.tup [i64 (coN (cpE l dlo dhi mi p) (pfE l dlo dhi lo hi w) (cpN l dlo dhi mi p) (pfN l dlo dhi lo hi w) w p), i64 (coE (cpE l dlo dhi mi p) (pfE l dlo dhi lo hi w))]) [] := fun h =>
    k27 (plainR_sk l) (h42 h) (fun _ => k50a nil d1 d2 n1 n2 h) (fun e1 e2 => by
      obtain ⟨q1, q2, q3, _, q5⟩ := co_ok e1 e2
      exact ⟨q1, q2, q3, q5⟩)
  refine k4ok h18 h19 h20 h22 h23 h24 h25 h21 h26 h27 (fun h => ?_) (coN_pos fun e1 e2 => (co_ok e1 e2).2.2.2.1)
  have e : ppE l dlo dhi mi p = dE l dlo dhi := by rw [ppE_dE, if_pos h]
  have e1 : cpE l dlo dhi mi p = dE l dlo dhi := by unfold cpE; rw [e, if_pos h]
  unfold coN coE
  rw [e1, if_pos h, if_pos h]
  exact ⟨rfl, rfl⟩
end Go.Abs
