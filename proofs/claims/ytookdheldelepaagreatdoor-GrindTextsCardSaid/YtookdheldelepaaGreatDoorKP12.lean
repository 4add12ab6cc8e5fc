import Derived.Test.YtookdheldelepaaGreatDoorKP11
set_option linter.all false
set_option linter.unusedVariables false
set_option linter.unusedSimpArgs false
set_option linter.unusedSectionVars false
namespace Go.Abs
open Go.Proofs
theorem psL_len (s : ByteArray) : (pieces s ⟨#[10]⟩).length = (psL s).length := by unfold psL; rw [← pieces_cut, List.length_map]
theorem pc_get {s w : ByteArray} {k : Nat} (h : (pieces s ⟨#[10]⟩)[k]? = some w) : bA (pcL s k) = w := by
  refine ba_ext ?_
  rw [bA_data]
  unfold pcL psL
  rw [← pieces_cut, List.getD_eq_getElem?_getD, List.getElem?_map, h]; rfl
def I15 (s : ByteArray) (k : Nat) (H : List Blk) : Prop := ∃ M io, k + 1 ≤ (pieces s ⟨#[10]⟩).length ∧ lnsOf ((pieces s ⟨#[10]⟩).take k) = some M ∧ J15 M io H ∧ H[4]? = some (.cells true false 1 [[strV (restB s k)]])
def X15 (s : ByteArray) (e : Exit) (H : List Blk) : Prop := e = .ret ∧ ∃ n : Int, H[0]? = some (.cells true false 1 [[.sl true 0 []]]) ∧ H[1]? = some (.cells true false 1 [[i64 n]]) ∧ H[2]? = some (.cells true false 1 [[i64 7]]) ∧ ∀ ws, PR (pieces s ⟨#[10]⟩) ws → ws = [.sl true 0 [], i64 n, i64 7]
theorem J15.set4 {M : List Ln} {io : Nat} {H : List Blk} {a b : ByteArray} (h : J15 M io H) (h4 : H[4]? = some (.cells true false 1 [[strV a]])) : J15 M io (H.set 4 (.cells true false 1 [[strV b]])) := by
  refine ⟨?_, ?_, ?_, ?_, ?_, fun hm => ?_⟩
  · rw [List.getElem?_set_ne (by decide)]; exact h.r0
  · rw [List.getElem?_set_ne (by decide)]; exact h.r1
  · rw [List.getElem?_set_ne (by decide)]; exact h.r2
  · rw [List.getElem?_set_ne (by decide)]; exact h.ou
  · rw [List.getElem?_set_ne (by decide)]; exact h.lp
  · obtain ⟨E, hE, hS, hB⟩ := h.st hm
    have hio : io ≠ 4 := fun e => by rw [e, h4] at hE; simp at hE
    exact ⟨E, by rw [List.getElem?_set_ne (Ne.symm hio)]; exact hE, hS.set6 hB (by decide), hB⟩
/-- a round -/
theorem k15round {s : ByteArray} (hs : s.size ≤ 1000) {sl : List (Nat × AV)} (h2 : look sl 2 = .loc 0 0 0) (h3 : look sl 3 = .loc 1 0 0) (h4 : look sl 4 = .loc 2 0 0) (h5 : look sl 5 = .loc 3 0 0) {k : Nat} {H0 H : List Blk} {args : List AV}
    (hk : k < nln s) (hI : I15 s k H0) (hU : UL 4 s k H0 H) (hlp : H[5]? = some (.obj .lpx)) (hE : EL s k H args) :
    args.length = [18].length ∧ ∃ s1, asgRun (.reg 0 [⟨some 6, .mv (.tmp 18), none, 0⟩]) (([18].zip args).reverse ++ sl) = some s1 ∧ ∀ l, T (some l) Tryz.prog muts 51 H.length c15r0 ⟨s1, H⟩ (roundK 5 (I15 s (k + 1)) (X15 s)) := by
  unfold EL at hE
  subst hE
  refine ⟨rfl, (6, strV (lnB s k)) :: (18, strV (lnB s k)) :: sl, rfl, fun lp => ?_⟩
  obtain ⟨M, io, hkP, hM, hJ, hc⟩ := hI
  obtain ⟨_, rfl⟩ := hU
  have hJ' := hJ.set4 (b := restB s (k + 1)) hc
  have hlt4 : 4 < H0.length := (List.getElem?_eq_some_iff.1 hc).1
  have hc4 : (H0.set 4 (.cells true false 1 [[strV (restB s (k + 1))]]))[4]? = some (.cells true false 1 [[strV (restB s (k + 1))]]) := List.getElem?_set_self hlt4
  generalize H0.set 4 (.cells true false 1 [[strV (restB s (k + 1))]]) = H at *
  clear hJ hc hlt4
  obtain ⟨w, hw⟩ : ∃ w, (pieces s ⟨#[10]⟩)[k]? = some w := ⟨_, List.getElem?_eq_getElem (by omega)⟩
  have hpw := pc_get hw
  have hwz : w.size ≤ 1000 := by have := pieces_le (List.mem_of_getElem? hw); omega
  have hMl : M.length = k := by rw [lnsOf_len hM, List.length_take]; omega
  have hPl := pieces_len s 10
  have hlnz : (lnB s k).size ≤ 2000 := by
    unfold lnB
    split
    · rw [bA_size, List.length_append]
      have : (pcL s k).length = w.size := by rw [← ba_len, ← hpw]; rfl
      simp; omega
    · rw [hpw]; omega
  have h48 := k48 (s := w) (by omega)
  have h47 := k47 (lnB s k) ⟨#[10]⟩ (by omega)
  rw [show (ByteArray.mk #[(10 : UInt8)]).data.toList = [10] from rfl] at h47
  refine T_only [2, 3, 4, 5, 6] (S := ⟨SL15 (lnB s k), H⟩) ?_ ?_
  · simp [St.only, get_mk, look, h2, h3, h4, h5]
  have hfail : ∀ en : Bool, Fn Tryz.prog 47 [strV (lnB s k), strV ⟨#[10]⟩] (.tup [strV w, bl en]) [] → (en = false ∨ rdS (pieces w ⟨#[32]⟩) = none) →
      (∀ ws, PR (pieces s ⟨#[10]⟩) ws → ws = [.sl true 0 [], i64 ((k : Int) + 1), i64 7]) → T (some lp) Tryz.prog muts 51 H.length c15r0 ⟨SL15 (lnB s k), H⟩ (roundK 5 (I15 s (k + 1)) (X15 s)) := fun en h47 hor hws => by
    have fin : ∀ e st, (e = Exit.ret ∧ St.heap st = St.heap st ∧ (St.heap st)[0]? = some (.cells true false 1 [[.sl true 0 []]]) ∧ (St.heap st)[1]? = some (.cells true false 1 [[i64 ((M.length : Int) + 1)]]) ∧ (St.heap st)[2]? = some (.cells true false 1 [[i64 7]]) ∧ (St.heap st)[5]? = some (.obj .lpx)) → roundK 5 (I15 s (k + 1)) (X15 s) e st := by
      rintro e st ⟨rfl, _, f0, f1, f2, f5⟩
      rw [hMl] at f1
      exact ⟨f5, rfl, _, f0, f1, f2, hws⟩
    cases hx : rdS (pieces w ⟨#[32]⟩) with
    | none =>
      rw [hx] at h48
      cases en with
      | true =>
        by_cases hm : M = []
        · exact T_mono (k15n0a (n := w) (l := []) (by omega) hJ' hm h47 h48) fun e st h => fin e st ⟨h.1, rfl, h.2⟩
        · exact T_mono (k15n1a (n := w) (l := []) (by omega) hJ' hm h47 h48) fun e st h => fin e st ⟨h.1, rfl, h.2⟩
      | false =>
        by_cases hm : M = []
        · exact T_mono (k15n0b (n := w) (l := []) (by omega) hJ' hm h47 h48) fun e st h => fin e st ⟨h.1, rfl, h.2⟩
        · exact T_mono (k15n1b (n := w) (l := []) (by omega) hJ' hm h47 h48) fun e st h => fin e st ⟨h.1, rfl, h.2⟩
    | some x =>
      obtain ⟨n, l⟩ := x
      rw [hx] at h48
      have he : en = false := hor.resolve_right (by rw [hx]; simp)
      subst he
      by_cases h0 : l = []
      · by_cases hm : M = []
        · exact T_mono (k15n0c (by omega) hJ' hm h0 h47 h48) fun e st h => fin e st ⟨h.1, rfl, h.2⟩
        · exact T_mono (k15n1c (by omega) hJ' hm h0 h47 h48) fun e st h => fin e st ⟨h.1, rfl, h.2⟩
      · by_cases hm : M = []
        · exact T_mono (k15n0d (by omega) hJ' hm h0 h47 h48) fun e st h => fin e st ⟨h.1, rfl, h.2⟩
        · exact T_mono (k15n1d (by omega) hJ' hm h0 h47 h48) fun e st h => fin e st ⟨h.1, rfl, h.2⟩
  by_cases h1 : k + 1 < (psL s).length
  · obtain ⟨e1, e2⟩ := suf_hit h1
    rw [e1, e2, show (⟨(pcL s k).toArray⟩ : ByteArray) = bA (pcL s k) from rfl, hpw] at h47
    rw [← psL_len] at h1
    cases hx : rdS (pieces w ⟨#[32]⟩) with
    | none => exact hfail true h47 (.inr hx) fun ws hr => hr.e_bad h1 hM hw hx
    | some x =>
      obtain ⟨n, l⟩ := x
      rw [hx] at h48
      have fin : ∀ e st, (e = Exit.normal ∧ ∃ io', J15 (M ++ [(n, l)]) io' (St.heap st) ∧ (St.heap st)[4]? = some (.cells true false 1 [[strV (restB s (k + 1))]])) → roundK 5 (I15 s (k + 1)) (X15 s) e st := by
        rintro e st ⟨rfl, io', g1, g2⟩
        exact ⟨g1.lp, M ++ [(n, l)], io', by omega, lnsOf_snoc hw hM hx, g1, g2⟩
      have hc : ∀ (z : Bool) (E : List (List AV)), (Blk.cells true false 1 [[strV (restB s (k + 1))]]) ≠ .cells true z 2 E := fun z E => by simp
      by_cases h0 : l = []
      · by_cases hm : M = []
        · exact T_mono (k15y0e (by omega) hMl hJ' hc4 hc hm h0 h47 h48) fin
        · exact T_mono (k15y1e (by omega) hMl hJ' hc4 hc hm h0 h47 h48) fin
      · by_cases hm : M = []
        · exact T_mono (k15y0v (by omega) hMl hJ' hc4 hc hm h0 h47 h48) fin
        · exact T_mono (k15y1v (by omega) hMl hJ' hc4 hc hm h0 h47 h48) fin
  · obtain ⟨e1, e2⟩ := suf_miss h1
    rw [e1, e2, show (⟨(pcL s k).toArray⟩ : ByteArray) = bA (pcL s k) from rfl, hpw] at h47
    rw [← psL_len] at h1
    have hke : k = (pieces s ⟨#[10]⟩).length - 1 := by omega
    have hz : w.size ≠ 0 := fun hz => by
      have hn : pcL s k = [] := by
        have : (bA (pcL s k)).size = 0 := by rw [hpw]; exact hz
        rw [bA_size] at this
        exact List.eq_nil_of_length_eq_zero this
      unfold nln at hk
      rw [← psL_len, ← hke, if_pos hn] at hk
      omega
    refine hfail false h47 (.inl rfl) fun ws hr => ?_
    have := hr.e_cut (M := M) (w := w) (by rw [← hke]; exact hM) (by rw [← hke]; exact hw) hz
    rw [this]
    have e : ((k : Int) + 1) = ((pieces s ⟨#[10]⟩).length : Nat) := by omega
    rw [e]
end Go.Abs
