import Derived.Test.YtpfmamngjefohaaK319
set_option linter.all false
set_option linter.unusedVariables false
set_option linter.unusedSimpArgs false
set_option linter.unusedSectionVars false
namespace Go.Abs
open Go.ChangeShapes Go.WideShapes Go.RowKit Go.Proofs
/-! texts, demands, plans, weights, answers opened -/
section
variable {H : Type} {enc : TypeId × Value → H} {w : World} {base : Nat}
theorem cells35' : Try.prog.cellsOf 35 = 2 := by kernel_rfl
abbrev IC (w : World) (u : Value) : Prop := ∃ (nil : Bool) (xs : List Int), Conc (lone w) (ints nil xs) u
set_option maxRecDepth 100000 in
theorem dm_cells {fuel : Nat} {cs : List Value} {y : DataW H × List MemPlace} (h : DataW.trod enc Try.prog w 0 (fun _ => true) true fuel 35 cs = some y) : ∃ u0 u1, cs = [u0, u1] ∧ IC w u0 ∧ IC w u1 := by
  obtain ⟨y0, y1, n, _, hl, h0, h1⟩ := trod_struct2 Try.underlying35 h
  rw [cells35'] at hl
  match cs, hl with
  | [c0, c1], _ =>
  rw [cells27'] at h0 h1
  exact ⟨c0, c1, rfl, ints_of_trod Try.underlying27 Try.underlying3 cells3' (c := c0) (by simpa using h0), ints_of_trod Try.underlying27 Try.underlying3 cells3' (c := c1) (by simpa using h1)⟩
set_option maxRecDepth 100000 in
theorem agg_of {t : TypeId} {fs : Array Field} {v : Value} (ht : Try.prog.underlying t = some (.struct fs)) (hval : Value.okWide Try.prog w .any base t v) : ∃ cs, v = .agg cs := by
  unfold Value.okWide at hval
  rw [ht] at hval
  obtain ⟨cs, h1, _⟩ := hval
  exact ⟨cs, h1⟩
end
end Go.Abs
namespace Go.Abs
open Go.ChangeShapes Go.WideShapes Go.RowKit Go.Proofs
/-! a day opened -/
section
variable {H : Type} {enc : TypeId × Value → H} {w : World} {base : Nat}
theorem cells55' : Try.prog.cellsOf 55 = 1 := by kernel_rfl
theorem cells97' : Try.prog.cellsOf 97 = 6 := by kernel_rfl
set_option maxRecDepth 100000 in
theorem sss_of_trod {c : Value} {fuel : Nat} {y : DataW H × List MemPlace} (h : DataW.trod enc Try.prog w 0 (fun _ => true) true fuel 55 [c] = some y) : ∃ (nil : Bool) (l : List Ss), Conc (lone w) (sss nil l) c ∧ l.length ≤ 9223372036854775807 := by
  rcases DataW.trod_slice Try.underlying55 h with ⟨h1, _⟩ | ⟨a', len, cap, elems, rest, n, _, h1, _, _, hlc, hcm, hlen, hel, hsp, _⟩
  · obtain rfl := List.head_eq_of_cons_eq h1
    exact ⟨true, [], by simp [Conc, ssR], by simp⟩
  · obtain rfl := List.head_eq_of_cons_eq h1
    obtain ⟨hr1, hr2⟩ := hsp rfl
    have each : ∀ i, i < cap → ∃ r : Ss, ∀ j, j < 3 → w.cell? ((a'.add (i * 3)).add j) = [Value.string r.mi, .string r.st, .int .i64 r.mn][j]? := by
      intro i hi
      have h2 : ∃ e : DataW H × List MemPlace, (w.cells? 0 (a'.add (i * 3)) 3).bind (DataW.trod enc Try.prog w 0 (fun _ => true) true n 95) = some e := by
        by_cases hil : i < len
        · have h2 := hel i hil
          rw [cells95', List.getElem?_eq_getElem (by omega)] at h2
          exact ⟨_, h2⟩
        · have h2 := hr2 (i - len) (by omega)
          rw [cells95', List.getElem?_eq_getElem (by omega), show len + (i - len) = i by omega] at h2
          exact ⟨_, h2⟩
      obtain ⟨e, h2⟩ := h2
      cases hc : w.cells? 0 (a'.add (i * 3)) 3 with
      | none => rw [hc] at h2; simp at h2
      | some cs =>
        rw [hc] at h2
        obtain ⟨r, rfl⟩ := ss_cells (y := e) h2
        refine ⟨r, fun j hj => ?_⟩
        exact (World.cells?_some hc).2.2 j hj
    by_cases hc : cap = 0
    · subst hc
      obtain rfl : len = 0 := by omega
      exact ⟨false, [], by simp only [Conc]; exact .inr (.inr ⟨trivial, rfl, a', rfl⟩), by simp⟩
    · obtain ⟨r0, h5⟩ := each 0 (by omega)
      have h6 := h5 0 (by omega)
      rw [Nat.zero_mul, add_zero, add_zero] at h6
      obtain ⟨hs1, hcells⟩ := cell_some h6
      obtain ⟨b, off, sp⟩ := a'
      dsimp only at hs1 hcells
      subst hs1
      have hlist : ∀ n, n ≤ len → ∃ l : List Ss, l.length = n ∧ ∀ i, i < n → ∀ j, j < 3 → w.cell? ⟨b, off + 3 * i + j, none⟩ = [Value.string (l.getD i ss0).mi, .string (l.getD i ss0).st, .int .i64 (l.getD i ss0).mn][j]? := by
        intro n
        induction n with
        | zero => intro _; exact ⟨[], rfl, fun i hi => by omega⟩
        | succ n ih =>
          intro hn
          obtain ⟨l, h4, h5⟩ := ih (by omega)
          obtain ⟨r, h6⟩ := each n (by omega)
          refine ⟨l ++ [r], by simp [h4], fun i hi j hj => ?_⟩
          by_cases hin : i < n
          · have e : (l ++ [r]).getD i ss0 = l.getD i ss0 := by
              rw [List.getD_eq_getElem?_getD, List.getElem?_append_left (by omega), ← List.getD_eq_getElem?_getD]
            rw [e]; exact h5 i hin j hj
          · have : i = n := by omega
            subst this
            have e : (l ++ [r]).getD i ss0 = r := by
              rw [List.getD_eq_getElem?_getD, List.getElem?_append_right (by omega), h4]; simp
            rw [e]
            have := h6 j hj
            have e2 : (Addr.add ⟨b, off, none⟩ (i * 3)).add j = ⟨b, off + 3 * i + j, none⟩ := by
              have e3 : ∀ o n : Nat, Addr.add ⟨b, o, none⟩ n = ⟨b, o + n, none⟩ := fun o n => by unfold Addr.add; split <;> simp_all
              rw [e3, e3, Nat.mul_comm]
            rwa [e2] at this
      obtain ⟨l, hl, hl2⟩ := hlist len (Nat.le_refl _)
      refine ⟨false, l, ?_, by
        have : cap ≤ 9223372036854775807 := hcm
        omega⟩
      simp only [Conc]
      right; left
      refine ⟨trivial, b, off, cap, ?_, ?_, fun _ => ⟨lone_bad, hcells⟩, rowsAt_ss _ _ fun i hi => ?_⟩
      · simp [ssR_len, hl]
      · simp [ssR_len, hl, hlc]
      · have := hl2 i (by omega)
        exact ⟨this 0 (by omega), this 1 (by omega), this 2 (by omega)⟩
set_option maxRecDepth 100000 in
theorem dy_cells {fuel : Nat} {cs : List Value} {y : DataW H × List MemPlace} (h : DataW.trod enc Try.prog w 0 (fun _ => true) true fuel 97 cs = some y) : ∃ u0 u1 u2 s b mn, cs = [u0, u1, u2, .string s, .string b, .int .i64 mn] ∧ IC w u0 ∧ IC w u1 ∧ ∃ nil l, Conc (lone w) (sss nil l) u2 ∧ l.length ≤ 9223372036854775807 := by
  obtain ⟨y0, y1, y2, n, hl, h0, h1, h2⟩ := trod_struct3 Try.underlying97 h
  rw [cells97'] at hl
  match cs, hl with
  | [c0, c1, c2, c3, c4, c5], _ =>
  rw [cells35'] at h0
  rw [cells55'] at h1
  rw [cells95'] at h2
  obtain ⟨u0, u1, e0, a0, a1⟩ := dm_cells (cs := [c0, c1]) (by simpa using h0)
  have a2 := sss_of_trod (c := c2) (by simpa using h1)
  obtain ⟨g, e2⟩ := ss_cells (cs := [c3, c4, c5]) (by simpa using h2)
  simp at e0 e2
  obtain ⟨rfl, rfl⟩ := e0
  obtain ⟨rfl, rfl, rfl⟩ := e2
  exact ⟨_, _, _, g.mi, g.st, g.mn, rfl, a0, a1, a2⟩
set_option maxRecDepth 100000 in
theorem open_dy {v : Value} {d : DataW H} {ps : List MemPlace} (hval : Value.okWide Try.prog w .any base 97 v) (h : DataW.Trod enc Try.prog w 0 (fun _ => true) true 97 v d ps) : ∃ (n1 : Bool) (lo : List Int) (n2 : Bool) (hi : List Int) (n3 : Bool) (s : List Ss) (x : Ss), Conc (lone w) (.agg [ints n1 lo, ints n2 hi, sss n3 s, tx x.mi, tx x.st, i64 x.mn]) v ∧ s.length ≤ 9223372036854775807 := by
  obtain ⟨cs, rfl⟩ := agg_of Try.underlying97 hval
  obtain ⟨fuel, hf⟩ := h
  obtain ⟨u0, u1, u2, a, b, mn, e, ⟨n1, lo, h0⟩, ⟨n2, hi, h1⟩, n3, s, h2, hs⟩ := dy_cells (cs := cs.toList) hf
  refine ⟨n1, lo, n2, hi, n3, s, ⟨a, b, mn⟩, ?_, hs⟩
  simp only [Conc]
  refine ⟨cs, rfl, ?_⟩
  rw [e]
  exact ⟨_, _, rfl, h0, _, _, rfl, h1, _, _, rfl, h2, _, _, rfl, rfl, _, _, rfl, rfl, _, _, rfl, rfl, rfl⟩
end
end Go.Abs
