import Derived.Test.YtpfmamngjefohaaKO2
import Derived.Test.YtpfmamngjefohaaK312x
set_option linter.all false
set_option linter.unusedVariables false
set_option linter.unusedSimpArgs false
set_option linter.unusedSectionVars false
namespace Go.Abs
open Go.ChangeShapes Go.WideShapes Go.RowKit Go.Proofs
/-! strokes and sessions opened -/
section
variable {H : Type} {enc : TypeId × Value → H} {P : Program} {w : World} {base : Nat}
theorem cell_some {a : Addr} {v : Value} (h : w.cell? a = some v) : a.spot = none ∧ IsCells w a.block := by
  unfold World.cell? at h
  split at h
  · rename_i c e f hb
    refine ⟨?_, c, e, f, hb⟩
    cases hs : a.spot with
    | none => rfl
    | some s => rw [hs] at h; simp at h
  · simp at h
theorem add_zero (a : Addr) : a.add 0 = a := by unfold Addr.add; simp
theorem add_spot {a : Addr} (h : a.spot = none) (n : Nat) : a.add n = ⟨a.block, a.off + n, none⟩ := by
  obtain ⟨b, o, s⟩ := a
  dsimp only at h
  subst h
  unfold Addr.add; split <;> simp_all
/-- a list of numbers, as a cell holds it -/
theorem conc_ints {A : Option Addr} {L C : Nat} {Z : List Int} (h1 : L ≤ C) (h2 : Z.length = C) (h3 : A = none → C = 0) (h4 : ∀ a', A = some a' → ∀ c, c < C → w.cell? (a'.add c) = some (.int .i64 (Z.getD c 0))) :
    ∃ (nil : Bool) (xs : List Int), Conc (lone w) (ints nil xs) (.slice A L C) := by
  cases A with
  | none =>
    have := h3 rfl
    obtain rfl : L = 0 := by omega
    subst this
    exact ⟨true, [], by simp [Conc]⟩
  | some a =>
    by_cases hc : C = 0
    · subst hc
      obtain rfl : L = 0 := by omega
      exact ⟨false, [], by simp only [Conc]; exact .inr (.inr ⟨trivial, rfl, a, rfl⟩)⟩
    · have h5 := h4 a rfl 0 (by omega)
      obtain ⟨hs1, hs2⟩ := cell_some h5
      rw [add_zero] at hs1 hs2
      refine ⟨false, Z.take L, ?_⟩
      simp only [Conc]
      right; left
      refine ⟨trivial, a.block, a.off, C, ?_, ?_, fun _ => ⟨lone_bad, hs2⟩, rowsAt_ints _ _ fun i hi => ?_⟩
      · obtain ⟨b, o, s⟩ := a
        dsimp only at hs1
        subst hs1
        simp [h2, Nat.min_eq_left h1]
      · simp [h2]; omega
      · have hi' : i < L := by rw [List.length_take] at hi; omega
        have h6 := h4 a rfl i (by omega)
        rw [add_spot hs1] at h6
        show w.cell? _ = _
        rw [h6]
        simp [List.getD, List.getElem?_take, hi']
/-- a list of numbers in a cell -/
theorem ints_of_trod {t e : TypeId} {c : Value} {fuel : Nat} {y : DataW H × List MemPlace} (ht : P.underlying t = some (.slice e)) (he : P.underlying e = some (.int .i64)) (hc : P.cellsOf e = 1)
    (h : DataW.trod enc P w 0 (fun _ => true) true fuel t [c] = some y) : ∃ (nil : Bool) (xs : List Int), Conc (lone w) (ints nil xs) c := by
  rcases open_ints ht he hc h with ⟨h1, _⟩ | ⟨a', len', cap', zs, h1, _, hl', hm', hz, _, hcell, _⟩
  · obtain rfl := List.head_eq_of_cons_eq h1
    exact conc_ints (A := none) (L := 0) (C := 0) (Z := []) (Nat.le_refl _) rfl (fun _ => rfl) (fun a' h => by simp at h)
  · obtain rfl := List.head_eq_of_cons_eq h1
    simp only [if_true] at hz
    exact conc_ints (A := some a') (L := len') (C := cap') (Z := zs) hl' hz (fun h => by simp at h) (fun a'' h c hc => by cases h; exact hcell c (by omega))
end
section
variable {H : Type} {enc : TypeId × Value → H} {w : World} {base : Nat}
theorem cells27' : Try.prog.cellsOf 27 = 1 := by kernel_rfl
theorem cells116' : Try.prog.cellsOf 116 = 2 := by kernel_rfl
theorem cells95' : Try.prog.cellsOf 95 = 3 := by kernel_rfl
set_option maxRecDepth 100000 in
theorem sk_cells {fuel : Nat} {cs : List Value} {y : DataW H × List MemPlace} (h : DataW.trod enc Try.prog w 0 (fun _ => true) true fuel 116 cs = some y) : ∃ (s : Sk) (u : Value), cs = [.string s.nm, u] ∧ Conc (lone w) (ints s.nil s.wr) u := by
  obtain ⟨y0, y1, n, _, hl, h0, h1⟩ := trod_struct2 Try.underlying116 h
  rw [cells116'] at hl
  match cs, hl with
  | [c0, c1], _ =>
  rw [cells9'] at h0
  rw [cells27'] at h1
  obtain ⟨s0, e0, _, _⟩ := DataW.trod_string Try.underlying9 h0
  simp at e0
  subst e0
  obtain ⟨nil, xs, h2⟩ := ints_of_trod Try.underlying27 Try.underlying3 cells3' (c := c1) (by simpa using h1)
  exact ⟨⟨s0, nil, xs⟩, c1, rfl, h2⟩
theorem rowsAt_sk {C : Ctx} {b : Nat} : ∀ (l : List Sk) (off : Nat), (∀ i, i < l.length → C.w.cell? ⟨b, off + 2 * i, none⟩ = some (.string (l.getD i sk0).nm) ∧ ∃ u, C.w.cell? ⟨b, off + 2 * i + 1, none⟩ = some u ∧ Conc C (ints (l.getD i sk0).nil (l.getD i sk0).wr) u) → RowsAt C b off 2 (skR l)
  | [], _, _ => trivial
  | x :: r, off, h => by
    obtain ⟨h0, u, h1, h2⟩ := h 0 (by simp)
    refine ⟨rfl, ⟨⟨_, h0, rfl, rfl, rfl⟩, ⟨u, h1, Conc.one h2 rfl, rfl, h2⟩, trivial⟩, rowsAt_sk r (off + 2) fun i hi => ?_⟩
    have := h (i + 1) (by simpa using hi)
    rw [show off + 2 + 2 * i = off + 2 * (i + 1) by omega]
    simpa using this
set_option maxRecDepth 100000 in
theorem open_sts {v : Value} {d : DataW H} {ps : List MemPlace} (hval : Value.okWide Try.prog w .any base 33 v) (h : DataW.Trod enc Try.prog w 0 (fun _ => true) true 33 v d ps) : ∃ (nil : Bool) (l : List Sk), Conc (lone w) (sts nil l) v ∧ l.length ≤ 9223372036854775807 := by
  obtain ⟨a, len, cap, rfl⟩ := okWide_slice Try.underlying33 hval
  obtain ⟨fuel, hf⟩ := h
  rcases DataW.trod_slice Try.underlying33 hf with ⟨h1, _⟩ | ⟨a', len', cap', elems, rest, n, _, h1, _, _, hlc, hcm, hlen, hel, _, _⟩
  · simp only [Value.cells] at h1
    refine ⟨true, [], ?_, by simp⟩
    simp only [Conc]
    left
    exact ⟨trivial, rfl, by simpa using h1⟩
  · simp [Value.cells] at h1
    obtain ⟨rfl, rfl, rfl⟩ := h1
    have hok0 : len ≤ cap ∧ (cap : Int) ≤ IntKind.i64.max ∧ w.has Try.prog .any base a' 116 cap := by
      unfold Value.okWide Cell.okWide Cell.ok at hval
      rw [Try.underlying33] at hval
      exact hval
    obtain ⟨hlc0, hcm0, hok⟩ := hok0
    obtain ⟨_, hsp, row, cells, hsh, _⟩ := hok
    obtain ⟨b, off, sp⟩ := a'
    dsimp only at hsp hsh
    subst hsp
    have hcells : IsCells w b := by
      unfold World.shape? at hsh
      split at hsh
      · rename_i c el f hb; exact ⟨c, el, f, hb⟩
      · simp at hsh
    have each : ∀ i, i < len → ∃ (r : Sk) (u : Value), (∀ j, j < 2 → w.cell? ((Addr.add ⟨b, off, none⟩ (i * 2)).add j) = [Value.string r.nm, u][j]?) ∧ Conc (lone w) (ints r.nil r.wr) u := by
      intro i hi
      have h2 := hel i hi
      have h3 : elems[i]? ≠ none := by rw [List.getElem?_eq_some_iff.2 ⟨by omega, rfl⟩]; simp
      rw [cells116'] at h2
      cases hc : w.cells? 0 (Addr.add ⟨b, off, none⟩ (i * 2)) 2 with
      | none => rw [hc] at h2; exact (h3 h2.symm).elim
      | some cs =>
        rw [hc] at h2
        cases ht : DataW.trod enc Try.prog w 0 (fun _ => true) true n 116 cs with
        | none => simp only [Option.bind_some, ht] at h2; exact (h3 h2.symm).elim
        | some y =>
          obtain ⟨r, u, rfl, hu⟩ := sk_cells ht
          exact ⟨r, u, fun j hj => (World.cells?_some hc).2.2 j hj, hu⟩
    have hlist : ∀ n, n ≤ len → ∃ l : List Sk, l.length = n ∧ ∀ i, i < n → w.cell? ⟨b, off + 2 * i, none⟩ = some (.string (l.getD i sk0).nm) ∧ ∃ u, w.cell? ⟨b, off + 2 * i + 1, none⟩ = some u ∧ Conc (lone w) (ints (l.getD i sk0).nil (l.getD i sk0).wr) u := by
      intro n
      induction n with
      | zero => intro _; exact ⟨[], rfl, fun i hi => by omega⟩
      | succ n ih =>
        intro hn
        obtain ⟨l, h4, h5⟩ := ih (by omega)
        obtain ⟨r, u, h6, h7⟩ := each n (by omega)
        refine ⟨l ++ [r], by simp [h4], fun i hi => ?_⟩
        by_cases hin : i < n
        · have e : (l ++ [r]).getD i sk0 = l.getD i sk0 := by
            rw [List.getD_eq_getElem?_getD, List.getElem?_append_left (by omega), ← List.getD_eq_getElem?_getD]
          rw [e]; exact h5 i hin
        · have : i = n := by omega
          subst this
          have e : (l ++ [r]).getD i sk0 = r := by
            rw [List.getD_eq_getElem?_getD, List.getElem?_append_right (by omega), h4]; simp
          rw [e]
          have e3 : ∀ o n : Nat, Addr.add ⟨b, o, none⟩ n = ⟨b, o + n, none⟩ := fun o n => by unfold Addr.add; split <;> simp_all
          have h8 := h6 0 (by omega)
          have h9 := h6 1 (by omega)
          rw [e3, e3, Nat.mul_comm] at h8 h9
          exact ⟨h8, u, h9, h7⟩
    obtain ⟨l, hl, hl2⟩ := hlist len (Nat.le_refl _)
    refine ⟨false, l, ?_, by
      have : (cap : Int) ≤ 9223372036854775807 := hcm0
      omega⟩
    simp only [Conc]
    right; left
    refine ⟨trivial, b, off, cap, ?_, ?_, fun _ => ⟨lone_bad, hcells⟩, rowsAt_sk _ _ fun i hi => hl2 i (by omega)⟩
    · simp [skR_len, hl]
    · simp [skR_len, hl, hlc]
set_option maxRecDepth 100000 in
theorem ss_cells {b : Nat} {spare : Nat → Bool} {held : Bool} {fuel : Nat} {cs : List Value} {y : DataW H × List MemPlace} (h : DataW.trod enc Try.prog w b spare held fuel 95 cs = some y) : ∃ g : Ss, cs = [.string g.mi, .string g.st, .int .i64 g.mn] := by
  obtain ⟨y0, y1, y2, n, hl, h0, h1, h2⟩ := trod_struct3 Try.underlying95 h
  rw [cells95'] at hl
  match cs, hl with
  | [c0, c1, c2], _ =>
  rw [cells9'] at h0 h1
  rw [cells3'] at h2
  obtain ⟨s0, e0, _, _⟩ := DataW.trod_string Try.underlying9 h0
  obtain ⟨i1, e1, _, _⟩ := DataW.trod_string Try.underlying9 h1
  obtain ⟨i2, e2, _, _⟩ := DataW.trod_int Try.underlying3 h2
  simp at e0 e1 e2
  subst e0 e1 e2
  exact ⟨⟨s0, i1, i2⟩, rfl⟩
theorem rowsAt_ss {C : Ctx} {b : Nat} : ∀ (l : List Ss) (off : Nat), (∀ i, i < l.length → C.w.cell? ⟨b, off + 3 * i, none⟩ = some (.string (l.getD i ss0).mi) ∧ C.w.cell? ⟨b, off + 3 * i + 1, none⟩ = some (.string (l.getD i ss0).st) ∧ C.w.cell? ⟨b, off + 3 * i + 2, none⟩ = some (.int .i64 (l.getD i ss0).mn)) → RowsAt C b off 3 (ssR l)
  | [], _, _ => trivial
  | x :: r, off, h => by
    obtain ⟨h0, h1, h2⟩ := h 0 (by simp)
    refine ⟨rfl, ⟨⟨_, h0, rfl, rfl, rfl⟩, ⟨_, h1, rfl, rfl, rfl⟩, ⟨_, h2, rfl, rfl, rfl⟩, trivial⟩, rowsAt_ss r (off + 3) fun i hi => ?_⟩
    have := h (i + 1) (by simpa using hi)
    rw [show off + 3 + 3 * i = off + 3 * (i + 1) by omega]
    simpa using this
end
end Go.Abs
