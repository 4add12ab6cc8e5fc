import Derived.Test.YtdedhipkncagjaaK312x
import Derived.Test.YtdedhipkncagjaaKO1
import Derived.WalkKit
import Derived.ProofKit
import Derived.OpenShut
set_option linter.all false
set_option linter.unusedVariables false
set_option linter.unusedSimpArgs false
set_option linter.unusedSectionVars false
namespace Go.Abs
open Go.ChangeShapes Go.WideShapes Go.RowKit Go.Proofs
/-! strokes and sessions opened -/
section
variable {H : Type} {enc : TypeId × Value → H} {P : Program} {w : World} {base : Nat}
theorem cell_some {a : Addr} {v : Value} (h : w.cell? a = some v) : a.spot = none ∧ IsCells w a.block := by
  unfold World.cell? at h
  split at h
  · rename_i c e f hb
    refine ⟨?_, c, e, f, hb⟩
    cases hs : a.spot with
    | none => rfl
    | some s => rw [hs] at h; simp at h
  · simp at h
theorem add_zero (a : Addr) : a.add 0 = a := by unfold Addr.add; simp
theorem add_spot {a : Addr} (h : a.spot = none) (n : Nat) : a.add n = ⟨a.block, a.off + n, none⟩ := by
  obtain ⟨b, o, s⟩ := a
  dsimp only at h
  subst h
  unfold Addr.add; split <;> simp_all
/-- a list of numbers, as a cell holds it -/
theorem conc_ints {A : Option Addr} {L C : Nat} {Z : List Int} (h1 : L ≤ C) (h2 : Z.length = C) (h3 : A = none → C = 0) (h4 : ∀ a', A = some a' → ∀ c, c < C → w.cell? (a'.add c) = some (.int .i64 (Z.getD c 0))) :
    ∃ (nil : Bool) (xs : List Int), Conc (lone w) (ints nil xs) (.slice A L C) := by
  cases A with
  | none =>
    have := h3 rfl
    obtain rfl : L = 0 := by omega
    subst this
    exact ⟨true, [], by simp [Conc]⟩
  | some a =>
    by_cases hc : C = 0
    · subst hc
      obtain rfl : L = 0 := by omega
      exact ⟨false, [], by simp only [Conc]; exact .inr (.inr ⟨trivial, rfl, a, rfl⟩)⟩
    · have h5 := h4 a rfl 0 (by omega)
      obtain ⟨hs1, hs2⟩ := cell_some h5
      rw [add_zero] at hs1 hs2
      refine ⟨false, Z.take L, ?_⟩
      simp only [Conc]
      right; left
      refine ⟨trivial, a.block, a.off, C, ?_, ?_, fun _ => ⟨lone_bad, hs2⟩, rowsAt_ints _ _ fun i hi => ?_⟩
      · obtain ⟨b, o, s⟩ := a
        dsimp only at hs1
        subst hs1
        simp [h2, Nat.min_eq_left h1]
      · simp [h2]; omega
      · have hi' : i < L := by rw [List.length_take] at hi; omega
        have h6 := h4 a rfl i (by omega)
        rw [add_spot hs1] at h6
        show w.cell? _ = _
        rw [h6]
        simp [List.getD, List.getElem?_take, hi']
/-- a list of numbers in a cell -/
theorem ints_of_trod {t e : TypeId} {c : Value} {fuel : Nat} {y : DataW H × List MemPlace} (ht : P.underlying t = some (.slice e)) (he : P.underlying e = some (.int .i64)) (hc : P.cellsOf e = 1)
    (h : DataW.trod enc P w 0 (fun _ => true) true fuel t [c] = some y) : ∃ (nil : Bool) (xs : List Int), Conc (lone w) (ints nil xs) c := by
  rcases open_ints ht he hc h with ⟨h1, _⟩ | ⟨a', len', cap', zs, h1, _, hl', hm', hz, _, hcell, _⟩
  · obtain rfl := List.head_eq_of_cons_eq h1
    exact conc_ints (A := none) (L := 0) (C := 0) (Z := []) (Nat.le_refl _) rfl (fun _ => rfl) (fun a' h => by simp at h)
  · obtain rfl := List.head_eq_of_cons_eq h1
    simp only [if_true] at hz
    exact conc_ints (A := some a') (L := len') (C := cap') (Z := zs) hl' hz (fun h => by simp at h) (fun a'' h c hc => by cases h; exact hcell c (by omega))
end
section
variable {H : Type} {enc : TypeId × Value → H} {w : World} {base : Nat}
theorem cells3' : Try.prog.cellsOf 3 = 1 := by kernel_rfl
theorem cells9' : Try.prog.cellsOf 9 = 1 := by kernel_rfl
theorem cells22' : Try.prog.cellsOf 22 = 1 := by kernel_rfl
theorem cells57' : Try.prog.cellsOf 57 = 2 := by kernel_rfl
theorem cells62' : Try.prog.cellsOf 62 = 3 := by kernel_rfl
theorem cells51' : Try.prog.cellsOf 51 = 1 := by kernel_rfl
theorem cells52' : Try.prog.cellsOf 52 = 1 := by kernel_rfl
set_option maxRecDepth 100000 in
theorem sk_cells {fuel : Nat} {cs : List Value} {y : DataW H × List MemPlace} (h : DataW.trod enc Try.prog w 0 (fun _ => true) true fuel 57 cs = some y) : ∃ (s : Sk) (u : Value), cs = [.string s.nm, u] ∧ Conc (lone w) (ints s.nil s.wr) u := by
  obtain ⟨y0, y1, n, _, hl, h0, h1⟩ := trod_struct2 Try.underlying57 h
  rw [cells57'] at hl
  match cs, hl with
  | [c0, c1], _ =>
  rw [cells9'] at h0
  rw [cells22'] at h1
  obtain ⟨s0, e0, _, _⟩ := DataW.trod_string Try.underlying9 h0
  simp at e0
  subst e0
  obtain ⟨nil, xs, h2⟩ := ints_of_trod Try.underlying22 Try.underlying3 cells3' (c := c1) (by simpa using h1)
  exact ⟨⟨s0, nil, xs⟩, c1, rfl, h2⟩
theorem rowsAt_sk {C : Ctx} {b : Nat} : ∀ (l : List Sk) (off : Nat), (∀ i, i < l.length → C.w.cell? ⟨b, off + 2 * i, none⟩ = some (.string (l.getD i sk0).nm) ∧ ∃ u, C.w.cell? ⟨b, off + 2 * i + 1, none⟩ = some u ∧ Conc C (ints (l.getD i sk0).nil (l.getD i sk0).wr) u) → RowsAt C b off 2 (skR l)
  | [], _, _ => trivial
  | x :: r, off, h => by
    obtain ⟨h0, u, h1, h2⟩ := h 0 (by simp)
    refine ⟨rfl, ⟨⟨_, h0, rfl, rfl, rfl⟩, ⟨u, h1, Conc.one h2 rfl, rfl, h2⟩, trivial⟩, rowsAt_sk r (off + 2) fun i hi => ?_⟩
    have := h (i + 1) (by simpa using hi)
    rw [show off + 2 + 2 * i = off + 2 * (i + 1) by omega]
    simpa using this
set_option maxRecDepth 100000 in
theorem ss_cells {b : Nat} {spare : Nat → Bool} {held : Bool} {fuel : Nat} {cs : List Value} {y : DataW H × List MemPlace} (h : DataW.trod enc Try.prog w b spare held fuel 62 cs = some y) : ∃ g : Ss, cs = [.string g.mi, .string g.st, .int .i64 g.mn] := by
  obtain ⟨y0, y1, y2, n, hl, h0, h1, h2⟩ := trod_struct3 Try.underlying62 h
  rw [cells62'] at hl
  match cs, hl with
  | [c0, c1, c2], _ =>
  rw [cells9'] at h0 h1
  rw [cells3'] at h2
  obtain ⟨s0, e0, _, _⟩ := DataW.trod_string Try.underlying9 h0
  obtain ⟨i1, e1, _, _⟩ := DataW.trod_string Try.underlying9 h1
  obtain ⟨i2, e2, _, _⟩ := DataW.trod_int Try.underlying3 h2
  simp at e0 e1 e2
  subst e0 e1 e2
  exact ⟨⟨s0, i1, i2⟩, rfl⟩
theorem rowsAt_ss {C : Ctx} {b : Nat} : ∀ (l : List Ss) (off : Nat), (∀ i, i < l.length → C.w.cell? ⟨b, off + 3 * i, none⟩ = some (.string (l.getD i ss0).mi) ∧ C.w.cell? ⟨b, off + 3 * i + 1, none⟩ = some (.string (l.getD i ss0).st) ∧ C.w.cell? ⟨b, off + 3 * i + 2, none⟩ = some (.int .i64 (l.getD i ss0).mn)) → RowsAt C b off 3 (ssR l)
  | [], _, _ => trivial
  | x :: r, off, h => by
    obtain ⟨h0, h1, h2⟩ := h 0 (by simp)
    refine ⟨rfl, ⟨⟨_, h0, rfl, rfl, rfl⟩, ⟨_, h1, rfl, rfl, rfl⟩, ⟨_, h2, rfl, rfl, rfl⟩, trivial⟩, rowsAt_ss r (off + 3) fun i hi => ?_⟩
    have := h (i + 1) (by simpa using hi)
    rw [show off + 3 + 3 * i = off + 3 * (i + 1) by omega]
    simpa using this
set_option maxRecDepth 100000 in
theorem agg_of {t : TypeId} {fs : Array Field} {v : Value} (ht : Try.prog.underlying t = some (.struct fs)) (hval : Value.okWide Try.prog w .any base t v) : ∃ cs, v = .agg cs := by
  unfold Value.okWide at hval
  rw [ht] at hval
  obtain ⟨cs, h1, _⟩ := hval
  exact ⟨cs, h1⟩
set_option maxRecDepth 100000 in
theorem sss_of_trod {c : Value} {fuel : Nat} {y : DataW H × List MemPlace} (h : DataW.trod enc Try.prog w 0 (fun _ => true) true fuel 52 [c] = some y) : ∃ (nil : Bool) (l : List Ss), Conc (lone w) (sss nil l) c ∧ l.length ≤ 9223372036854775807 := by
  rcases DataW.trod_slice Try.underlying52 h with ⟨h1, _⟩ | ⟨a', len, cap, elems, rest, n, _, h1, _, _, hlc, hcm, hlen, hel, hsp, _⟩
  · obtain rfl := List.head_eq_of_cons_eq h1
    exact ⟨true, [], by simp [Conc, ssR], by simp⟩
  · obtain rfl := List.head_eq_of_cons_eq h1
    obtain ⟨hr1, hr2⟩ := hsp rfl
    have each : ∀ i, i < cap → ∃ r : Ss, ∀ j, j < 3 → w.cell? ((a'.add (i * 3)).add j) = [Value.string r.mi, .string r.st, .int .i64 r.mn][j]? := by
      intro i hi
      have h2 : ∃ e : DataW H × List MemPlace, (w.cells? 0 (a'.add (i * 3)) 3).bind (DataW.trod enc Try.prog w 0 (fun _ => true) true n 62) = some e := by
        by_cases hil : i < len
        · have h2 := hel i hil
          rw [cells62', List.getElem?_eq_getElem (by omega)] at h2
          exact ⟨_, h2⟩
        · have h2 := hr2 (i - len) (by omega)
          rw [cells62', List.getElem?_eq_getElem (by omega), show len + (i - len) = i by omega] at h2
          exact ⟨_, h2⟩
      obtain ⟨e, h2⟩ := h2
      cases hc : w.cells? 0 (a'.add (i * 3)) 3 with
      | none => rw [hc] at h2; simp at h2
      | some cs =>
        rw [hc] at h2
        obtain ⟨r, rfl⟩ := ss_cells (y := e) h2
        refine ⟨r, fun j hj => ?_⟩
        exact (World.cells?_some hc).2.2 j hj
    by_cases hc : cap = 0
    · subst hc
      obtain rfl : len = 0 := by omega
      exact ⟨false, [], by simp only [Conc]; exact .inr (.inr ⟨trivial, rfl, a', rfl⟩), by simp⟩
    · obtain ⟨r0, h5⟩ := each 0 (by omega)
      have h6 := h5 0 (by omega)
      rw [Nat.zero_mul, add_zero, add_zero] at h6
      obtain ⟨hs1, hcells⟩ := cell_some h6
      obtain ⟨b, off, sp⟩ := a'
      dsimp only at hs1 hcells
      subst hs1
      have hlist : ∀ n, n ≤ len → ∃ l : List Ss, l.length = n ∧ ∀ i, i < n → ∀ j, j < 3 → w.cell? ⟨b, off + 3 * i + j, none⟩ = [Value.string (l.getD i ss0).mi, .string (l.getD i ss0).st, .int .i64 (l.getD i ss0).mn][j]? := by
        intro n
        induction n with
        | zero => intro _; exact ⟨[], rfl, fun i hi => by omega⟩
        | succ n ih =>
          intro hn
          obtain ⟨l, h4, h5⟩ := ih (by omega)
          obtain ⟨r, h6⟩ := each n (by omega)
          refine ⟨l ++ [r], by simp [h4], fun i hi j hj => ?_⟩
          by_cases hin : i < n
          · have e : (l ++ [r]).getD i ss0 = l.getD i ss0 := by
              rw [List.getD_eq_getElem?_getD, List.getElem?_append_left (by omega), ← List.getD_eq_getElem?_getD]
            rw [e]; exact h5 i hin j hj
          · have : i = n := by omega
            subst this
            have e : (l ++ [r]).getD i ss0 = r := by
              rw [List.getD_eq_getElem?_getD, List.getElem?_append_right (by omega), h4]; simp
            rw [e]
            have := h6 j hj
            have e2 : (Addr.add ⟨b, off, none⟩ (i * 3)).add j = ⟨b, off + 3 * i + j, none⟩ := by
              have e3 : ∀ o n : Nat, Addr.add ⟨b, o, none⟩ n = ⟨b, o + n, none⟩ := fun o n => by unfold Addr.add; split <;> simp_all
              rw [e3, e3, Nat.mul_comm]
            rwa [e2] at this
      obtain ⟨l, hl, hl2⟩ := hlist len (Nat.le_refl _)
      refine ⟨false, l, ?_, by
        have : cap ≤ 9223372036854775807 := hcm
        omega⟩
      simp only [Conc]
      right; left
      refine ⟨trivial, b, off, cap, ?_, ?_, fun _ => ⟨lone_bad, hcells⟩, rowsAt_ss _ _ fun i hi => ?_⟩
      · simp [ssR_len, hl]
      · simp [ssR_len, hl, hlc]
      · have := hl2 i (by omega)
        exact ⟨this 0 (by omega), this 1 (by omega), this 2 (by omega)⟩
set_option maxRecDepth 100000 in
theorem sts_of_trod {c : Value} {fuel : Nat} {y : DataW H × List MemPlace} (h : DataW.trod enc Try.prog w 0 (fun _ => true) true fuel 51 [c] = some y) : ∃ (nil : Bool) (l : List Sk), Conc (lone w) (sts nil l) c ∧ l.length ≤ 9223372036854775807 := by
  rcases DataW.trod_slice Try.underlying51 h with ⟨h1, _⟩ | ⟨a', len, cap, elems, rest, n, _, h1, _, _, hlc, hcm, hlen, hel, hsp, _⟩
  · obtain rfl := List.head_eq_of_cons_eq h1
    exact ⟨true, [], by simp [Conc, skR], by simp⟩
  · obtain rfl := List.head_eq_of_cons_eq h1
    obtain ⟨hr1, hr2⟩ := hsp rfl
    have each : ∀ i, i < cap → ∃ (r : Sk) (u : Value), (∀ j, j < 2 → w.cell? ((a'.add (i * 2)).add j) = [Value.string r.nm, u][j]?) ∧ Conc (lone w) (ints r.nil r.wr) u := by
      intro i hi
      have h2 : ∃ e : DataW H × List MemPlace, (w.cells? 0 (a'.add (i * 2)) 2).bind (DataW.trod enc Try.prog w 0 (fun _ => true) true n 57) = some e := by
        by_cases hil : i < len
        · have h2 := hel i hil
          rw [cells57', List.getElem?_eq_getElem (by omega)] at h2
          exact ⟨_, h2⟩
        · have h2 := hr2 (i - len) (by omega)
          rw [cells57', List.getElem?_eq_getElem (by omega), show len + (i - len) = i by omega] at h2
          exact ⟨_, h2⟩
      obtain ⟨e, h2⟩ := h2
      cases hc : w.cells? 0 (a'.add (i * 2)) 2 with
      | none => rw [hc] at h2; simp at h2
      | some cs =>
        rw [hc] at h2
        obtain ⟨r, u, rfl, hu⟩ := sk_cells (y := e) h2
        exact ⟨r, u, fun j hj => (World.cells?_some hc).2.2 j hj, hu⟩
    by_cases hc : cap = 0
    · subst hc
      obtain rfl : len = 0 := by omega
      exact ⟨false, [], by simp only [Conc]; exact .inr (.inr ⟨trivial, rfl, a', rfl⟩), by simp⟩
    · obtain ⟨r0, u0, h5, _⟩ := each 0 (by omega)
      have h6 := h5 0 (by omega)
      rw [Nat.zero_mul, add_zero, add_zero] at h6
      obtain ⟨hs1, hcells⟩ := cell_some h6
      obtain ⟨b, off, sp⟩ := a'
      dsimp only at hs1 hcells
      subst hs1
      have hlist : ∀ n, n ≤ len → ∃ l : List Sk, l.length = n ∧ ∀ i, i < n → w.cell? ⟨b, off + 2 * i, none⟩ = some (.string (l.getD i sk0).nm) ∧ ∃ u, w.cell? ⟨b, off + 2 * i + 1, none⟩ = some u ∧ Conc (lone w) (ints (l.getD i sk0).nil (l.getD i sk0).wr) u := by
        intro n
        induction n with
        | zero => intro _; exact ⟨[], rfl, fun i hi => by omega⟩
        | succ n ih =>
          intro hn
          obtain ⟨l, h4, h5⟩ := ih (by omega)
          obtain ⟨r, u, h6, h7⟩ := each n (by omega)
          refine ⟨l ++ [r], by simp [h4], fun i hi => ?_⟩
          by_cases hin : i < n
          · have e : (l ++ [r]).getD i sk0 = l.getD i sk0 := by
              rw [List.getD_eq_getElem?_getD, List.getElem?_append_left (by omega), ← List.getD_eq_getElem?_getD]
            rw [e]; exact h5 i hin
          · have : i = n := by omega
            subst this
            have e : (l ++ [r]).getD i sk0 = r := by
              rw [List.getD_eq_getElem?_getD, List.getElem?_append_right (by omega), h4]; simp
            rw [e]
            have e3 : ∀ o n : Nat, Addr.add ⟨b, o, none⟩ n = ⟨b, o + n, none⟩ := fun o n => by unfold Addr.add; split <;> simp_all
            have h8 := h6 0 (by omega)
            have h9 := h6 1 (by omega)
            rw [e3, e3, Nat.mul_comm] at h8 h9
            exact ⟨h8, u, h9, h7⟩
      obtain ⟨l, hl, hl2⟩ := hlist len (Nat.le_refl _)
      refine ⟨false, l, ?_, by
        have : cap ≤ 9223372036854775807 := hcm
        omega⟩
      simp only [Conc]
      right; left
      refine ⟨trivial, b, off, cap, ?_, ?_, fun _ => ⟨lone_bad, hcells⟩, rowsAt_sk _ _ fun i hi => hl2 i (by omega)⟩
      · simp [skR_len, hl]
      · simp [skR_len, hl, hlc]
theorem cells54' : Try.prog.cellsOf 54 = 3 := by kernel_rfl
set_option maxRecDepth 100000 in
theorem gn_cells {fuel : Nat} {cs : List Value} {y : DataW H × List MemPlace} (h : DataW.trod enc Try.prog w 0 (fun _ => true) true fuel 54 cs = some y) : ∃ u0 u1 b, cs = [u0, u1, .string b] ∧ (∃ nil l, Conc (lone w) (sts nil l) u0 ∧ l.length ≤ 9223372036854775807) ∧ ∃ nil l, Conc (lone w) (sss nil l) u1 ∧ l.length ≤ 9223372036854775807 := by
  obtain ⟨y0, y1, y2, n, hl, h0, h1, h2⟩ := trod_struct3 Try.underlying54 h
  rw [cells54'] at hl
  match cs, hl with
  | [c0, c1, c2], _ =>
  rw [cells51'] at h0
  rw [cells52'] at h1
  rw [cells9'] at h2
  have a0 := sts_of_trod (c := c0) (by simpa using h0)
  have a1 := sss_of_trod (c := c1) (by simpa using h1)
  obtain ⟨s0, e0, _, _⟩ := DataW.trod_string Try.underlying9 h2
  simp at e0
  subst e0
  exact ⟨_, _, s0, rfl, a0, a1⟩
set_option maxRecDepth 100000 in
theorem open_gn {v : Value} {d : DataW H} {ps : List MemPlace} (hval : Value.okWide Try.prog w .any base 54 v) (h : DataW.Trod enc Try.prog w 0 (fun _ => true) true 54 v d ps) : ∃ (nil : Bool) (l : List Sk) (n3 : Bool) (s : List Ss) (b : ByteArray), Conc (lone w) (.agg [sts nil l, sss n3 s, tx b]) v := by
  obtain ⟨cs, rfl⟩ := agg_of Try.underlying54 hval
  obtain ⟨fuel, hf⟩ := h
  obtain ⟨u0, u1, b, e, ⟨n1, l, h0, _⟩, n2, s, h1, _⟩ := gn_cells (cs := cs.toList) hf
  refine ⟨n1, l, n2, s, b, ?_⟩
  simp only [Conc]
  refine ⟨cs, rfl, ?_⟩
  rw [e]
  exact ⟨_, _, rfl, h0, _, _, rfl, h1, _, _, rfl, rfl, rfl⟩
end
end Go.Abs
