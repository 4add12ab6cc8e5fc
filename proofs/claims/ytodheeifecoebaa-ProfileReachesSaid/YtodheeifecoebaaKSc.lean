import Derived.Test.YtodheeifecoebaaK11
import Derived.Test.YtodheeifecoebaaK40x
import Derived.Test.YtodheeifecoebaaRows
set_option linter.all false
set_option linter.unusedVariables false
set_option linter.unusedSimpArgs false
set_option linter.unusedSectionVars false
namespace Go.Abs
open Go.ChangeShapes Go.WideShapes Go.RowKit
/-! opening structs -/
section
variable {H : Type} {enc : TypeId × Value → H} {P : Program} {w : World} {base : Nat}
theorem okWide_struct_cells {t : TypeId} {fs : Array Field} {ts : List TypeId} {v : Value} (ht : P.underlying t = some (.struct fs)) (hts : P.cellTypes P.depth t = some ts) (h : Value.okWide P w .any base t v) :
    ∃ cs, v = .agg cs ∧ cs.size = P.cellsOf t ∧ ∀ (i : Nat) x u, cs[i]? = some x → ts[i % ts.length]? = some u → Cell.okWide P w .any base u x := by
  unfold Value.okWide at h
  rw [ht] at h
  obtain ⟨cs, h1, h2, ts', h3, _, h4⟩ := h
  refine ⟨cs, h1, h2, fun i x u hx hu => ?_⟩
  rw [hts] at h3
  obtain rfl := Option.some.inj h3
  obtain ⟨u', hu', hok⟩ := h4 i x hx
  rw [hu] at hu'
  obtain rfl := Option.some.inj hu'
  exact hok
theorem okWide_array_cells {t e : TypeId} {n : Nat} {ts : List TypeId} {v : Value} (ht : P.underlying t = some (.array n e)) (hts : P.cellTypes P.depth t = some ts) (h : Value.okWide P w .any base t v) :
    ∃ cs, v = .agg cs ∧ cs.size = P.cellsOf t ∧ P.cellTypes P.depth t = some ts := by
  unfold Value.okWide at h
  rw [ht] at h
  obtain ⟨cs, h1, h2, _⟩ := h
  exact ⟨cs, h1, h2, hts⟩
theorem open_ints_cell {t e : TypeId} {c : Value} {fuel : Nat} {y : DataW H × List MemPlace} (ht : P.underlying t = some (.slice e)) (he : P.underlying e = some (.int .i64)) (hc : P.cellsOf e = 1)
    (hval : Cell.okWide P w .any base t c) (h : DataW.trod enc P w 0 (fun _ => true) true fuel t [c] = some y) : ∃ (nil : Bool) (xs : List Int), Conc (lone w) (ints nil xs) c := by
  have hval' : Value.okWide P w .any base t c := by unfold Value.okWide; rw [ht]; exact hval
  obtain ⟨a, len, cap, rfl⟩ := okWide_slice ht hval'
  exact open_ints_av ht he hc hval' ⟨fuel, show DataW.trod enc P w 0 (fun _ => true) true fuel t [.slice a len cap] = some (y.1, y.2) from h⟩
theorem trod_struct3 {t : TypeId} {f0 f1 f2 : Field} {b : Nat} {spare : Nat → Bool} {held : Bool} {fuel : Nat} {cs : List Value} {x : DataW H × List MemPlace} (ht : P.underlying t = some (.struct #[f0, f1, f2])) (h : DataW.trod enc P w b spare held fuel t cs = some x) :
    ∃ y0 y1 y2 n, cs.length = P.cellsOf t ∧ DataW.trod enc P w b spare held n f0.type ((cs.drop f0.offset).take (P.cellsOf f0.type)) = some y0 ∧
      DataW.trod enc P w b spare held n f1.type ((cs.drop f1.offset).take (P.cellsOf f1.type)) = some y1 ∧ DataW.trod enc P w b spare held n f2.type ((cs.drop f2.offset).take (P.cellsOf f2.type)) = some y2 := by
  obtain ⟨xs, n, _, rfl, hl, hlen, hf⟩ := DataW.trod_struct ht h
  match xs, hlen with
  | [y0, y1, y2], _ => exact ⟨y0, y1, y2, n, hl, by simpa using hf 0 f0 rfl, by simpa using hf 1 f1 rfl, by simpa using hf 2 f2 rfl⟩
end
end Go.Abs
namespace Go.Abs
open Go.ChangeShapes Go.WideShapes Go.RowKit Go.Proofs
section
variable {H : Type} {enc : TypeId × Value → H} {w : World} {base : Nat}
theorem cells3' : Try.prog.cellsOf 3 = 1 := by kernel_rfl
theorem cells56' : Try.prog.cellsOf 56 = 2 := by kernel_rfl
theorem cells106' : Try.prog.cellsOf 106 = 4 := by kernel_rfl
set_option maxRecDepth 100000 in
theorem rdg_cells {b : Nat} {spare : Nat → Bool} {held : Bool} {fuel : Nat} {cs : List Value} {y : DataW H × List MemPlace} (h : DataW.trod enc Try.prog w b spare held fuel 106 cs = some y) : ∃ r : Rd, cs = [.int .i64 r.a, .int .i64 r.b, .int .i64 r.lo, .int .i64 r.hi] := by
  obtain ⟨y0, y1, y2, n, hl, h0, h1, h2⟩ := trod_struct3 Try.underlying106 h
  rw [cells106'] at hl
  match cs, hl with
  | [c0, c1, c2, c3], _ =>
  rw [cells3'] at h0 h1
  rw [cells56'] at h2
  obtain ⟨z0, z1, m, _, _, h3, h4⟩ := trod_struct2 Try.underlying56 h2
  rw [cells3'] at h3 h4
  obtain ⟨i0, e0, _, _⟩ := DataW.trod_int Try.underlying3 h0
  obtain ⟨i1, e1, _, _⟩ := DataW.trod_int Try.underlying3 h1
  obtain ⟨i2, e2, _, _⟩ := DataW.trod_int Try.underlying3 h3
  obtain ⟨i3, e3, _, _⟩ := DataW.trod_int Try.underlying3 h4
  simp at e0 e1 e2 e3
  subst e0 e1 e2 e3
  exact ⟨⟨i0, i1, i2, i3⟩, rfl⟩
theorem rowsAt_rd {C : Ctx} {b : Nat} : ∀ (l : List Rd) (off : Nat), (∀ i, i < l.length → C.w.cell? ⟨b, off + 4 * i, none⟩ = some (.int .i64 (l.getD i rd0).a) ∧ C.w.cell? ⟨b, off + 4 * i + 1, none⟩ = some (.int .i64 (l.getD i rd0).b) ∧ C.w.cell? ⟨b, off + 4 * i + 2, none⟩ = some (.int .i64 (l.getD i rd0).lo) ∧ C.w.cell? ⟨b, off + 4 * i + 3, none⟩ = some (.int .i64 (l.getD i rd0).hi)) → RowsAt C b off 4 (rows4 l)
  | [], _, _ => trivial
  | x :: r, off, h => by
    obtain ⟨h0, h1, h2, h3⟩ := h 0 (by simp)
    refine ⟨rfl, ⟨⟨_, h0, rfl, rfl, rfl⟩, ⟨_, h1, rfl, rfl, rfl⟩, ⟨_, h2, rfl, rfl, rfl⟩, ⟨_, h3, rfl, rfl, rfl⟩, trivial⟩, rowsAt_rd r (off + 4) fun i hi => ?_⟩
    have := h (i + 1) (by simpa using hi)
    rw [show off + 4 + 4 * i = off + 4 * (i + 1) by omega]
    simpa using this
set_option maxRecDepth 100000 in
theorem open_rdgs {v : Value} {d : DataW H} {ps : List MemPlace} (hval : Value.okWide Try.prog w .any base 42 v) (h : DataW.Trod enc Try.prog w 0 (fun _ => true) true 42 v d ps) : ∃ (nil : Bool) (l : List Rd), Conc (lone w) (rdgs nil l) v := by
  obtain ⟨a, len, cap, rfl⟩ := okWide_slice Try.underlying42 hval
  obtain ⟨fuel, hf⟩ := h
  rcases DataW.trod_slice Try.underlying42 hf with ⟨h1, _⟩ | ⟨a', len', cap', elems, rest, n, _, h1, _, _, hlc, hcm, hlen, hel, _, _⟩
  · simp only [Value.cells] at h1
    refine ⟨true, [], ?_⟩
    simp only [Conc]
    left
    exact ⟨trivial, rfl, by simpa using h1⟩
  · simp [Value.cells] at h1
    obtain ⟨rfl, rfl, rfl⟩ := h1
    have hok : w.has Try.prog .any base a' 106 cap := by
      unfold Value.okWide Cell.okWide Cell.ok at hval
      rw [Try.underlying42] at hval
      exact hval.2.2
    obtain ⟨_, hsp, row, cells, hsh, _⟩ := hok
    obtain ⟨b, off, sp⟩ := a'
    dsimp only at hsp hsh
    subst hsp
    have hcells : IsCells w b := by
      unfold World.shape? at hsh
      split at hsh
      · rename_i c el f hb; exact ⟨c, el, f, hb⟩
      · simp at hsh
    have each : ∀ i, i < len → ∃ r : Rd, ∀ j, j < 4 → w.cell? ((Addr.add ⟨b, off, none⟩ (i * 4)).add j) = [Value.int .i64 r.a, .int .i64 r.b, .int .i64 r.lo, .int .i64 r.hi][j]? := by
      intro i hi
      have h2 := hel i hi
      have h3 : elems[i]? ≠ none := by rw [List.getElem?_eq_some_iff.2 ⟨by omega, rfl⟩]; simp
      rw [cells106'] at h2
      cases hc : w.cells? 0 (Addr.add ⟨b, off, none⟩ (i * 4)) 4 with
      | none => rw [hc] at h2; exact (h3 h2.symm).elim
      | some cs =>
        rw [hc] at h2
        cases ht : DataW.trod enc Try.prog w 0 (fun _ => true) true n 106 cs with
        | none => simp only [Option.bind_some, ht] at h2; exact (h3 h2.symm).elim
        | some y =>
          obtain ⟨r, rfl⟩ := rdg_cells ht
          refine ⟨r, fun j hj => ?_⟩
          have := (World.cells?_some hc).2.2 j hj
          exact this
    have hlist : ∀ n, n ≤ len → ∃ l : List Rd, l.length = n ∧ ∀ i, i < n → ∀ j, j < 4 → w.cell? ⟨b, off + 4 * i + j, none⟩ = [Value.int .i64 (l.getD i rd0).a, .int .i64 (l.getD i rd0).b, .int .i64 (l.getD i rd0).lo, .int .i64 (l.getD i rd0).hi][j]? := by
      intro n
      induction n with
      | zero => intro _; exact ⟨[], rfl, fun i hi => by omega⟩
      | succ n ih =>
        intro hn
        obtain ⟨l, h4, h5⟩ := ih (by omega)
        obtain ⟨r, h6⟩ := each n (by omega)
        refine ⟨l ++ [r], by simp [h4], fun i hi j hj => ?_⟩
        by_cases hin : i < n
        · have e : (l ++ [r]).getD i rd0 = l.getD i rd0 := by
            rw [List.getD_eq_getElem?_getD, List.getElem?_append_left (by omega), ← List.getD_eq_getElem?_getD]
          rw [e]; exact h5 i hin j hj
        · have : i = n := by omega
          subst this
          have e : (l ++ [r]).getD i rd0 = r := by
            rw [List.getD_eq_getElem?_getD, List.getElem?_append_right (by omega), h4]; simp
          rw [e]
          have := h6 j hj
          have e2 : (Addr.add ⟨b, off, none⟩ (i * 4)).add j = ⟨b, off + 4 * i + j, none⟩ := by
            have e3 : ∀ o n : Nat, Addr.add ⟨b, o, none⟩ n = ⟨b, o + n, none⟩ := fun o n => by unfold Addr.add; split <;> simp_all
            rw [e3, e3, Nat.mul_comm]
          rwa [e2] at this
    obtain ⟨l, hl, hl2⟩ := hlist len (Nat.le_refl _)
    refine ⟨false, l, ?_⟩
    simp only [Conc]
    right
    refine ⟨trivial, b, off, cap, ?_, ?_, fun _ => ⟨lone_bad, hcells⟩, rowsAt_rd _ _ fun i hi => ?_⟩
    · simp [rows4_len, hl]
    · simp [rows4_len, hl, hlc]
    · have := hl2 i (by omega)
      exact ⟨this 0 (by omega), this 1 (by omega), this 2 (by omega), this 3 (by omega)⟩
end
end Go.Abs
namespace Go.Abs
open Go.ChangeShapes Go.WideShapes Go.RowKit Go.Proofs
section
variable {H : Type} {enc : TypeId × Value → H} {w : World} {base : Nat}
theorem cells83 : Try.prog.cellsOf 83 = 2 := by kernel_rfl
set_option maxRecDepth 100000 in
theorem open_pr {v : Value} {d : DataW H} {ps : List MemPlace} (hval : Value.okWide Try.prog w .any base 83 v) (h : DataW.Trod enc Try.prog w 0 (fun _ => true) true 83 v d ps) : ∃ a b : Int, v = .agg #[.int .i64 a, .int .i64 b] := by
  unfold Value.okWide at hval
  rw [Try.underlying83] at hval
  obtain ⟨cs, rfl, hsz, _⟩ := hval
  rw [cells83] at hsz
  obtain ⟨l⟩ := cs
  match l, hsz with
  | [c0, c1], _ =>
  obtain ⟨fuel, hf⟩ := h
  obtain ⟨xs, n, _, _, _, hlen, hx⟩ := DataW.trod_array Try.underlying83 hf
  have h0 := hx 0 (by omega)
  have h1 := hx 1 (by omega)
  rw [cells3'] at h0 h1
  simp [Value.cells] at h0 h1
  rw [List.getElem?_eq_getElem (by omega)] at h0 h1
  obtain ⟨i0, e0, _, _⟩ := DataW.trod_int Try.underlying3 h0
  obtain ⟨i1, e1, _, _⟩ := DataW.trod_int Try.underlying3 h1
  simp at e0 e1
  subst e0 e1
  exact ⟨i0, i1, rfl⟩
end
end Go.Abs
