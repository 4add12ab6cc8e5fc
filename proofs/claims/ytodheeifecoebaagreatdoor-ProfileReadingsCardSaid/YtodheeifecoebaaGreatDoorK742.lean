import Derived.Test.YtodheeifecoebaaGreatDoorK41x
import Derived.Test.YtodheeifecoebaaGreatDoorAbsL
import Derived.Test.YtodheeifecoebaaGreatDoorRows
import Derived.Deep.Fields23
set_option linter.all false
set_option linter.unusedVariables false
set_option linter.unusedSimpArgs false
set_option linter.unusedSectionVars false
namespace Go.Abs
open Go.ChangeShapes Go.WideShapes Go.RowKit Go.Proofs
theorem glw_big {W : World} (hG : GlW W) {b off : Nat} {x y : Int} (h0 : W.cell? ⟨b, off, none⟩ = some (.int .i64 x)) (h1 : W.cell? ⟨b, off + 1, none⟩ = some (.int .i64 y)) : 4 ≤ b := by
  rcases Nat.lt_or_ge b 4 with hb | hb
  · exfalso
    have key : ∀ p ∈ globs, p.1 = b → False := fun p hp e => by
      obtain ⟨c, t, f, h, hc⟩ := hG p hp
      rw [e] at h
      simp only [World.cell?, h] at h0 h1
      simp only [globs, List.mem_cons, List.not_mem_nil, or_false] at hp
      rcases hp with rfl | rfl | rfl | rfl
      · obtain ⟨m, rfl⟩ := hc
        simp at h1
      · obtain ⟨u, v, rfl⟩ := hc
        cases off with
        | zero => simp at h0
        | succ n => simp at h0
      · obtain ⟨u, v, rfl⟩ := hc
        cases off with
        | zero => simp at h0
        | succ n => simp at h0
      · dsimp only at hc
        subst hc
        simp only [List.getElem?_toArray, List.getElem?_map] at h0
        cases h2 : Lib.pow10Tab[off]? with
        | none => rw [h2] at h0; simp at h0
        | some z => rw [h2] at h0; simp at h0
    rcases (by omega : b = 0 ∨ b = 1 ∨ b = 2 ∨ b = 3) with rfl | rfl | rfl | rfl
    · exact key (0, _) (.head _) rfl
    · exact key (1, _) (.tail _ (.head _)) rfl
    · exact key (2, _) (.tail _ (.tail _ (.head _))) rfl
    · exact key (3, _) (.tail _ (.tail _ (.tail _ (.head _)))) rfl
  · exact hb
theorem trod_struct3 {H : Type} {enc : TypeId × Value → H} {P : Program} {w : World} {t : TypeId} {f0 f1 f2 : Field} {b : Nat} {spare : Nat → Bool} {held : Bool} {fuel : Nat} {cs : List Value} {x : DataW H × List MemPlace} (ht : P.underlying t = some (.struct #[f0, f1, f2])) (h : DataW.trod enc P w b spare held fuel t cs = some x) :
    ∃ y0 y1 y2 n, cs.length = P.cellsOf t ∧ DataW.trod enc P w b spare held n f0.type ((cs.drop f0.offset).take (P.cellsOf f0.type)) = some y0 ∧
      DataW.trod enc P w b spare held n f1.type ((cs.drop f1.offset).take (P.cellsOf f1.type)) = some y1 ∧ DataW.trod enc P w b spare held n f2.type ((cs.drop f2.offset).take (P.cellsOf f2.type)) = some y2 := by
  obtain ⟨xs, n, _, rfl, hl, hlen, hf⟩ := DataW.trod_struct ht h
  match xs, hlen with
  | [y0, y1, y2], _ => exact ⟨y0, y1, y2, n, hl, by simpa using hf 0 f0 rfl, by simpa using hf 1 f1 rfl, by simpa using hf 2 f2 rfl⟩
section
variable {H : Type} {enc : TypeId × Value → H} {w : World} {base : Nat}
theorem cells3' : Tryz.prog.cellsOf 3 = 1 := by kernel_rfl
theorem cells24' : Tryz.prog.cellsOf 24 = 2 := by kernel_rfl
theorem cells26' : Tryz.prog.cellsOf 26 = 4 := by kernel_rfl
set_option maxRecDepth 100000 in
theorem rdg_cells {b : Nat} {spare : Nat → Bool} {held : Bool} {fuel : Nat} {cs : List Value} {y : DataW H × List MemPlace} (h : DataW.trod enc Tryz.prog w b spare held fuel 26 cs = some y) : ∃ r : Rd, cs = [.int .i64 r.a, .int .i64 r.b, .int .i64 r.lo, .int .i64 r.hi] := by
  obtain ⟨y0, y1, y2, n, hl, h0, h1, h2⟩ := trod_struct3 Tryz.underlying26 h
  rw [cells26'] at hl
  match cs, hl with
  | [c0, c1, c2, c3], _ =>
  rw [cells3'] at h0 h1
  rw [cells24'] at h2
  obtain ⟨z0, z1, m, _, _, h3, h4⟩ := trod_struct2 Tryz.underlying24 h2
  rw [cells3'] at h3 h4
  obtain ⟨i0, e0, _, _⟩ := DataW.trod_int Tryz.underlying3 h0
  obtain ⟨i1, e1, _, _⟩ := DataW.trod_int Tryz.underlying3 h1
  obtain ⟨i2, e2, _, _⟩ := DataW.trod_int Tryz.underlying3 h3
  obtain ⟨i3, e3, _, _⟩ := DataW.trod_int Tryz.underlying3 h4
  simp at e0 e1 e2 e3
  subst e0 e1 e2 e3
  exact ⟨⟨i0, i1, i2, i3⟩, rfl⟩
theorem rowsAt_rd {C : Ctx} {b : Nat} : ∀ (l : List Rd) (off : Nat), (∀ i, i < l.length → C.w.cell? ⟨b, off + 4 * i, none⟩ = some (.int .i64 (l.getD i rd0).a) ∧ C.w.cell? ⟨b, off + 4 * i + 1, none⟩ = some (.int .i64 (l.getD i rd0).b) ∧ C.w.cell? ⟨b, off + 4 * i + 2, none⟩ = some (.int .i64 (l.getD i rd0).lo) ∧ C.w.cell? ⟨b, off + 4 * i + 3, none⟩ = some (.int .i64 (l.getD i rd0).hi)) → RowsAt C b off 4 (rows4 l)
  | [], _, _ => trivial
  | x :: r, off, h => by
    obtain ⟨h0, h1, h2, h3⟩ := h 0 (by simp)
    refine ⟨rfl, ⟨⟨_, h0, rfl, rfl, rfl⟩, ⟨_, h1, rfl, rfl, rfl⟩, ⟨_, h2, rfl, rfl, rfl⟩, ⟨_, h3, rfl, rfl, rfl⟩, trivial⟩, rowsAt_rd r (off + 4) fun i hi => ?_⟩
    have := h (i + 1) (by simpa using hi)
    rw [show off + 4 + 4 * i = off + 4 * (i + 1) by omega]
    simpa using this
set_option maxRecDepth 100000 in
theorem open_rdgs (hG : GlW w) {v : Value} {d : DataW H} {ps : List MemPlace} (hval : Value.okWide Tryz.prog w .any base 22 v) (h : DataW.Trod enc Tryz.prog w 0 (fun _ => true) true 22 v d ps) : ∃ (nil : Bool) (l : List Rd), Conc (loneG w) (rdgs nil l) v := by
  obtain ⟨a, len, cap, rfl⟩ := okWide_slice Tryz.underlying22 hval
  obtain ⟨fuel, hf⟩ := h
  rcases DataW.trod_slice Tryz.underlying22 hf with ⟨h1, _⟩ | ⟨a', len', cap', elems, rest, n, _, h1, _, _, hlc, hcm, hlen, hel, _, _⟩
  · simp only [Value.cells] at h1
    refine ⟨true, [], ?_⟩
    simp only [Conc]
    left
    exact ⟨trivial, rfl, by simpa using h1⟩
  · simp [Value.cells] at h1
    obtain ⟨rfl, rfl, rfl⟩ := h1
    have hok : w.has Tryz.prog .any base a' 26 cap := by
      unfold Value.okWide Cell.okWide Cell.ok at hval
      rw [Tryz.underlying22] at hval
      exact hval.2.2
    obtain ⟨_, hsp, row, cells, hsh, _⟩ := hok
    obtain ⟨b, off, sp⟩ := a'
    dsimp only at hsp hsh
    subst hsp
    have hcells : IsCells w b := by
      unfold World.shape? at hsh
      split at hsh
      · rename_i c el f hb; exact ⟨c, el, f, hb⟩
      · simp at hsh
    have each : ∀ i, i < len → ∃ r : Rd, ∀ j, j < 4 → w.cell? ((Addr.add ⟨b, off, none⟩ (i * 4)).add j) = [Value.int .i64 r.a, .int .i64 r.b, .int .i64 r.lo, .int .i64 r.hi][j]? := by
      intro i hi
      have h2 := hel i hi
      have h3 : elems[i]? ≠ none := by rw [List.getElem?_eq_some_iff.2 ⟨by omega, rfl⟩]; simp
      rw [cells26'] at h2
      cases hc : w.cells? 0 (Addr.add ⟨b, off, none⟩ (i * 4)) 4 with
      | none => rw [hc] at h2; exact (h3 h2.symm).elim
      | some cs =>
        rw [hc] at h2
        cases ht : DataW.trod enc Tryz.prog w 0 (fun _ => true) true n 26 cs with
        | none => simp only [Option.bind_some, ht] at h2; exact (h3 h2.symm).elim
        | some y =>
          obtain ⟨r, rfl⟩ := rdg_cells ht
          refine ⟨r, fun j hj => ?_⟩
          have := (World.cells?_some hc).2.2 j hj
          exact this
    have hlist : ∀ n, n ≤ len → ∃ l : List Rd, l.length = n ∧ ∀ i, i < n → ∀ j, j < 4 → w.cell? ⟨b, off + 4 * i + j, none⟩ = [Value.int .i64 (l.getD i rd0).a, .int .i64 (l.getD i rd0).b, .int .i64 (l.getD i rd0).lo, .int .i64 (l.getD i rd0).hi][j]? := by
      intro n
      induction n with
      | zero => intro _; exact ⟨[], rfl, fun i hi => by omega⟩
      | succ n ih =>
        intro hn
        obtain ⟨l, h4, h5⟩ := ih (by omega)
        obtain ⟨r, h6⟩ := each n (by omega)
        refine ⟨l ++ [r], by simp [h4], fun i hi j hj => ?_⟩
        by_cases hin : i < n
        · have e : (l ++ [r]).getD i rd0 = l.getD i rd0 := by
            rw [List.getD_eq_getElem?_getD, List.getElem?_append_left (by omega), ← List.getD_eq_getElem?_getD]
          rw [e]; exact h5 i hin j hj
        · have : i = n := by omega
          subst this
          have e : (l ++ [r]).getD i rd0 = r := by
            rw [List.getD_eq_getElem?_getD, List.getElem?_append_right (by omega), h4]; simp
          rw [e]
          have := h6 j hj
          have e2 : (Addr.add ⟨b, off, none⟩ (i * 4)).add j = ⟨b, off + 4 * i + j, none⟩ := by
            have e3 : ∀ o n : Nat, Addr.add ⟨b, o, none⟩ n = ⟨b, o + n, none⟩ := fun o n => by unfold Addr.add; split <;> simp_all
            rw [e3, e3, Nat.mul_comm]
          rwa [e2] at this
    obtain ⟨l, hl, hl2⟩ := hlist len (Nat.le_refl _)
    have hbig : 0 < len → 4 ≤ b := fun hp => by
      have h00 := hl2 0 (by omega) 0 (by omega)
      have h01 := hl2 0 (by omega) 1 (by omega)
      simp only [Nat.mul_zero, Nat.add_zero, List.getElem?_cons_zero, List.getElem?_cons_succ] at h00 h01
      exact glw_big hG h00 h01
    refine ⟨false, l, ?_⟩
    simp only [Conc]
    right; left
    refine ⟨trivial, b, off, cap, ?_, ?_, fun hne => ⟨loneG_bad (hbig (Nat.pos_of_ne_zero (by simpa [rows4_len, hl] using hne))), hcells⟩, rowsAt_rd _ _ fun i hi => ?_⟩
    · simp [rows4_len, hl]
    · simp [rows4_len, hl, hlc]
    · have := hl2 i (by omega)
      exact ⟨this 0 (by omega), this 1 (by omega), this 2 (by omega), this 3 (by omega)⟩
end
theorem cell_i64 {P : Program} {w : World} {base : Nat} {t : TypeId} {v : Value} (ht : P.underlying t = some (.int .i64)) (h : Cell.okWide P w .any base t v) : ∃ n, v = .int .i64 n ∧ -9223372036854775808 ≤ n ∧ n ≤ 9223372036854775807 := by
  unfold Cell.okWide Cell.ok at h
  rw [ht] at h
  cases v <;> simp at h
  case int k n =>
    obtain ⟨rfl, h⟩ := h
    exact ⟨n, rfl, h.1, h.2⟩
theorem cell_str {P : Program} {w : World} {base : Nat} {t : TypeId} {v : Value} (ht : P.underlying t = some .string) (h : Cell.okWide P w .any base t v) : ∃ s, v = .string s := by
  unfold Cell.okWide Cell.ok at h
  rw [ht] at h
  cases v <;> simp at h
  case string s => exact ⟨s, rfl⟩
set_option maxRecDepth 100000 in
theorem open_told {w : World} {base : Nat} {v : Value} (hval : Value.okWide Tryz.prog w .any base 30 v) : ∃ (m t : ByteArray) (r : Rd), (∀ n, n = r.a ∨ n = r.b ∨ n = r.lo ∨ n = r.hi → -9223372036854775808 ≤ n ∧ n ≤ 9223372036854775807) ∧ v = .agg #[.string m, .int .i64 r.a, .int .i64 r.b, .int .i64 r.lo, .int .i64 r.hi, .string t] := by
  unfold Value.okWide at hval
  rw [Tryz.underlying30] at hval
  obtain ⟨cs, rfl, hs, ts, hts, _, hall⟩ := hval
  have hct : Tryz.prog.cellTypes Tryz.prog.depth 30 = some [9, 3, 3, 3, 3, 9] := by kernel_rfl
  rw [hct] at hts
  obtain rfl := Option.some.inj hts
  rw [show Tryz.prog.cellsOf 30 = 6 by kernel_rfl] at hs
  obtain ⟨l⟩ := cs
  match l, hs with
  | [c0, c1, c2, c3, c4, c5], _ =>
  obtain ⟨u0, e0, h0⟩ := hall 0 c0 rfl
  obtain ⟨u1, e1, h1⟩ := hall 1 c1 rfl
  obtain ⟨u2, e2, h2⟩ := hall 2 c2 rfl
  obtain ⟨u3, e3, h3⟩ := hall 3 c3 rfl
  obtain ⟨u4, e4, h4⟩ := hall 4 c4 rfl
  obtain ⟨u5, e5, h5⟩ := hall 5 c5 rfl
  obtain rfl : 9 = u0 := Option.some.inj e0
  obtain rfl : 3 = u1 := Option.some.inj e1
  obtain rfl : 3 = u2 := Option.some.inj e2
  obtain rfl : 3 = u3 := Option.some.inj e3
  obtain rfl : 3 = u4 := Option.some.inj e4
  obtain rfl : 9 = u5 := Option.some.inj e5
  obtain ⟨m, rfl⟩ := cell_str Tryz.underlying9 h0
  obtain ⟨a, rfl, ha⟩ := cell_i64 Tryz.underlying3 h1
  obtain ⟨b, rfl, hb⟩ := cell_i64 Tryz.underlying3 h2
  obtain ⟨c, rfl, hc⟩ := cell_i64 Tryz.underlying3 h3
  obtain ⟨d, rfl, hd⟩ := cell_i64 Tryz.underlying3 h4
  obtain ⟨t, rfl⟩ := cell_str Tryz.underlying9 h5
  refine ⟨m, t, ⟨a, b, c, d⟩, fun n hn => ?_, rfl⟩
  rcases hn with rfl | rfl | rfl | rfl <;> assumption
end Go.Abs
