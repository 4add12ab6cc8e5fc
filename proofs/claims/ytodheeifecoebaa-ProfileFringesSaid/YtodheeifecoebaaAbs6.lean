/- Slicing; operations that make or write memory. -/
import Derived.Test.YtodheeifecoebaaAbs5
set_option linter.all false
set_option linter.unusedVariables false
set_option linter.unusedSimpArgs false
set_option linter.unusedSectionVars false
namespace Go.Abs
open Go.RowKit
section
variable {P : Program} {C : Ctx} {s : Nat → AV} {a : Act} {o : Oper} {v : AV} {ws : List (Nat × Blk)} {fr : Nat}

theorem run_sizeOf {e : TypeId} {sz : Nat} {w : World} (hsz : sizeT P e = some sz) : (sizeOf e).run P w = .ok sz w := by
  unfold sizeT at hsz
  simp only [Option.map_eq_some_iff] at hsz
  obtain ⟨j, hj, h2⟩ := hsz
  simp [sizeOf, typeInfo, hj, h2]

theorem run_bound {v : Value} {y n : Nat} {code : BoundsCode} {w : World} {k : IntKind} {i : Int} (hv : v = .int k i) (h : 0 ≤ i ∧ i ≤ y) (hn : n = i.toNat) : (Instr.sliceBound v y code).run P w = .ok n w := by
  subst hv hn
  simp [Instr.sliceBound, asIntOf, h]

/-- the two bounds of 'x[lo:hi]' -/
theorem run_bounds2 (hS : Slots C s a) {lo hi : Option Operand} {isS : Bool} {len cap e b : Nat} {w : World} (hlc : len ≤ cap) (he : boundOf ((hi.map opd).map (Abs.ev s)) len len = some e) (hb : boundOf ((lo.map opd).map (Abs.ev s)) 0 e = some b) :
    (Instr.sliceBounds isS len cap (lo.map a.eval) (hi.map a.eval) none).run P w = .ok (b, e, cap) w ∧ b ≤ e ∧ e ≤ len := by
  have h1 : ∀ (code : BoundsCode), (match (hi.map a.eval) with | some v => Instr.sliceBound v cap code | none => pure len : Sem Nat).run P w = .ok e w ∧ e ≤ len := by
    intro code
    cases hi with
    | none => simp [boundOf] at he; subst he; simp
    | some h =>
      simp only [Option.map_some, boundOf] at he
      split at he
      · rename_i h'; simp at h'
      · rename_i k n hk
        split at he
        · rename_i hn
          simp at he
          simp at hk
          exact ⟨by simp [run_bound (P := P) (w := w) (code := code) (hS.lit hk) (by omega : 0 ≤ n ∧ n ≤ cap) he.symm], by omega⟩
        · simp at he
      · simp at he
  have h2 : ∀ (code : BoundsCode), (match (lo.map a.eval) with | some v => Instr.sliceBound v e code | none => pure 0 : Sem Nat).run P w = .ok b w ∧ b ≤ e := by
    intro code
    cases lo with
    | none => simp [boundOf] at hb; subst hb; simp
    | some h =>
      simp only [Option.map_some, boundOf] at hb
      split at hb
      · rename_i h'; simp at h'
      · rename_i k n hk
        split at hb
        · rename_i hn
          simp at hb
          simp at hk
          exact ⟨by simp [run_bound (P := P) (w := w) (code := code) (hS.lit hk) hn hb.symm], by omega⟩
        · simp at hb
      · simp at hb
  refine ⟨?_, (h2 .index).2, (h1 .index).2⟩
  have g1 := (h1 (if isS then .sliceAcap else .sliceAlen)).1
  have g2 := (h2 .sliceB).1
  unfold Instr.sliceBounds
  cases hh : hi.map a.eval with
  | none =>
    rw [hh] at g1
    simp only [Sem.run_pure, Result.ok.injEq, and_true] at g1
    subst g1
    cases hl : lo.map a.eval with
    | none => rw [hl] at g2; simp only [Sem.run_pure, Result.ok.injEq, and_true] at g2; subst g2; simp
    | some x => rw [hl] at g2; simp only at g2; simp [g2]
  | some y =>
    rw [hh] at g1
    simp only at g1
    cases hl : lo.map a.eval with
    | none => rw [hl] at g2; simp only [Sem.run_pure, Result.ok.injEq, and_true] at g2; subst g2; simp [g1]
    | some x => rw [hl] at g2; simp only at g2; simp [g1, g2]

theorem ok_slcS (hR : HeapRel C) (hS : Slots C s a) {t : TypeId} {x : Operand} {lo hi : Option Operand} (ho : o.op = .slice t x lo hi none) (ht : P.underlying t = some .string)
    (h : aop fr s (hget C.H) (.slcS (opd x) (lo.map opd) (hi.map opd)) = some (v, ws)) : OpOk P C a o v ws := by
  simp only [aop] at h
  split at h
  · rename_i b hc
    simp only [Option.bind_eq_some_iff, Option.map_eq_some_iff, Prod.mk.injEq] at h
    obtain ⟨e, he, l, hl, rfl, rfl⟩ := h
    have hb := (run_bounds2 (P := P) (w := C.w) (isS := false) hS (Nat.le_refl _) he hl).1
    refine OpOk.same hR (u := .string (b.extract l e)) ?_ (by simp [Conc])
    simp [execOp, ho, Instr.sliceAt, run_underlying ht, Instr.slice, hS.lit hc, hb]
  · simp at h

/-- 'x[lo:hi]' of a slice, and 'x[:0:0]' -/
theorem run_slc {t e : TypeId} {A : Option Addr} {len cap b n sz : Nat} {lo hi : Option Value} {w : World} (ht : P.underlying t = some (.slice e)) (hsz : sizeT P e = some sz) (hb : (Instr.sliceBounds true len cap lo hi none).run P w = .ok (b, n, cap) w) :
    (Instr.sliceAt t (.slice A len cap) lo hi none).run P w = .ok (.slice (if cap = b then A else A.map (·.add (b * sz))) (n - b) (cap - b)) w := by
  simp [Instr.sliceAt, run_underlying ht, Instr.slice, hb, run_sizeOf (w := w) hsz]
theorem run_slc0 {t e : TypeId} {A : Option Addr} {len cap sz : Nat} {hi mx : Value} {w : World} {k k' : IntKind} (ht : P.underlying t = some (.slice e)) (hsz : sizeT P e = some sz) (hh : hi = .int k 0) (hm : mx = .int k' 0) :
    (Instr.sliceAt t (.slice A len cap) none (some hi) (some mx)).run P w = .ok (.slice A 0 0) w := by
  subst hh hm
  simp [Instr.sliceAt, run_underlying ht, Instr.slice, Instr.sliceBounds, Instr.sliceBound, asIntOf, run_sizeOf (w := w) hsz]

theorem ok_slc (hR : HeapRel C) (hS : Slots C s a) {t e : TypeId} {x : Operand} {lo hi : Option Operand} {sz : Nat} (ho : o.op = .slice t x lo hi none) (ht : P.underlying t = some (.slice e)) (hsz : sizeT P e = some sz)
    (h : aop fr s (hget C.H) (.slc sz (opd x) (lo.map opd) (hi.map opd)) = some (v, ws)) : OpOk P C a o v ws := by
  have key : ∀ A len cap n b, a.eval x = .slice A len cap → (Instr.sliceBounds true len cap (lo.map a.eval) (hi.map a.eval) none).run P C.w = .ok (b, n, cap) C.w → (execOp a.eval o).run P C.w = .ok (.value (.slice (if cap = b then A else A.map (·.add (b * sz))) (n - b) (cap - b))) C.w := by
    intro A len cap n b hx hb
    simp [execOp, ho, hx, run_slc (P := P) ht hsz hb]
  have hx := hS.ev x
  simp only [aop] at h
  split at h
  · rename_i nil z els hc
    rw [hc] at hx
    simp only [Conc] at hx
    split at h
    · rename_i n hn
      simp only [Option.bind_eq_some_iff] at h
      obtain ⟨b, hb, h⟩ := h
      split at h
      · rename_i hok
        simp only [Option.some.injEq, Prod.mk.injEq] at h
        obtain ⟨rfl, rfl⟩ := h
        rcases hx with ⟨rfl, hl, hu⟩ | ⟨rfl, bl, base, cap, hu, hcap, hbad, hrows⟩
        · have he0 : els = [] := List.eq_nil_of_length_eq_zero hl
          subst he0
          obtain ⟨hrun, h1, h2⟩ := run_bounds2 (P := P) (w := C.w) (isS := true) (cap := 0) hS (by simp) hn hb
          simp at h2
          subst h2
          obtain rfl : b = 0 := by omega
          have := key _ _ _ _ _ hu hrun
          exact OpOk.same hR this (by simp [Conc])
        · obtain ⟨hrun, h1, h2⟩ := run_bounds2 (P := P) (w := C.w) (isS := true) hS hcap hn hb
          have hz : z = sz := by simpa [szOk] using hok
          subst hz
          refine OpOk.same hR (key _ _ _ _ _ hu hrun) ?_
          simp only [Conc]
          refine .inr ⟨by simp, ?_⟩
          have hlen : ((els.take n).drop b).length = n - b := by simp; omega
          by_cases hcb : cap = b
          · rw [if_pos hcb]
            have : (els.take n).drop b = [] := List.eq_nil_of_length_eq_zero (by rw [hlen]; omega)
            rw [this]
            exact ⟨bl, base, cap - b, by simp; omega, by simp, fun h => by simp at h, trivial⟩
          · rw [if_neg hcb]
            refine ⟨bl, base + b * z, cap - b, ?_, by omega, fun hne => hbad (by omega), (hrows.take n).drop b⟩
            rw [hlen]
            simp [add_none]
      · simp at h
    · simp at h
  · rename_i id i len hc
    rw [hc] at hx
    split at h
    · rename_i own nil z els hl
      simp only [Conc, hget_cells hl] at hx
      split at h
      · rename_i n hn
        simp only [Option.bind_eq_some_iff] at h
        obtain ⟨b, hb, h⟩ := h
        split at h
        · rename_i hok
          simp only [Option.some.injEq, Prod.mk.injEq] at h
          obtain ⟨rfl, rfl⟩ := h
          rcases hx with ⟨rfl, hl0, rfl, rfl, hu⟩ | ⟨rfl, rfl, hi', ad, ao, hu⟩ | ⟨rfl, bl, base, cap, c, e', f, hm, hblk, hu, h3, h4, h5⟩
          · obtain ⟨hrun, h1, h2⟩ := run_bounds2 (P := P) (w := C.w) (isS := true) (cap := 0) hS (by simp) hn hb
            obtain rfl : n = 0 := by omega
            obtain rfl : b = 0 := by omega
            refine OpOk.same hR (key _ _ _ _ _ hu hrun) ?_
            simp only [Conc, hget_cells hl]
            exact .inl ⟨by simp, hl0, by simp, by simp, by simp⟩
          · obtain ⟨hrun, h1, h2⟩ := run_bounds2 (P := P) (w := C.w) (isS := true) (cap := 0) hS (by simp) hn hb
            obtain rfl : n = 0 := by omega
            obtain rfl : b = 0 := by omega
            refine OpOk.same hR (key _ _ _ _ _ hu hrun) ?_
            simp only [Conc, hget_cells hl]
            exact .inr (.inl ⟨by simp, by simp, by simpa using hi', ad, ao, by simp⟩)
          · obtain ⟨hrun, h1, h2⟩ := run_bounds2 (P := P) (w := C.w) (isS := true) hS h4 hn hb
            have hz : z = sz := by simpa [szOk] using hok
            subst hz
            refine OpOk.same hR (key _ _ _ _ _ hu hrun) ?_
            simp only [Conc, hget_cells hl]
            by_cases hcb : cap = b
            · rw [if_pos hcb]
              exact .inr (.inl ⟨by simp, by omega, by omega, bl, base + i * z, by rw [hcb]; simp; omega⟩)
            · rw [if_neg hcb]
              refine .inr (.inr ⟨by simp, bl, base, cap - b, c, e', f, hm, hblk, ?_, by omega, by omega, ?_⟩)
              · simp [add_none, Nat.add_mul, Nat.add_assoc]
              · rw [show i + b + (cap - b) = i + cap by omega]; exact h5
        · simp at h
      · simp at h
    · simp at h
  · rename_i hc
    rw [hc] at hx
    simp only [Conc] at hx
    obtain ⟨ad, ao, hu⟩ := hx
    split at h
    · rename_i n b hn hb
      simp only [Option.some.injEq, Prod.mk.injEq] at h
      obtain ⟨rfl, rfl⟩ := h
      have hn0 : n = 0 := by
        have := (run_bounds2 (P := P) (w := C.w) (isS := true) (lo := none) (e := n) (b := 0) hS (Nat.le_refl 0) hn (by simp [boundOf])).2.2
        omega
      subst hn0
      obtain ⟨hrun, h1, h2⟩ := run_bounds2 (P := P) (w := C.w) (isS := true) hS (Nat.le_refl 0) hn hb
      obtain rfl : b = 0 := by omega
      exact OpOk.same hR (key _ _ _ _ _ hu hrun) (by simp only [Conc]; exact ⟨ad, ao, by simp⟩)
    · simp at h
  · simp at h

theorem ok_slc0 (hR : HeapRel C) (hS : Slots C s a) {t e : TypeId} {x h0 m0 : Operand} {sz : Nat} (ho : o.op = .slice t x none (some h0) (some m0)) (ht : P.underlying t = some (.slice e)) (hsz : sizeT P e = some sz)
    (h : aop fr s (hget C.H) (.slc0 (opd x) (opd h0) (opd m0)) = some (v, ws)) : OpOk P C a o v ws := by
  simp only [aop] at h
  split at h
  · rename_i k k' e1 e2
    have key : ∀ A len cap, a.eval x = .slice A len cap → (execOp a.eval o).run P C.w = .ok (.value (.slice A 0 0)) C.w := by
      intro A len cap hx
      simp [execOp, ho, hx, run_slc0 (P := P) (w := C.w) (A := A) (len := len) (cap := cap) ht hsz (hS.lit e1) (hS.lit e2)]
    have hx := hS.ev x
    split at h
    · rename_i nil z els hc
      simp only [Option.some.injEq, Prod.mk.injEq] at h
      obtain ⟨rfl, rfl⟩ := h
      rw [hc] at hx
      simp only [Conc] at hx
      rcases hx with ⟨rfl, hl, hu⟩ | ⟨rfl, bl, base, cap, hu, _⟩
      · exact OpOk.same hR (key _ _ _ hu) (by simp [Conc])
      · exact OpOk.same hR (key _ _ _ hu) (by simp [Conc])
    · rename_i id i len hc
      rw [hc] at hx
      split at h
      · rename_i own nil z els hl
        simp only [Option.some.injEq, Prod.mk.injEq] at h
        obtain ⟨rfl, rfl⟩ := h
        simp only [Conc, hget_cells hl] at hx
        rcases hx with ⟨rfl, hl0, rfl, rfl, hu⟩ | ⟨rfl, rfl, hi', ad, ao, hu⟩ | ⟨rfl, bl, base, cap, c, e', f, hm, hblk, hu, h3, h4, h5⟩
        · exact OpOk.same hR (key _ _ _ hu) (by simp [Conc])
        · exact OpOk.same hR (key _ _ _ hu) (by simp [Conc])
        · exact OpOk.same hR (key _ _ _ hu) (by simp [Conc])
      · simp at h
    · rename_i hc
      simp only [Option.some.injEq, Prod.mk.injEq] at h
      obtain ⟨rfl, rfl⟩ := h
      rw [hc] at hx
      simp only [Conc] at hx
      obtain ⟨ad, ao, hu⟩ := hx
      exact OpOk.same hR (key _ _ _ hu) (by simp [Conc])
    · simp at h
  · simp at h
end
end Go.Abs
