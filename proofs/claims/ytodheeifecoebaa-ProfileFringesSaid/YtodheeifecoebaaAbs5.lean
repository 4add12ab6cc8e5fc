/- Operations that read memory, or make addresses. -/
import Derived.Test.YtodheeifecoebaaAbs4
set_option linter.all false
set_option linter.unusedVariables false
set_option linter.unusedSimpArgs false
set_option linter.unusedSectionVars false
namespace Go.Abs
open Go.RowKit
section
variable {P : Program} {C : Ctx} {s : Nat → AV} {a : Act} {o : Oper} {v : AV} {ws : List (Nat × Blk)} {fr : Nat}

theorem add_none (b o j : Nat) : (⟨b, o, none⟩ : Addr).add j = ⟨b, o + j, none⟩ := by
  unfold Addr.add; split
  · rename_i h; subst h; rfl
  · rfl

theorem CellsAt.vals : ∀ {cs : List AV} {b off : Nat}, CellsAt C b off cs → ∃ us, ConcL C cs us ∧ (∀ (j : Nat) u, us[j]? = some u → C.w.cell? ⟨b, off + j, none⟩ = some u) ∧ (∀ u ∈ us, u.oneCell' = true) ∧ (∀ c ∈ cs, isOne c = true)
  | [], b, off, _ => ⟨[], rfl, fun j u h => by simp at h, fun u h => by simp at h, fun u h => by simp at h⟩
  | c :: cs, b, off, h => by
    simp only [CellsAt] at h
    obtain ⟨⟨u, hu, h1, h2, h3⟩, h4⟩ := h
    obtain ⟨us, hl, hc, ho, ho'⟩ := CellsAt.vals h4
    refine ⟨u :: us, by simp only [ConcL]; exact ⟨u, us, rfl, h3, hl⟩, fun j x hx => ?_, fun x hx => ?_, fun x hx => ?_⟩
    · cases j with
      | zero => simp at hx; subst hx; exact hu
      | succ j => simp at hx; have := hc j x hx; rw [show off + 1 + j = off + (j + 1) by omega] at this; exact this
    · cases hx with
      | head => exact h1
      | tail _ h => exact ho x h
    · cases hx with
      | head => exact h2
      | tail _ h => exact ho' x h
theorem CellsAt.drop : ∀ {cs : List AV} {b off : Nat}, CellsAt C b off cs → ∀ i, CellsAt C b (off + i) (cs.drop i)
  | [], b, off, _, i => by simp [CellsAt]
  | c :: cs, b, off, h, 0 => h
  | c :: cs, b, off, h, i + 1 => by
    simp only [CellsAt] at h
    have := CellsAt.drop h.2 i
    rw [show off + (i + 1) = off + 1 + i by omega]
    simpa using this
theorem CellsAt.take : ∀ {cs : List AV} {b off : Nat}, CellsAt C b off cs → ∀ i, CellsAt C b off (cs.take i)
  | [], b, off, _, i => by simp [CellsAt]
  | c :: cs, b, off, h, 0 => by simp [CellsAt]
  | c :: cs, b, off, h, i + 1 => by
    simp only [CellsAt] at h
    simp only [List.take_succ_cons, CellsAt]
    exact ⟨h.1, CellsAt.take h.2 i⟩
theorem CellsAt.append : ∀ {cs ds : List AV} {b off : Nat}, CellsAt C b off cs → CellsAt C b (off + cs.length) ds → CellsAt C b off (cs ++ ds)
  | [], ds, b, off, _, h => by simpa using h
  | c :: cs, ds, b, off, h, k => by
    simp only [CellsAt] at h
    simp only [List.cons_append, CellsAt]
    exact ⟨h.1, CellsAt.append h.2 (by simp at k; rw [show off + 1 + cs.length = off + (cs.length + 1) by omega]; exact k)⟩
theorem CellsAt.of_vals : ∀ {cs : List AV} {us : List Value} {b off : Nat}, ConcL C cs us → (∀ (j : Nat) u, us[j]? = some u → C.w.cell? ⟨b, off + j, none⟩ = some u) → (∀ c ∈ cs, isOne c = true) → CellsAt C b off cs
  | [], _, _, _, _, _, _ => trivial
  | c :: cs, us, b, off, h, hc, h1 => by
    simp only [ConcL] at h
    obtain ⟨u, us', rfl, h2, h3⟩ := h
    simp only [CellsAt]
    refine ⟨⟨u, hc 0 u (by simp), Conc.one h2 (h1 c (by simp)), h1 c (by simp), h2⟩, CellsAt.of_vals h3 (fun j x hx => ?_) (fun c hc => h1 c (by simp [hc]))⟩
    rw [show off + 1 + j = off + (j + 1) by omega]
    exact hc (j + 1) x (by simpa using hx)
theorem RowsAt.get : ∀ {els : List (List AV)} {b base sz : Nat}, RowsAt C b base sz els → ∀ {i : Nat} {r : List AV}, els[i]? = some r → r.length = sz ∧ CellsAt C b (base + i * sz) r
  | [], _, _, _, _, i, r, hr => by simp at hr
  | e :: els, b, base, sz, h, 0, r, hr => by
    simp only [RowsAt] at h
    simp at hr
    subst hr
    exact ⟨h.1, by simpa using h.2.1⟩
  | e :: els, b, base, sz, h, i + 1, r, hr => by
    simp only [RowsAt] at h
    simp at hr
    have := RowsAt.get h.2.2 hr
    rw [show base + (i + 1) * sz = base + sz + i * sz by rw [Nat.add_mul]; omega]
    exact this
theorem RowsAt.drop : ∀ {els : List (List AV)} {b base sz : Nat}, RowsAt C b base sz els → ∀ i, RowsAt C b (base + i * sz) sz (els.drop i)
  | [], _, _, _, _, i => by simp [RowsAt]
  | e :: els, b, base, sz, h, 0 => by simpa using h
  | e :: els, b, base, sz, h, i + 1 => by
    simp only [RowsAt] at h
    have := RowsAt.drop h.2.2 i
    rw [show base + (i + 1) * sz = base + sz + i * sz by rw [Nat.add_mul]; omega]
    simpa using this
theorem RowsAt.take : ∀ {els : List (List AV)} {b base sz : Nat}, RowsAt C b base sz els → ∀ i, RowsAt C b base sz (els.take i)
  | [], _, _, _, _, i => by simp [RowsAt]
  | e :: els, b, base, sz, h, 0 => by simp [RowsAt]
  | e :: els, b, base, sz, h, i + 1 => by
    simp only [RowsAt] at h
    simp only [List.take_succ_cons, RowsAt]
    exact ⟨h.1, h.2.1, RowsAt.take h.2.2 i⟩
theorem RowsAt.append : ∀ {els es : List (List AV)} {b base sz : Nat}, RowsAt C b base sz els → RowsAt C b (base + els.length * sz) sz es → RowsAt C b base sz (els ++ es)
  | [], es, b, base, sz, _, h => by simpa using h
  | e :: els, es, b, base, sz, h, k => by
    simp only [RowsAt] at h
    simp only [List.cons_append, RowsAt]
    exact ⟨h.1, h.2.1, RowsAt.append h.2.2 (by rw [show base + sz + els.length * sz = base + (e :: els).length * sz by simp [Nat.add_mul]; omega]; exact k)⟩
theorem RowsAt.of : ∀ {els : List (List AV)} {b base sz : Nat}, (∀ (i : Nat) r, els[i]? = some r → r.length = sz ∧ CellsAt C b (base + i * sz) r) → RowsAt C b base sz els
  | [], _, _, _, _ => trivial
  | e :: els, b, base, sz, h => by
    simp only [RowsAt]
    have h0 := h 0 e (by simp)
    refine ⟨h0.1, by simpa using h0.2, RowsAt.of fun i r hr => ?_⟩
    have := h (i + 1) r (by simpa using hr)
    rw [show base + sz + i * sz = base + (i + 1) * sz by rw [Nat.add_mul]; omega]
    exact this
/-- all cells of rows, one behind the other -/
theorem RowsAt.flat : ∀ {els : List (List AV)} {b base sz : Nat}, RowsAt C b base sz els → CellsAt C b base els.flatten ∧ els.flatten.length = els.length * sz
  | [], _, _, _, _ => by simp [CellsAt]
  | e :: els, b, base, sz, h => by
    simp only [RowsAt] at h
    have := RowsAt.flat h.2.2
    refine ⟨?_, by simp [this.2, h.1, Nat.add_mul]; omega⟩
    rw [List.flatten_cons]
    exact CellsAt.append h.2.1 (by rw [h.1]; exact this.1)

theorem run_loadVar_cells {t : TypeId} {n b off : Nat} {isAgg : Bool} {w : World} {us : List Value} (h1 : isAggT P t = some isAgg) (h2 : sizeT P t = some n) (hn : us.length = n) (hb : isAgg = false → n = 1) (hc : ∀ (j : Nat) u, us[j]? = some u → w.cell? ⟨b, off + j, none⟩ = some u) :
    ∃ u, (loadVar t ⟨b, off, none⟩).run P w = .ok u w ∧ valOf isAgg us u := by
  unfold isAggT at h1
  unfold sizeT at h2
  simp only [Option.map_eq_some_iff] at h1 h2
  obtain ⟨d, hd, h1⟩ := h1
  obtain ⟨i, hi, h2⟩ := h2
  have hs : (Go.isAgg t).run P w = .ok isAgg w := by
    simp only [Go.isAgg, Sem.run_bind, run_underlying hd, Result.andThen_ok]
    rw [← h1]
    cases d <;> rfl
  cases isAgg with
  | true =>
    refine ⟨.agg us.toArray, ?_, .inl ⟨rfl, rfl⟩⟩
    have hl := run_loadCells_list (P := P) (w := w) (a := ⟨b, off, none⟩) us (fun j u hu => by rw [add_none]; exact hc j u hu)
    rw [hn] at hl
    simp [loadVar, hs, sizeOf, typeInfo, hi, h2, hl]
  | false =>
    have := hb rfl
    subst this
    match us, hn with
    | [u], _ =>
      refine ⟨u, ?_, .inr ⟨rfl, rfl⟩⟩
      have := hc 0 u (by simp)
      simp at this
      simp [loadVar, hs, this]

theorem value_len {n off : Nat} {isAgg : Bool} {cs : List AV} {v : AV} (h : value n isAgg (cut cs off n) = some v) : (cut cs off n).length = n ∧ (isAgg = false → n = 1) := by
  unfold value at h
  split at h
  · rename_i hn
    refine ⟨hn, fun hf => ?_⟩
    subst hf
    simp at h
    split at h
    · rename_i hc; rw [hc] at hn; simpa using hn.symm
    · simp at h
  · simp at h

theorem ok_load_row {t : TypeId} {x : Operand} {n b base off : Nat} {isAgg : Bool} {row : List AV} (hR : HeapRel C) (ho : o.op = .load t x) (h1 : isAggT P t = some isAgg) (h2 : sizeT P t = some n)
    (hx : a.eval x = .pointer (some ⟨b, base + off, none⟩)) (hc : CellsAt C b base row) (hv : value n isAgg (cut row off n) = some v) : OpOk P C a o v [] := by
  obtain ⟨hn, hb⟩ := value_len hv
  have hc' : CellsAt C b (base + off) (cut row off n) := (hc.drop off).take n
  obtain ⟨us, hl, hcell, _⟩ := hc'.vals
  obtain ⟨u, hu, hvo⟩ := run_loadVar_cells (P := P) (w := C.w) h1 h2 (by rw [hl.length, hn]) hb hcell
  refine OpOk.same hR (u := u) (by simp [execOp, ho, hx, Instr.loadAt, Instr.sureAddr, hu]) ?_
  rcases hvo with ⟨rfl, rfl⟩ | ⟨rfl, rfl⟩
  · unfold value at hv
    simp only [hn, if_true, Option.some.injEq] at hv
    subst hv
    exact conc_mkAgg hl
  · have h1 := hb rfl
    subst h1
    unfold value at hv
    simp only [hn, if_true, Bool.false_eq_true, if_false] at hv
    split at hv
    · rename_i c hcc
      simp only [Option.some.injEq] at hv
      subst hv
      rw [hcc] at hl
      simp only [ConcL] at hl
      obtain ⟨u', us', he, h3, h4⟩ := hl
      simp at he
      rw [he.1]
      exact h3
    · simp at hv

theorem getD_some {α : Type} {l : List α} {i : Nat} {d : α} (h : i < l.length) : l[i]? = some (l.getD i d) := by simp [List.getD, h]

theorem ok_load (hR : HeapRel C) (hS : Slots C s a) {t : TypeId} {x : Operand} {n : Nat} {isAgg : Bool} (ho : o.op = .load t x) (h1 : isAggT P t = some isAgg) (h2 : sizeT P t = some n)
    (h : aop fr s (hget C.H) (.load n isAgg (opd x)) = some (v, ws)) : OpOk P C a o v ws := by
  simp only [aop] at h
  have hx := hS.ev x
  split at h
  · rename_i sz els i off hc
    simp only [Option.map_eq_some_iff, Prod.mk.injEq] at h
    obtain ⟨r, hr, rfl, rfl⟩ := h
    rw [hc] at hx
    simp only [Conc] at hx
    obtain ⟨b, base, hu, hi, _, _, hrows⟩ := hx
    exact ok_load_row hR ho h1 h2 hu (hrows.get (getD_some hi)).2 hr
  · rename_i id i off hc
    split at h
    · rename_i own nil sz els hl
      simp only [Option.map_eq_some_iff, Prod.mk.injEq] at h
      obtain ⟨r, hr, rfl, rfl⟩ := h
      have hH := hget_cells hl
      rw [hc] at hx
      simp only [Conc, hH] at hx
      obtain ⟨b, base, hm, hu⟩ := hx
      rcases hR.blk id own nil sz els hH with ⟨hm', _⟩ | ⟨_, b', base', c, e, hm', _, _, hrows⟩
      · rw [hm] at hm'; simp at hm'
      · rw [hm] at hm'
        simp at hm'
        obtain ⟨rfl, rfl⟩ := hm'
        by_cases hi : i < els.length
        · exact ok_load_row hR ho h1 h2 hu (hrows.get (getD_some hi)).2 hr
        · have hn := value_len hr
          have : els.getD i [] = [] := by simp [List.getD, hi]
          rw [this] at hn hr
          have hn0 : n = 0 := by simpa [cut] using hn.1.symm
          subst hn0
          exact ok_load_row (row := []) (base := base + i * sz) hR ho h1 h2 hu trivial hr
    · simp at h
  · simp at h

theorem ok_faddr (hR : HeapRel C) (hS : Slots C s a) {t : TypeId} {x : Operand} {f : Nat} {fs : Array Field} {fd : Field} {n : Nat} (ho : o.op = .fieldAddr t x f) (ht : P.underlying t = some (.struct fs)) (hf : fs[f]? = some fd) (hn : sizeT P fd.type = some n) (hn0 : n ≠ 0)
    (h : aop fr s (hget C.H) (.faddr fd.offset (opd x)) = some (v, ws)) : OpOk P C a o v ws := by
  have hsz : (sizeOf fd.type).run P C.w = .ok n C.w := by
    unfold sizeT at hn
    simp only [Option.map_eq_some_iff] at hn
    obtain ⟨i, hi, h2⟩ := hn
    simp [sizeOf, typeInfo, hi, h2]
  have key : ∀ b off, a.eval x = .pointer (some ⟨b, off, none⟩) → (execOp a.eval o).run P C.w = .ok (.value (.pointer (some ⟨b, off + fd.offset, none⟩))) C.w := by
    intro b off hx
    simp [execOp, ho, hx, Instr.fieldAt, run_underlying ht, hf, Instr.sureAddr, fieldPlace, hsz, hn0, add_none]
  simp only [aop] at h
  have hx := hS.ev x
  split at h
  · rename_i id i off hc
    split at h
    · rename_i own nil sz els hl
      simp only [Option.some.injEq, Prod.mk.injEq] at h
      obtain ⟨rfl, rfl⟩ := h
      rw [hc] at hx
      simp only [Conc, hget_cells hl] at hx
      obtain ⟨b, base, hm, hu⟩ := hx
      exact OpOk.same hR (key _ _ hu) (by simp only [Conc, hget_cells hl]; exact ⟨b, base, hm, by simp [Nat.add_assoc]⟩)
    · simp at h
  · rename_i sz els i off hc
    simp only [Option.some.injEq, Prod.mk.injEq] at h
    obtain ⟨rfl, rfl⟩ := h
    rw [hc] at hx
    simp only [Conc] at hx
    obtain ⟨b, base, hu, h3⟩ := hx
    exact OpOk.same hR (key _ _ hu) (by simp only [Conc]; exact ⟨b, base, by simp [Nat.add_assoc], h3⟩)
  · simp at h

theorem ok_iaddrS (hR : HeapRel C) (hS : Slots C s a) {t e : TypeId} {x i : Operand} {sz : Nat} (ho : o.op = .indexAddr t x i) (ht : P.underlying t = some (.slice e)) (hsz : sizeT P e = some sz)
    (h : aop fr s (hget C.H) (.iaddrS sz (opd x) (opd i)) = some (v, ws)) : OpOk P C a o v ws := by
  have hse : (sizeOf e).run P C.w = .ok sz C.w := by
    unfold sizeT at hsz
    simp only [Option.map_eq_some_iff] at hsz
    obtain ⟨j, hj, h2⟩ := hsz
    simp [sizeOf, typeInfo, hj, h2]
  have key : ∀ b off len cap k n, a.eval x = .slice (some ⟨b, off, none⟩) len cap → a.eval i = .int k n → 0 ≤ n ∧ n < len → (execOp a.eval o).run P C.w = .ok (.value (.pointer (some ⟨b, off + n.toNat * sz, none⟩))) C.w := by
    intro b off len cap k n hx hi hn
    simp [execOp, ho, hx, hi, Instr.indexAt, asIntOf, run_underlying ht, hse, hn, add_none]
  simp only [aop] at h
  have hx := hS.ev x
  split at h
  · rename_i k n hi
    have hi' := hS.lit hi
    split at h
    · rename_i nil z els hc
      split at h
      · rename_i hn
        obtain ⟨h0, h1, rfl⟩ := hn
        simp only [Option.some.injEq, Prod.mk.injEq] at h
        obtain ⟨rfl, rfl⟩ := h
        rw [hc] at hx
        simp only [Conc] at hx
        rcases hx with ⟨_, hl, _⟩ | ⟨_, b, base, cap, hu, _, hbad, hrows⟩
        · omega
        · have hlt : els.length ≠ 0 := by omega
          exact OpOk.same hR (key _ _ _ _ _ _ hu hi' ⟨h0, h1⟩) (by simp only [Conc]; exact ⟨b, base, by simp, by omega, (hbad hlt).1, (hbad hlt).2, hrows⟩)
      · simp at h
    · rename_i id j len hc
      split at h
      · rename_i own nil z els hl
        split at h
        · rename_i hn
          obtain ⟨h0, h1, rfl⟩ := hn
          simp only [Option.some.injEq, Prod.mk.injEq] at h
          obtain ⟨rfl, rfl⟩ := h
          rw [hc] at hx
          simp only [Conc, hget_cells hl] at hx
          rcases hx with ⟨_, _, _, hl0, _⟩ | ⟨_, hl0, _⟩ | ⟨_, b, base, cap, c, e', f, hm, _, hu, _⟩
          · omega
          · omega
          · refine OpOk.same hR (key _ _ _ _ _ _ hu hi' ⟨h0, h1⟩) ?_
            simp only [Conc, hget_cells hl]
            exact ⟨b, base, hm, by rw [Nat.add_mul]; simp [Nat.add_assoc]⟩
        · simp at h
      · simp at h
    · simp at h
  · simp at h

theorem ok_iaddrA (hR : HeapRel C) (hS : Slots C s a) {t e : TypeId} {x i : Operand} {len sz : Nat} (ho : o.op = .indexAddr t x i) (ht : P.underlying t = some (.array len e)) (hsz : sizeT P e = some sz)
    (h : aop fr s (hget C.H) (.iaddrA len sz (opd x) (opd i)) = some (v, ws)) : OpOk P C a o v ws := by
  have hse : (sizeOf e).run P C.w = .ok sz C.w := by
    unfold sizeT at hsz
    simp only [Option.map_eq_some_iff] at hsz
    obtain ⟨j, hj, h2⟩ := hsz
    simp [sizeOf, typeInfo, hj, h2]
  have key : ∀ b off k n, a.eval x = .pointer (some ⟨b, off, none⟩) → a.eval i = .int k n → 0 ≤ n ∧ n < len → (execOp a.eval o).run P C.w = .ok (.value (.pointer (some ⟨b, off + n.toNat * sz, none⟩))) C.w := by
    intro b off k n hx hi hn
    simp [execOp, ho, hx, hi, Instr.indexAt, asIntOf, run_underlying ht, hse, hn, add_none, Instr.sureAddr]
  simp only [aop] at h
  have hx := hS.ev x
  split at h
  · rename_i k n hi
    have hi' := hS.lit hi
    split at h
    · rename_i hn
      split at h
      · rename_i id j off hc
        split at h
        · rename_i own nil z els hl
          simp only [Option.some.injEq, Prod.mk.injEq] at h
          obtain ⟨rfl, rfl⟩ := h
          rw [hc] at hx
          simp only [Conc, hget_cells hl] at hx
          obtain ⟨b, base, hm, hu⟩ := hx
          exact OpOk.same hR (key _ _ _ _ hu hi' hn) (by simp only [Conc, hget_cells hl]; exact ⟨b, base, hm, by simp [Nat.add_assoc]⟩)
        · simp at h
      · rename_i z els j off hc
        simp only [Option.some.injEq, Prod.mk.injEq] at h
        obtain ⟨rfl, rfl⟩ := h
        rw [hc] at hx
        simp only [Conc] at hx
        obtain ⟨b, base, hu, h3⟩ := hx
        exact OpOk.same hR (key _ _ _ _ hu hi' hn) (by simp only [Conc]; exact ⟨b, base, by simp [Nat.add_assoc], h3⟩)
      · simp at h
    · simp at h
  · simp at h

theorem ok_len (hR : HeapRel C) (hS : Slots C s a) {x : Operand} {t e : TypeId} (ho : o.op = .call { callee := .builtin .len, args := #[x], argTypes := #[t] }) (he : P.underlying t = some (.slice e))
    (h : aop fr s (hget C.H) (.len (opd x)) = some (v, ws)) : OpOk P C a o v ws := by
  have key : ∀ A n c, a.eval x = .slice A n c → (execOp a.eval o).run P C.w = .ok (.value (.int .i64 n)) C.w := by
    intro A n c hx
    simp [execOp, ho, resolve, invoke, builtin, Builtin.len_, hx, run_underlying he, goInt]
  simp only [aop] at h
  have hx := hS.ev x
  · simp only [Option.map_eq_some_iff, Prod.mk.injEq] at h
    obtain ⟨n, hn, rfl, rfl⟩ := h
    unfold lenOf at hn
    split at hn
    · rename_i nil sz els hc
      cases hn
      rw [hc] at hx
      simp only [Conc] at hx
      rcases hx with ⟨_, hl, hu⟩ | ⟨_, b, base, cap, hu, _⟩
      · exact OpOk.same hR (key _ _ _ hu) (by simp [Conc, intV, hl])
      · exact OpOk.same hR (key _ _ _ hu) (by simp [Conc, intV])
    · rename_i hc
      cases hn
      rw [hc] at hx
      simp only [Conc] at hx
      obtain ⟨ad, ao, hu⟩ := hx
      exact OpOk.same hR (key _ _ _ hu) (by simp [Conc, intV])
    · rename_i id i len hc
      split at hn
      · rename_i own nil z els hl
        cases hn
        rw [hc] at hx
        simp only [Conc, hget_cells hl] at hx
        rcases hx with ⟨_, _, _, rfl, hu⟩ | ⟨_, rfl, _, ad, ao, hu⟩ | ⟨_, b, base, cap, c, e', f, hm, _, hu, _⟩
        · exact OpOk.same hR (key _ _ _ hu) (by simp [Conc, intV])
        · exact OpOk.same hR (key _ _ _ hu) (by simp [Conc, intV])
        · exact OpOk.same hR (key _ _ _ hu) (by simp [Conc, intV])
      · simp at hn
    · simp at hn
theorem ok_lenS (hR : HeapRel C) (hS : Slots C s a) {x : Operand} {t : TypeId} (ho : o.op = .call { callee := .builtin .len, args := #[x], argTypes := #[t] }) (ht : P.underlying t = some .string)
    (h : aop fr s (hget C.H) (.lenS (opd x)) = some (v, ws)) : OpOk P C a o v ws := by
  simp only [aop] at h
  split at h
  · rename_i b hc
    simp only [Option.some.injEq, Prod.mk.injEq] at h
    obtain ⟨rfl, rfl⟩ := h
    refine OpOk.same hR (u := .int .i64 b.size) ?_ (by simp [Conc, intV])
    simp [execOp, ho, resolve, invoke, builtin, Builtin.len_, hS.lit hc, run_underlying ht, goInt]
  · simp at h
end
end Go.Abs
