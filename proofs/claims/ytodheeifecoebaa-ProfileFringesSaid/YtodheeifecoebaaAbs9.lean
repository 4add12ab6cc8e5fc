/- store, make, append -/
import Derived.Test.YtodheeifecoebaaAbs8
set_option linter.all false
set_option linter.unusedVariables false
set_option linter.unusedSimpArgs false
set_option linter.unusedSectionVars false
namespace Go.Abs
open Go.RowKit
section
variable {P : Program} {C : Ctx} {s : Nat → AV} {a : Act} {o : Oper} {v : AV} {ws : List (Nat × Blk)} {fr : Nat}

theorem cell_of_block {w : World} {b i : Nat} {c : Array Value} {e : TypeId} {f : Nat × Nat} (h : w.heap[b]? = some (.cells c e f)) : w.cell? ⟨b, i, none⟩ = c[i]? := by
  unfold World.cell?; rw [h]; rfl
theorem frozen_of_block {w : World} {b i : Nat} {c : Array Value} {e : TypeId} (h : w.heap[b]? = some (.cells c e (0, 0))) : w.frozen? ⟨b, i, none⟩ = false := by
  unfold World.frozen?; rw [h]; simp

theorem getD_len {α : Type} {l : List α} {i : Nat} {d : α} (h : i < l.length) : l[i]? = some (l.getD i d) := getD_some h

theorem putCells_len {row cs : List AV} {off : Nat} (h : off + cs.length ≤ row.length) : (putCells row off cs).length = row.length := by
  unfold putCells
  rw [List.length_append, List.length_append, List.length_take, List.length_drop]; omega

/-- a row of the block is written, all else stays -/
theorem rows_written {C' : Ctx} (hs : Step C C') {b base sz : Nat} {els : List (List AV)} (hr : RowsAt C b base sz els) {i off : Nat} (hi : i < els.length) {cs : List AV} {us : List Value} (hl : ConcL C cs us) (h1 : ∀ x ∈ cs, isOne x = true) (hoff : off + cs.length ≤ sz)
    (hin : ∀ (j : Nat) u, us[j]? = some u → C'.w.cell? ⟨b, base + i * sz + off + j, none⟩ = some u)
    (hout : ∀ x, x < base + i * sz + off ∨ base + i * sz + off + us.length ≤ x → C'.w.cell? ⟨b, x, none⟩ = C.w.cell? ⟨b, x, none⟩) :
    RowsAt C' b base sz (els.set i (putCells (els.getD i []) off cs)) := by
  have hul := hl.length
  refine RowsAt.of fun k r hk => ?_
  by_cases hki : k = i
  · subst hki
    rw [List.getElem?_set_self (by simpa using hi)] at hk
    simp only [Option.some.injEq] at hk
    subst hk
    obtain ⟨hrl, hrc⟩ := hr.get (getD_some (d := []) hi)
    refine ⟨by rw [putCells_len (by omega)]; exact hrl, ?_⟩
    unfold putCells
    refine CellsAt.append (CellsAt.append ?_ ?_) ?_
    · refine CellsAt.keep hs _ _ _ (fun x hx1 hx2 => hout x (.inl ?_)) (hrc.take off)
      simp at hx2; omega
    · have e : base + k * sz + ((els.getD k []).take off).length = base + k * sz + off := by rw [List.length_take, hrl]; omega
      rw [e]
      exact CellsAt.of_vals (ConcL.mono hs cs us hl) hin h1
    · have e : base + k * sz + ((els.getD k []).take off ++ cs).length = base + k * sz + (off + cs.length) := by rw [List.length_append, List.length_take, hrl]; omega
      rw [e]
      exact CellsAt.keep hs _ _ _ (fun x hx1 hx2 => hout x (.inr (by omega))) (hrc.drop (off + cs.length))
  · rw [List.getElem?_set_ne (Ne.symm hki)] at hk
    obtain ⟨hrl, hrc⟩ := hr.get hk
    refine ⟨hrl, CellsAt.keep hs _ _ _ (fun x hx1 hx2 => hout x ?_) hrc⟩
    rw [hrl] at hx2
    rcases Nat.lt_or_gt_of_ne hki with h | h
    · left
      have : (k + 1) * sz ≤ i * sz := Nat.mul_le_mul_right sz h
      rw [Nat.add_mul] at this; omega
    · right
      have : (i + 1) * sz ≤ k * sz := Nat.mul_le_mul_right sz h
      rw [Nat.add_mul] at this; omega

theorem ok_store (hR : HeapRel C) (hS : Slots C s a) {t : TypeId} {x y : Operand} {n : Nat} (ho : o.op = .store t x y) (hn : sizeT P t = some n)
    (h : aop fr s (hget C.H) (.store n (opd x) (opd y)) = some (v, ws)) : OpOk P C a o v ws := by
  simp only [aop] at h
  have hx := hS.ev x
  split at h
  · rename_i id i off hc
    split at h
    · rename_i nil sz els hl
      split at h
      · rename_i hcond
        obtain ⟨hpl, hp1, hoff, hi⟩ := hcond
        simp only [Option.some.injEq, Prod.mk.injEq] at h
        obtain ⟨rfl, rfl⟩ := h
        have hH := hget_cells hl
        rw [hc] at hx
        simp only [Conc, hH] at hx
        obtain ⟨b, base, hm, hu⟩ := hx
        obtain ⟨hnil, c, e, hblk, hrows⟩ : nil = false ∧ ∃ c e, C.w.heap[b]? = some (.cells c e (0, 0)) ∧ RowsAt C b base sz els := by
          rcases hR.blk id true nil sz els hH with ⟨h, _⟩ | ⟨h0, b', base', c, e, h1, _, h2, h3⟩
          · rw [hm] at h; simp at h
          · rw [hm] at h1; simp at h1; obtain ⟨rfl, rfl⟩ := h1; exact ⟨h0, c, e, h2, h3⟩
        have hparts := conc_parts (hS.ev y) hp1
        have hone : ∀ z ∈ (Abs.ev s (opd y)).parts, isOne z = true := List.all_eq_true.1 hp1
        have hulen : (a.eval y).cells.toList.length = n := by rw [hparts.length, hpl]
        obtain ⟨hrl, hrc⟩ := hrows.get (getD_some (d := []) hi)
        have hcell : ∀ j, j < n → (C.w.cell? ⟨b, base + i * sz + off + j, none⟩).isSome = true := by
          intro j hj
          obtain ⟨us, hul, hcs, _⟩ := hrc.vals
          have hlt : off + j < us.length := by rw [hul.length, hrl]; omega
          have := hcs (off + j) _ (List.getElem?_eq_getElem hlt)
          rw [show base + i * sz + off + j = base + i * sz + (off + j) by omega, this]; rfl
        have huone : ∀ u ∈ (a.eval y).cells.toList, u.oneCell' = true := by
          intro u hu
          obtain ⟨k, hk, rfl⟩ := List.mem_iff_getElem.1 hu
          have hk' : k < (Abs.ev s (opd y)).parts.length := by rw [← hparts.length]; exact hk
          obtain ⟨u', hu', hcu⟩ := hparts.get (List.getElem?_eq_getElem hk')
          rw [List.getElem?_eq_getElem hk] at hu'
          simp at hu'
          subst hu'
          exact Conc.one hcu (hone _ (List.getElem_mem _))
        have hw := wrote_setCells C.w b (a.eval y).cells.toList (base + i * sz + off)
        have hfr : (id = id ∧ (els.set i (putCells (els.getD i []) off (Abs.ev s (opd y)).parts)).length = els.length ∧ base = base) ∨ C.H[id]? = some .resv := .inl ⟨rfl, by simp, rfl⟩
        have hwr := write_ok hR hH hm hw hfr (fun C' hs hw' => rows_written hs hrows hi hparts hone (by omega)
          (fun j u hu => by
            rw [hw']
            have hj : j < (a.eval y).cells.toList.length := lt_of_get hu
            rw [World.cell?_setCells_in b (a.eval y).cells.toList (base + i * sz + off) C.w (fun j hj => hcell j (by omega)) j hj]
            rw [List.getElem?_eq_getElem hj] at hu
            exact hu)
          (fun x hx => by
            rw [hw']
            exact World.cell?_setCells_out b _ _ C.w _ (fun _ _ => hx)))
        have e1 : (C.H.set id .dead).set id (.cells true false sz (els.set i (putCells (els.getD i []) off (Abs.ev s (opd y)).parts))) = writes C.H [(id, .cells true nil sz (els.set i (putCells (els.getD i []) off (Abs.ev s (opd y)).parts)))] := by
          subst hnil
          simp [writes]
        rw [e1] at hwr
        refine ⟨undef, _, _, .inr ⟨?_, rfl⟩, hwr.1, hwr.2, by simp [Conc]⟩
        have hsz := run_sizeOf (P := P) (w := C.w) hn
        have hst := run_storeCells_cells (P := P) b (base + i * sz + off) (a.eval y).cells.toList 0 C.w (fun j hj => by simpa using hcell j (by omega)) (fun j hj => frozen_of_block hblk) huone
        have hsz2 : (a.eval y).cells.size = n := by simpa using hulen
        simp only [execOp, ho, hu, Instr.storeAt, Instr.sureAddr, storeVar, Sem.run_bind, Sem.run_pure, Result.andThen_ok, hsz, hsz2, ne_eq, not_true, if_false, hst, Nat.add_zero]
      · simp at h
    · simp at h
  · simp at h

theorem ok_mks (hR : HeapRel C) (hS : Slots C s a) {t e : TypeId} {x y : Operand} {sz bytes : Nat} {zero : List AV} (ho : o.op = .makeSlice t x y) (ht : P.underlying t = some (.slice e)) (hsz : sizeT P e = some sz) (hby : bytesT P e = some bytes) (hz : zeroT P e = some zero)
    (hzl : zero.length = sz) (h1 : zero.all isOne = true) (hfr : C.H[fr]? = some .resv)
    (h : aop fr s (hget C.H) (.mks sz bytes zero (opd x) (opd y)) = some (v, ws)) : OpOk P C a o v ws := by
  simp only [aop] at h
  split at h
  · rename_i n c hx hy
    split at h
    · rename_i hc
      obtain ⟨h0, hnc, hcb, hc62⟩ := hc
      simp only [Option.some.injEq, Prod.mk.injEq] at h
      obtain ⟨rfl, rfl⟩ := h
      obtain ⟨ie, z, hi, hzv, rfl⟩ := zeroT_spec hz
      have hsz' : ie.size = sz := by simpa [sizeT, hi] using hsz
      have hby' : ie.bytes = bytes := by simpa [bytesT, hi] using hby
      have hzs : z.cells.size = sz := by simpa using hzl
      have hone : ∀ x ∈ z.cells.toList.map ofValue, isOne x = true := List.all_eq_true.1 h1
      have hrun := run_make (P := P) C.w t e ie z ht hi hzv .i64 .i64 n c h0 hnc (by rw [hby', Int.mul_comm]; omega) (by omega)
      have hmc : madeCells z.cells (c.toNat * ie.size) = madeCells z.cells (c.toNat * z.cells.size) := by rw [hsz', hzs]
      have hcell : ∀ k j u, k < c.toNat → z.cells.toList[j]? = some u → (madeCells z.cells (c.toNat * ie.size))[k * sz + j]? = some u := by
        intro k j u hk hj
        have hjl : j < z.cells.size := by have := lt_of_get hj; simpa using this
        have hb : k * sz + sz ≤ c.toNat * sz := by rw [← Nat.succ_mul]; exact Nat.mul_le_mul_right sz hk
        have hlt : k * sz + j < c.toNat * ie.size := by rw [hsz']; omega
        simp only [madeCells, Array.getElem?_map]
        rw [Array.getElem?_range, if_pos hlt]
        simp only [Option.map_some, Option.some.injEq]
        have : (k * sz + j) % z.cells.size = j := by rw [hzs, Nat.mul_comm, Nat.mul_add_mod, Nat.mod_eq_of_lt (by omega)]
        rw [this]
        have hj' : z.cells[j]? = some u := by simpa using hj
        rw [getElem!_def, hj']
      obtain ⟨h2, h3, h4⟩ := alloc_ok hR hfr (SameRest.refl C.w) (c := madeCells z.cells (c.toNat * ie.size)) (e := e) (sz := sz) (els := List.replicate n.toNat (z.cells.toList.map ofValue))
        (fun C' hs hw => RowsAt.of fun i r hr => by
          have hil : i < n.toNat := by have := lt_of_get hr; simpa using this
          rw [List.getElem?_replicate, if_pos hil] at hr
          simp only [Option.some.injEq] at hr
          subst hr
          refine ⟨hzl, ?_⟩
          rw [Nat.zero_add]
          exact rows_new hs rfl hw (concL_ofValue C z.cells.toList) hone (fun j u hu => hcell i j u (by omega) hu))
      refine ⟨.slice (some ⟨C.w.heap.size, 0, none⟩) n.toNat c.toNat, _, _, .inl (by simp only [execOp, ho, hS.lit hx, hS.lit hy, Sem.run_bind, hrun, Result.andThen_ok, Sem.run_pure]), h2, h3, ?_⟩
      simp only [Conc, writes, set_get_eq (lt_of_get hfr)]
      exact .inr (.inr ⟨by simp, C.w.heap.size, 0, c.toNat, _, e, _, set_get_eq (by rw [hR.len]; exact lt_of_get hfr), h4, by simp, by simp, by omega, by rw [size_madeCells, hsz']; simp⟩)
    · simp at h
  · simp at h

/-! append -/
theorem src_cells {tx ex : TypeId} {A : Option Addr} {n cap sz : Nat} {us : List Value} (htx : P.underlying tx = some (.slice ex)) (hlen : us.length = n * sz) (hone : ∀ u ∈ us, u.oneCell' = true)
    (hA : A = none → us = []) (hc : ∀ ad, A = some ad → ∀ (j : Nat) u, us[j]? = some u → C.w.cell? (ad.add j) = some u) : Src P sz tx (.slice A n cap) n us C.w := by
  have hfc : ∀ w : World, (∀ ad, A = some ad → ∀ (j : Nat) u, us[j]? = some u → w.cell? (ad.add j) = some u) → (Builtin.firstCells sz n (.slice A n cap)).run P w = .ok us.toArray w := by
    intro w hw
    cases A with
    | none => rw [hA rfl]; rfl
    | some ad =>
      have := run_loadCells_list (P := P) (w := w) (a := ad) us (hw ad rfl)
      rw [hlen] at this
      exact this
  exact ⟨.inl ⟨ex, htx⟩, fun w => rfl, hfc _ hc, hfc _ (fun ad h j u hu => hc ad h j u hu), hlen, hone⟩

theorem els_src (hR : HeapRel C) (hS : Slots C s a) {x : Operand} {tx ex : TypeId} {nil : Bool} {z sz : Nat} {news : List (List AV)} (htx : P.underlying tx = some (.slice ex)) (h : elsOf (hget C.H) (Abs.ev s (opd x)) = some (nil, z, news)) (hz : szOk news.isEmpty z sz = true) :
    ∃ us, Src P sz tx (a.eval x) news.length us C.w ∧ ConcL C news.flatten us ∧ (∀ c ∈ news.flatten, isOne c = true) ∧ (∀ r ∈ news, r.length = sz) := by
  have hx := hS.ev x
  -- rows that lie at an address
  have key : ∀ (b base cap : Nat) (A : Option Addr), a.eval x = .slice A news.length cap → (news ≠ [] → A = some ⟨b, base, none⟩) → RowsAt C b base z news → ∃ us, Src P sz tx (a.eval x) news.length us C.w ∧ ConcL C news.flatten us ∧ (∀ c ∈ news.flatten, isOne c = true) ∧ (∀ r ∈ news, r.length = sz) := by
    intro b base cap A hu hA hr
    by_cases hne : news = []
    · subst hne
      refine ⟨[], ?_, by simp [ConcL], by simp, by simp⟩
      rw [hu]
      exact src_cells htx (by simp) (by simp) (fun _ => rfl) (fun ad _ j u hj => by simp at hj)
    · have hzz : z = sz := by
        have : news.isEmpty = false := by simpa using hne
        simpa [szOk, this] using hz
      subst hzz
      obtain ⟨hc, hl⟩ := hr.flat
      obtain ⟨us, hus, hcell, hone, hone'⟩ := hc.vals
      refine ⟨us, ?_, hus, hone', fun r hr' => ?_⟩
      · rw [hu, hA hne]
        exact src_cells htx (by rw [hus.length, hl]) hone (fun h => by simp at h) (fun ad had j u hj => by
          simp at had
          subst had
          rw [add_none]
          exact hcell j u hj)
      · obtain ⟨i, hi, rfl⟩ := List.mem_iff_getElem.1 hr'
        exact (hr.get (List.getElem?_eq_getElem hi)).1
  unfold elsOf at h
  split at h
  · rename_i nl zz els hc
    simp only [Option.some.injEq, Prod.mk.injEq] at h
    obtain ⟨rfl, rfl, rfl⟩ := h
    rw [hc] at hx
    simp only [Conc] at hx
    rcases hx with ⟨_, hl, hu⟩ | ⟨_, b, base, cap, hu, _, _, hr⟩
    · have : els = [] := List.eq_nil_of_length_eq_zero hl
      subst this
      exact key 0 0 0 none hu (fun h => by simp at h) trivial
    · exact key b base cap _ hu (fun _ => rfl) hr
  · rename_i hc
    simp only [Option.some.injEq, Prod.mk.injEq] at h
    obtain ⟨rfl, rfl, rfl⟩ := h
    rw [hc] at hx
    simp only [Conc] at hx
    obtain ⟨ad, ao, hu⟩ := hx
    exact key 0 0 0 (some ⟨ad, ao, none⟩) hu (fun h => by simp at h) trivial
  · rename_i id i len hc
    split at h
    · rename_i own nl zz els hl
      split at h
      · rename_i hlen
        simp only [Option.some.injEq, Prod.mk.injEq] at h
        obtain ⟨rfl, rfl, rfl⟩ := h
        have hH := hget_cells hl
        rw [hc] at hx
        simp only [Conc, hH] at hx
        have hnl : ((els.drop i).take len).length = len := by simp; omega
        rcases hx with ⟨_, hl0, rfl, rfl, hu⟩ | ⟨_, rfl, _, ad, ao, hu⟩ | ⟨_, b, base, cap, c, e', f, hm, _, hu, _⟩
        · exact key 0 0 0 none (by rw [hu, hnl]) (fun h => by simp at h) (by simp [RowsAt])
        · exact key 0 0 0 (some ⟨ad, ao, none⟩) (by rw [hu, hnl]) (fun h => by simp at h) (by simp [RowsAt])
        · have hrows : RowsAt C b base zz els := by
            rcases hR.blk id own nl zz els hH with ⟨h, _⟩ | ⟨h0, b', base', c, e, h1, _, h2, h3⟩
            · rw [hm] at h; simp at h
            · rw [hm] at h1; simp at h1; obtain ⟨rfl, rfl⟩ := h1; exact h3
          exact key b (base + i * zz) cap _ (by rw [hu, hnl]) (fun _ => rfl) ((hrows.drop i).take len)
      · simp at h
    · simp at h
  · simp at h

theorem emptyRows {news : List (List AV)} {sz : Nat} {us : List Value} (hl : ConcL C news.flatten us) (hr : ∀ r ∈ news, r.length = sz) {C' : Ctx} (hs : Step C C') {b base : Nat} (h1 : ∀ c ∈ news.flatten, isOne c = true)
    (hc : ∀ (j : Nat) u, us[j]? = some u → C'.w.cell? ⟨b, base + j, none⟩ = some u) : RowsAt C' b base sz news := by
  have hcells : CellsAt C' b base news.flatten := CellsAt.of_vals (ConcL.mono hs _ us hl) hc h1
  clear hl hc h1
  induction news generalizing base with
  | nil => trivial
  | cons r rs ih =>
    simp only [RowsAt]
    rw [List.flatten_cons] at hcells
    have hrl := hr r (by simp)
    refine ⟨hrl, ?_, ih (fun r hr' => hr r (by simp [hr'])) ?_⟩
    · have := hcells.take r.length
      simpa using this
    · have := hcells.drop r.length
      rw [hrl] at this
      simpa [← hrl] using this

theorem isEmpty_len {α : Type} (l : List α) : l.isEmpty = true ↔ l.length = 0 := by cases l <;> simp

/-- append to what has no room: nil, or empty -/
theorem app_none {A : Option Addr} (hA : ∀ ad, A = some ad → ad.spot = none) (hR : HeapRel C) {t tx ty e : TypeId} {x : Operand} {sz bytes : Nat} {zero : List AV} {news : List (List AV)} {us : List Value} (ht : P.underlying t = some (.slice e)) (hsz : sizeT P e = some sz) (hby : bytesT P e = some bytes) (hz : zeroT P e = some zero) (hzl : zero.length = sz)
    (hsrc : Src P sz tx (a.eval x) news.length us C.w) (hl : ConcL C news.flatten us) (h1 : ∀ c ∈ news.flatten, isOne c = true) (hr : ∀ r ∈ news, r.length = sz) (hfr : C.H[fr]? = some .resv) (hb : news.length * bytes ≤ 140737488355328) (hb2 : news.length ≤ 4611686018427387904) :
    ∃ u w' m', (Builtin.append_ #[t, tx] ty #[.slice A 0 0, a.eval x]).run P C.w = .ok u w' ∧
      Step C ⟨C.H.set fr (.cells true (A.isNone && news.isEmpty) sz news), m', w', C.prot⟩ ∧ HeapRel ⟨C.H.set fr (.cells true (A.isNone && news.isEmpty) sz news), m', w', C.prot⟩ ∧
      Conc ⟨C.H.set fr (.cells true (A.isNone && news.isEmpty) sz news), m', w', C.prot⟩ (.lsl fr 0 news.length) u := by
  obtain ⟨ie, z, hi, hzv, rfl⟩ := zeroT_spec hz
  have hsz' : ie.size = sz := by simpa [sizeT, hi] using hsz
  have hby' : ie.bytes = bytes := by simpa [bytesT, hi] using hby
  have hfrl := lt_of_get hfr
  by_cases hne : news = []
  · subst hne
    have hus : us = [] := by simpa [ConcL] using hl
    subst hus
    have hrun := run_append_nothing (P := P) C.w t tx ty e ie ht hi A 0 0 (Nat.le_refl 0) (a.eval x) (by rw [hsz']; exact hsrc)
    obtain ⟨h2, h3⟩ := virt_ok hR hfr (nil := A.isNone) (sz := sz)
    refine ⟨_, _, _, hrun, by simpa using h2, by simpa using h3, ?_⟩
    simp only [Conc, set_get_eq hfrl]
    cases A with
    | none => exact .inl ⟨by simp, by simp, by simp, by simp, rfl⟩
    | some ad =>
      obtain ⟨ab, ao, asp⟩ := ad
      have := hA _ rfl
      dsimp only at this
      subst this
      exact .inr (.inl ⟨by simp, by simp, by simp, ab, ao, rfl⟩)
  · have hpos : 0 < news.length := List.length_pos_iff.2 hne
    have hemp : news.isEmpty = false := by simpa using hne
    have hrun := run_append_grow_src (P := P) (w := C.w) t tx ty e ie z ht hi hzv A 0 0 [] (by cases A <;> simp [Builtin.firstCells, loadCells, loadCellsFrom]) (a.eval x) news.length us (by rw [hsz']; exact hsrc) (by omega) (by omega) (by rw [hby']; exact growslice_fits (by omega) (by simpa using hb))
    simp only [Nat.zero_add, List.nil_append] at hrun
    obtain ⟨h2, h3, h4⟩ := alloc_ok hR hfr (SameRest.drew C.w) (c := us.toArray ++ Builtin.zeroCells z.cells (grownCap C.w news.length 0 e - news.length)) (e := e) (sz := sz) (els := news)
      (fun C' hs hw => emptyRows hl hr hs h1 (fun j u hu => by
        rw [hw]
        have := World.cell?_alloc_new C.w.drew (us.toArray ++ Builtin.zeroCells z.cells (grownCap C.w news.length 0 e - news.length)) e (0 + j)
        rw [World.size_drew] at this
        rw [this, Nat.zero_add]
        rw [Array.getElem?_append_left (by have := lt_of_get hu; simpa using this)]
        simpa using hu))
    refine ⟨_, _, _, hrun, by simpa [hemp] using h2, by simpa [hemp] using h3, ?_⟩
    simp only [Conc, set_get_eq hfrl, hemp, Bool.and_false]
    refine .inr (.inr ⟨by simp, C.w.heap.size, 0, grownCap C.w news.length 0 e, _, e, _, set_get_eq (by rw [hR.len]; exact hfrl), h4, by simp, by simp, grownCap_ge _ _ _ _, ?_⟩)
    have hg := grownCap_ge C.w news.length 0 e
    have hzs : z.cells.size = sz := by simpa using hzl
    simp only [Array.size_append, List.size_toArray, size_zeroCells, hzs, hsrc.newsLen, ← Nat.add_mul, Nat.zero_add]
    exact Nat.mul_le_mul_right sz (by omega)

/-- append to a row of the call's own: in place, or anew -/
theorem app_own (hR : HeapRel C) {t tx ty e : TypeId} {x : Operand} {sz bytes id i len cap b base : Nat} {zero : List AV} {news els : List (List AV)} {nil : Bool} {us : List Value} (ht : P.underlying t = some (.slice e)) (hsz : sizeT P e = some sz) (hby : bytesT P e = some bytes) (hz : zeroT P e = some zero) (hzl : zero.length = sz)
    (hsrc : Src P sz tx (a.eval x) news.length us C.w) (hl : ConcL C news.flatten us) (h1 : ∀ c ∈ news.flatten, isOne c = true) (hr : ∀ r ∈ news, r.length = sz) (hfr : C.H[fr]? = some .resv) (hb : (len + news.length) * bytes ≤ 140737488355328) (hb2 : len + news.length ≤ 4611686018427387904)
    (hH : C.H[id]? = some (.cells true nil sz els)) (hm : C.m[id]? = some (some (b, base))) {c0 : Array Value} {e0 : TypeId} {f0 : Nat × Nat} (hblk : C.w.heap[b]? = some (.cells c0 e0 f0)) (hil : i + len ≤ els.length) (hroom : base + (i + cap) * sz ≤ c0.size) :
    ∃ u w' m', (Builtin.append_ #[t, tx] ty #[.slice (some ⟨b, base + i * sz, none⟩) len cap, a.eval x]).run P C.w = .ok u w' ∧
      Step C ⟨(C.H.set id .dead).set fr (.cells true false sz ((els.drop i).take len ++ news)), m', w', C.prot⟩ ∧ HeapRel ⟨(C.H.set id .dead).set fr (.cells true false sz ((els.drop i).take len ++ news)), m', w', C.prot⟩ ∧
      Conc ⟨(C.H.set id .dead).set fr (.cells true false sz ((els.drop i).take len ++ news)), m', w', C.prot⟩ (.lsl fr 0 (len + news.length)) u := by
  obtain ⟨ie, z, hi, hzv, rfl⟩ := zeroT_spec hz
  have hsz' : ie.size = sz := by simpa [sizeT, hi] using hsz
  have hby' : ie.bytes = bytes := by simpa [bytesT, hi] using hby
  have hzs : z.cells.size = sz := by simpa using hzl
  have hfrl := lt_of_get hfr
  have hne : fr ≠ id := by rintro rfl; rw [hfr] at hH; simp at hH
  obtain ⟨hnil, c, e1, hblk', hrows⟩ : nil = false ∧ ∃ c e, C.w.heap[b]? = some (.cells c e (0, 0)) ∧ RowsAt C b base sz els := by
    rcases hR.blk id true nil sz els hH with ⟨h, _⟩ | ⟨h0, b', base', c, e, h1, _, h2, h3⟩
    · rw [hm] at h; simp at h
    · rw [hm] at h1; simp at h1; obtain ⟨rfl, rfl⟩ := h1; exact ⟨h0, c, e, h2, h3⟩
  rw [hblk'] at hblk
  simp only [Option.some.injEq, Obj.cells.injEq] at hblk
  obtain ⟨rfl, rfl, rfl⟩ := hblk
  have holdl : ((els.drop i).take len).length = len := by simp; omega
  have hold : RowsAt C b (base + i * sz) sz ((els.drop i).take len) := (hrows.drop i).take len
  by_cases hcap : len + news.length ≤ cap
  · have hnl : us.length = news.length * sz := hsrc.newsLen
    have hfit : base + i * sz + len * sz + us.length ≤ c.size := by
      have h5 : (i + (len + news.length)) * sz ≤ (i + cap) * sz := Nat.mul_le_mul_right sz (by omega)
      have h6 : (i + (len + news.length)) * sz = i * sz + len * sz + news.length * sz := by rw [Nat.add_mul, Nat.add_mul]; omega
      omega
    have hsome : ∀ j, j < us.length → (C.w.cell? ⟨b, base + i * sz + len * sz + j, none⟩).isSome = true := by
      intro j hj
      rw [cell_of_block hblk', Array.getElem?_eq_getElem (by omega)]; rfl
    have hrun := run_append_room_src (P := P) (w := C.w) t tx ty e ie ht hi b (base + i * sz) len cap (a.eval x) news.length us (by rw [hsz']; exact hsrc) hcap
      (by rw [hsz']; exact hsome) (by rw [hsz']; intro j _; exact frozen_of_block hblk')
    rw [hsz'] at hrun
    have hw := wrote_setCells C.w b us (base + i * sz + len * sz)
    obtain ⟨h2, h3⟩ := write_ok (base' := base + i * sz) (els' := (els.drop i).take len ++ news) hR hH hm hw (.inr hfr) (fun C' hs hw' => by
      refine RowsAt.append ?_ ?_
      · refine RowsAt.keep hs _ b _ sz (fun o h7 h8 => ?_) hold
        rw [holdl] at h8
        rw [hw']
        exact World.cell?_setCells_out b us _ C.w ⟨b, o, none⟩ (fun _ _ => .inl (by omega))
      · rw [holdl]
        refine emptyRows hl hr hs h1 (fun j u hu => ?_)
        have hj := lt_of_get hu
        rw [hw', World.cell?_setCells_in b us (base + i * sz + len * sz) C.w hsome j hj]
        rw [List.getElem?_eq_getElem hj] at hu
        exact hu)
    refine ⟨_, _, _, hrun, h2, h3, ?_⟩
    obtain ⟨c', hb', hcs'⟩ := hw.here _ _ _ hblk'
    simp only [Conc, set_get_eq (show fr < (C.H.set id .dead).length by simpa using hfrl)]
    refine .inr (.inr ⟨by simp, b, base + i * sz, cap, c', _, _, set_get_eq (by rw [hR.len]; exact hfrl), hb', by simp, by simp; omega, hcap, ?_⟩)
    rw [hcs', Nat.zero_add, Nat.add_assoc, ← Nat.add_mul]; exact hroom
  · obtain ⟨hk1, hk2⟩ := turn_ok hR hH (B := .dead) (.inl rfl)
    have hfr' : (C.H.set id .dead)[fr]? = some .resv := by rw [set_get_ne (Ne.symm hne)]; exact hfr
    obtain ⟨hc1, hc2⟩ := hold.flat
    obtain ⟨olds, hol, hoc, _, ho1⟩ := hc1.vals
    have hol' : olds.length = len * sz := by rw [hol.length, hc2, holdl]
    have hloadO : ∀ w : World, w.heap = C.w.heap → (Builtin.firstCells ie.size len (.slice (some ⟨b, base + i * sz, none⟩) len cap)).run P w = .ok olds.toArray w := by
      intro w hw
      have := run_loadCells_list (P := P) (w := w) (a := ⟨b, base + i * sz, none⟩) olds (fun j u hu => by
        rw [add_none]
        exact (World.cell?_of_block (w := C.w) (w' := w) (a := ⟨b, base + i * sz + j, none⟩) (by rw [hw])).trans (hoc j u hu))
      rw [hol'] at this
      simpa [Builtin.firstCells, hsz'] using this
    have hrun := run_append_grow_src (P := P) (w := C.w) t tx ty e ie z ht hi hzv (some ⟨b, base + i * sz, none⟩) len cap olds (hloadO _ rfl) (a.eval x) news.length us (by rw [hsz']; exact hsrc) (by omega) (by omega) (by rw [hby']; exact growslice_fits (by omega) hb)
    have hlen2 : (olds ++ us).length = (len + news.length) * sz := by rw [List.length_append, hol', hsrc.newsLen, Nat.add_mul]
    obtain ⟨h2, h3, h4⟩ := alloc_ok (C := ⟨C.H.set id .dead, C.m, C.w, C.prot⟩) hk2 hfr' (SameRest.drew C.w) (c := (olds ++ us).toArray ++ Builtin.zeroCells z.cells (grownCap C.w (len + news.length) cap e - (len + news.length))) (e := e) (sz := sz) (els := (els.drop i).take len ++ news)
      (fun C' hs hw => by
        have hall : ConcL C ((els.drop i).take len ++ news).flatten (olds ++ us) := by rw [List.flatten_append]; exact hol.append hl
        refine emptyRows (C := ⟨C.H.set id .dead, C.m, C.w, C.prot⟩) (ConcL.mono hk1 _ _ hall) (fun r hr' => ?_) hs (fun c hc => ?_) (fun j u hu => ?_)
        · rcases List.mem_append.1 hr' with h | h
          · obtain ⟨k, hk, rfl⟩ := List.mem_iff_getElem.1 h
            exact (hold.get (List.getElem?_eq_getElem hk)).1
          · exact hr r h
        · rw [List.flatten_append] at hc
          rcases List.mem_append.1 hc with h | h
          · exact ho1 c h
          · exact h1 c h
        · rw [hw]
          have := World.cell?_alloc_new C.w.drew ((olds ++ us).toArray ++ Builtin.zeroCells z.cells (grownCap C.w (len + news.length) cap e - (len + news.length))) e (0 + j)
          rw [World.size_drew] at this
          rw [this, Nat.zero_add]
          rw [Array.getElem?_append_left (by have := lt_of_get hu; simpa using this)]
          simpa using hu)
    have hg := grownCap_ge C.w (len + news.length) cap e
    refine ⟨_, _, _, hrun, hk1.trans h2, h3, ?_⟩
    simp only [Conc, set_get_eq (show fr < (C.H.set id .dead).length by simpa using hfrl)]
    refine .inr (.inr ⟨by simp, C.w.heap.size, 0, grownCap C.w (len + news.length) cap e, _, e, _, set_get_eq (by rw [hR.len]; exact hfrl), h4, by simp, by simp; omega, hg, ?_⟩)
    rw [Array.size_append, List.size_toArray, size_zeroCells, hzs, hlen2, ← Nat.add_mul, Nat.zero_add, Nat.zero_add]
    exact Nat.mul_le_mul_right sz (by omega)

theorem ok_app (hR : HeapRel C) (hS : Slots C s a) {t tx e ex : TypeId} {x y : Operand} {sz bytes : Nat} {zero : List AV} (ho : o.op = .call { callee := .builtin .append, args := #[x, y], argTypes := #[t, tx] }) (ht : P.underlying t = some (.slice e)) (htx : P.underlying tx = some (.slice ex))
    (hsz : sizeT P e = some sz) (hby : bytesT P e = some bytes) (hby0 : 0 < bytes) (hz : zeroT P e = some zero) (hzl : zero.length = sz) (hfr : C.H[fr]? = some .resv)
    (h : aop fr s (hget C.H) (.app sz bytes (opd x) (opd y)) = some (v, ws)) : OpOk P C a o v ws := by
  have fin : ∀ u w', (Builtin.append_ #[t, tx] o.type #[a.eval x, a.eval y]).run P C.w = .ok u w' → (execOp a.eval o).run P C.w = .ok (.value u) w' := by
    intro u w' hrun
    simp [execOp, ho, resolve, invoke, builtin, hrun]
  have hbd : ∀ n : Nat, n * bytes ≤ 140737488355328 → n ≤ 4611686018427387904 := fun n hn => by
    have : n * 1 ≤ n * bytes := Nat.mul_le_mul_left n hby0
    omega
  have hx := hS.ev x
  simp only [aop] at h
  split at h
  · rename_i nl z news hels
    split at h
    · rename_i hzk
      obtain ⟨us, hsrc, hl, h1, hr⟩ := els_src hR hS htx hels hzk
      split at h
      · rename_i z0 els0 hc
        split at h
        · rename_i hb
          simp only [Option.some.injEq, Prod.mk.injEq] at h
          obtain ⟨rfl, rfl⟩ := h
          rw [hc] at hx
          simp only [Conc] at hx
          have hu : a.eval x = .slice none 0 0 := by rcases hx with ⟨_, _, h⟩ | ⟨h, _⟩; exact h; simp at h
          obtain ⟨u, w', m', hrun, h2, h3, h4⟩ := app_none (A := none) (ty := o.type) (by simp) hR ht hsz hby hz hzl hsrc hl h1 hr hfr hb (hbd _ hb)
          simp only [Option.isNone_none, Bool.true_and] at h2 h3 h4
          exact ⟨u, w', m', .inl (fin _ _ (by rw [hu]; exact hrun)), h2, h3, h4⟩
        · simp at h
      · rename_i hc
        split at h
        · rename_i hb
          simp only [Option.some.injEq, Prod.mk.injEq] at h
          obtain ⟨rfl, rfl⟩ := h
          rw [hc] at hx
          simp only [Conc] at hx
          obtain ⟨ad, ao, hu⟩ := hx
          obtain ⟨u, w', m', hrun, h2, h3, h4⟩ := app_none (A := some ⟨ad, ao, none⟩) (ty := o.type) (by simp) hR ht hsz hby hz hzl hsrc hl h1 hr hfr hb (hbd _ hb)
          simp only [Option.isNone_some, Bool.false_and] at h2 h3 h4
          exact ⟨u, w', m', .inl (fin _ _ (by rw [hu]; exact hrun)), h2, h3, h4⟩
        · simp at h
      · rename_i id i len hc
        split at h
        · rename_i nil z' els hl'
          split at h
          · rename_i hcond
            obtain ⟨rfl, hle, hb⟩ := hcond
            simp only [Option.some.injEq, Prod.mk.injEq] at h
            obtain ⟨rfl, rfl⟩ := h
            have hH := hget_cells hl'
            rw [hc] at hx
            simp only [Conc, hH] at hx
            have hne : id ≠ fr := by rintro rfl; rw [hfr] at hH; simp at hH
            -- the old number is given up, then a slice without room
            have none_case : ∀ A : Option Addr, a.eval x = .slice A 0 0 → (∀ ad, A = some ad → ad.spot = none) → len = 0 → A.isNone = nil → OpOk P C a o (.lsl fr 0 (len + news.length)) [(id, .dead), (fr, .cells true (nil && news.isEmpty) z' ((els.drop i).take len ++ news))] := by
              intro A hu hA hl0 hnil
              subst hl0 hnil
              obtain ⟨hk1, hk2⟩ := turn_ok hR hH (B := .dead) (.inl rfl)
              have hfr' : (C.H.set id .dead)[fr]? = some .resv := by rw [set_get_ne hne]; exact hfr
              obtain ⟨u, w', m', hrun, h2, h3, h4⟩ := app_none (C := ⟨C.H.set id .dead, C.m, C.w, C.prot⟩) (A := A) (ty := o.type) hA hk2 ht hsz hby hz hzl hsrc (ConcL.mono hk1 _ _ hl) h1 hr hfr' (by simpa using hb) (hbd _ (by simpa using hb))
              refine ⟨u, w', m', .inl (fin _ _ (by rw [hu]; exact hrun)), ?_, ?_, ?_⟩
              · simpa [writes] using hk1.trans h2
              · simpa [writes] using h3
              · simpa [writes] using h4
            rcases hx with ⟨rfl, hl0, rfl, rfl, hu⟩ | ⟨rfl, rfl, _, ad, ao, hu⟩ | ⟨rfl, b, base, cap, c, e', f, hm, hblk, hu, h5, h6, h7⟩
            · exact none_case none hu (by simp) rfl rfl
            · exact none_case (some ⟨ad, ao, none⟩) hu (by simp) rfl rfl
            · obtain ⟨u, w', m', hrun, h2, h3, h4⟩ := app_own (ty := o.type) hR ht hsz hby hz hzl hsrc hl h1 hr hfr hb (hbd _ hb) hH hm hblk h5 h7
              refine ⟨u, w', m', .inl (fin _ _ (by rw [hu]; exact hrun)), ?_, ?_, ?_⟩
              · simpa [writes] using h2
              · simpa [writes] using h3
              · simpa [writes] using h4
          · simp at h
        · simp at h
      · simp at h
    · simp at h
  · simp at h

/-! copy, of elements of one cell -/
theorem ones_map : ∀ {l : List (List AV)}, (∀ r ∈ l, r.length = 1) → l = l.flatten.map fun c => [c]
  | [], _ => rfl
  | r :: l, h => by
    have h0 := h r (by simp)
    match r, h0 with
    | [c], _ => simp only [List.flatten_cons, List.cons_append, List.nil_append, List.map_cons]; rw [← ones_map fun r hr => h r (by simp [hr])]
theorem els_at (hR : HeapRel C) (hS : Slots C s a) {x : Operand} {nil : Bool} {z : Nat} {news : List (List AV)} (h : elsOf (hget C.H) (Abs.ev s (opd x)) = some (nil, z, news)) (hz : szOk news.isEmpty z 1 = true) :
    ∃ A cap us, a.eval x = .slice A news.length cap ∧ (A = none → us = []) ∧ (∀ ad, A = some ad → ∀ (j : Nat) u, us[j]? = some u → C.w.cell? (ad.add j) = some u) ∧ us.length = news.length ∧ (∀ u ∈ us, u.oneCell' = true) ∧ ConcL C news.flatten us ∧ (∀ c ∈ news.flatten, isOne c = true) ∧ (∀ r ∈ news, r.length = 1) := by
  have hx := hS.ev x
  have key : ∀ (b base cap : Nat) (A : Option Addr), a.eval x = .slice A news.length cap → (news ≠ [] → A = some ⟨b, base, none⟩) → RowsAt C b base z news → ∃ A cap us, a.eval x = .slice A news.length cap ∧ (A = none → us = []) ∧ (∀ ad, A = some ad → ∀ (j : Nat) u, us[j]? = some u → C.w.cell? (ad.add j) = some u) ∧ us.length = news.length ∧ (∀ u ∈ us, u.oneCell' = true) ∧ ConcL C news.flatten us ∧ (∀ c ∈ news.flatten, isOne c = true) ∧ (∀ r ∈ news, r.length = 1) := by
    intro b base cap A hu hA hr
    by_cases hne : news = []
    · subst hne
      exact ⟨A, cap, [], hu, fun _ => rfl, fun _ _ j u hj => by simp at hj, rfl, by simp, by simp [ConcL], by simp, by simp⟩
    · have hzz : z = 1 := by
        have : news.isEmpty = false := by simpa using hne
        simpa [szOk, this] using hz
      subst hzz
      obtain ⟨hc, hl⟩ := hr.flat
      obtain ⟨us, hus, hcell, hone, hone'⟩ := hc.vals
      refine ⟨A, cap, us, hu, fun h => by rw [hA hne] at h; simp at h, fun ad had j u hj => ?_, by rw [hus.length, hl]; omega, hone, hus, hone', fun r hr' => ?_⟩
      · rw [hA hne] at had
        simp at had
        subst had
        rw [add_none]
        exact hcell j u hj
      · obtain ⟨i, hi, rfl⟩ := List.mem_iff_getElem.1 hr'
        exact (hr.get (List.getElem?_eq_getElem hi)).1
  unfold elsOf at h
  split at h
  · rename_i nl zz els hc
    simp only [Option.some.injEq, Prod.mk.injEq] at h
    obtain ⟨rfl, rfl, rfl⟩ := h
    rw [hc] at hx
    simp only [Conc] at hx
    rcases hx with ⟨_, hl, hu⟩ | ⟨_, b, base, cap, hu, _, _, hr⟩
    · have : els = [] := List.eq_nil_of_length_eq_zero hl
      subst this
      exact key 0 0 0 none hu (fun h => by simp at h) trivial
    · exact key b base cap _ hu (fun _ => rfl) hr
  · rename_i hc
    simp only [Option.some.injEq, Prod.mk.injEq] at h
    obtain ⟨rfl, rfl, rfl⟩ := h
    rw [hc] at hx
    simp only [Conc] at hx
    obtain ⟨ad, ao, hu⟩ := hx
    exact key 0 0 0 (some ⟨ad, ao, none⟩) hu (fun h => by simp at h) trivial
  · rename_i id i len hc
    split at h
    · rename_i own nl zz els hb
      split at h
      · rename_i hle
        simp only [Option.some.injEq, Prod.mk.injEq] at h
        obtain ⟨rfl, rfl, rfl⟩ := h
        have hH := hget_cells hb
        rw [hc] at hx
        simp only [Conc, hH] at hx
        have hnl : ((els.drop i).take len).length = len := by simp; omega
        rcases hx with ⟨rfl, hl0, rfl, rfl, hu⟩ | ⟨rfl, rfl, _, ad, ao, hu⟩ | ⟨rfl, b, base, cap, c, e', f, hm, hblk, hu, h5, h6, h7⟩
        · exact key 0 0 0 none hu (fun h => by simp at h) trivial
        · exact key 0 0 0 (some ⟨ad, ao, none⟩) hu (fun h => by simp at h) trivial
        · have hrows : RowsAt C b base zz els := by
            rcases hR.blk id own false zz els hH with ⟨h, _⟩ | ⟨_, b', base', c, e, h1, _, _, h3⟩
            · rw [hm] at h; simp at h
            · rw [hm] at h1; simp at h1; obtain ⟨rfl, rfl⟩ := h1; exact h3
          exact key b (base + i * zz) cap _ (by rw [hnl]; exact hu) (fun _ => rfl) ((hrows.drop i).take len)
      · simp at h
    · simp at h
  · simp at h

theorem ok_copy (hR : HeapRel C) (hS : Slots C s a) {t tx e : TypeId} {x y : Operand} (ho : o.op = .call { callee := .builtin .copy, args := #[x, y], argTypes := #[t, tx] }) (ht : P.underlying t = some (.slice e)) (hsz : sizeT P e = some 1)
    (h : aop fr s (hget C.H) (.copy (opd x) (opd y)) = some (v, ws)) : OpOk P C a o v ws := by
  have fin : ∀ u w', (Builtin.copy_ #[t, tx] o.type #[a.eval x, a.eval y]).run P C.w = .ok u w' → (execOp a.eval o).run P C.w = .ok (.value u) w' := by
    intro u w' hrun
    simp [execOp, ho, resolve, invoke, builtin, hrun]
  have hx := hS.ev x
  simp only [aop] at h
  split at h
  · rename_i id i len hc
    split at h
    · rename_i nil z els hl'
      split at h
      · rename_i nl z' news hels
        split at h
        · rename_i hcond
          obtain ⟨rfl, hzk, hle⟩ := hcond
          simp only [Option.some.injEq, Prod.mk.injEq] at h
          obtain ⟨rfl, rfl⟩ := h
          obtain ⟨A, ycap, us, hy, hA0, hA1, hulen, huone, hus, hone, h1⟩ := els_at hR hS hels hzk
          have hH := hget_cells hl'
          rw [hc] at hx
          simp only [Conc, hH] at hx
          have hszr := run_sizeOf (P := P) (w := C.w) hsz
          have hfc : (Builtin.firstCells 1 (min news.length len) (a.eval y)).run P C.w = .ok (us.take len).toArray C.w := by
            rw [hy]
            cases A with
            | none => rw [hA0 rfl]; simp [Builtin.firstCells]
            | some ad =>
              have hlc := run_loadCells_list (P := P) (w := C.w) (a := ad) (us.take len) (fun j u hj => hA1 ad rfl j u (by
                rw [List.getElem?_take] at hj; split at hj; exact hj; simp at hj))
              have : (us.take len).length = min news.length len * 1 := by simp [hulen]; omega
              rw [this] at hlc
              exact hlc
          have hcop : ∀ (B : Option Addr) dCap, a.eval x = .slice B len dCap → ∀ w', (match B with | some ad => storeCells ad (us.take len) | none => pure ()).run P C.w = .ok () w' →
              (Builtin.copy_ #[t, tx] o.type #[a.eval x, a.eval y]).run P C.w = .ok (goInt (min news.length len : Nat)) w' := by
            intro B dCap hB w' hst
            have hn : Nat.min news.length len = min news.length len := rfl
            have hlen : (Builtin.lenOf (a.eval y)).run P C.w = .ok news.length C.w := by rw [hy]; rfl
            rw [hB]
            cases B with
            | none =>
              simp only [Sem.run_pure, Result.ok.injEq, true_and] at hst
              subst hst
              simp [Builtin.copy_, run_underlying ht, hszr, hlen, hn, hfc]
            | some ad => simp [Builtin.copy_, run_underlying ht, hszr, hlen, hn, hfc, hst]
          have same : ∀ (B : Option Addr) dCap, len = 0 → a.eval x = .slice B len dCap → OpOk P C a o (intV (min news.length len : Nat)) [(id, .cells true nil 1 (els.take i ++ news.take len ++ els.drop (i + min news.length len)))] := by
            intro B dCap hl0 hB
            have e1 : writes C.H [(id, .cells true nil 1 (els.take i ++ news.take len ++ els.drop (i + min news.length len)))] = C.H := by
              subst hl0
              simp only [writes, List.take_zero, List.append_nil, Nat.min_zero, Nat.add_zero, List.take_append_drop]
              exact List.ext_getElem? fun k => by
                by_cases hk : id = k
                · subst hk; rw [set_get_eq (lt_of_get hH), hH]
                · rw [set_get_ne hk]
            refine ⟨goInt (min news.length len : Nat), C.w, C.m, .inl (fin _ _ (hcop B dCap hB C.w ?_)), ?_, ?_, ?_⟩
            · subst hl0
              cases B with
              | none => rfl
              | some ad => simp [storeCells]
            · rw [e1]; exact Step.refl C
            · rw [e1]; exact hR
            · simp [intV, Conc, goInt]
          rcases hx with ⟨rfl, hl0, rfl, rfl, hu⟩ | ⟨rfl, rfl, _, ad, ao, hu⟩ | ⟨rfl, b, base, cap, c, e', f, hm, hblk, hu, h5, h6, h7⟩
          · exact same none 0 rfl hu
          · exact same (some ⟨ad, ao, none⟩) 0 rfl hu
          · obtain ⟨hr0, c0, e0, hb0⟩ : RowsAt C b base 1 els ∧ ∃ c e, C.w.heap[b]? = some (.cells c e (0, 0)) := by
              rcases hR.blk id true false 1 els hH with ⟨h, _⟩ | ⟨_, b', base', c, e, h1, _, h2, h3⟩
              · rw [hm] at h; simp at h
              · rw [hm] at h1; simp at h1; obtain ⟨rfl, rfl⟩ := h1; exact ⟨h3, c, e, h2⟩
            have hnl : (us.take len).length = min news.length len := by simp [hulen]; omega
            have hcell : ∀ j, j < els.length → (C.w.cell? ⟨b, base + j, none⟩).isSome = true := fun j hj => by
              obtain ⟨hrl, hrc⟩ := hr0.get (List.getElem?_eq_getElem hj)
              obtain ⟨us', hul, hcs, _⟩ := hrc.vals
              have := hcs 0 _ (List.getElem?_eq_getElem (show 0 < us'.length by rw [hul.length, hrl]; omega))
              simp only [Nat.mul_one, Nat.add_zero] at this
              rw [this]; rfl
            have hin : ∀ j, j < (us.take len).length → (C.w.cell? ⟨b, base + i + j, none⟩).isSome = true := fun j hj => by
              rw [Nat.add_assoc]; exact hcell (i + j) (by omega)
            have hlen' : (els.take i ++ news.take len ++ els.drop (i + min news.length len)).length = els.length := by simp; omega
            have hwr := write_ok hR hH hm (wrote_setCells C.w b (us.take len) (base + i)) (fr := id) (base' := base) (els' := els.take i ++ news.take len ++ els.drop (i + min news.length len)) (.inl ⟨rfl, hlen', rfl⟩) (fun C' hs hw' => RowsAt.of fun k r hr => by
              have hkl := lt_of_get hr
              rw [hlen'] at hkl
              have hout : (k < i ∨ i + min news.length len ≤ k) → els[k]? = some r → r.length = 1 ∧ CellsAt C' b (base + k * 1) r := fun hk hek => by
                obtain ⟨g1, g2⟩ := hr0.get hek
                refine ⟨g1, CellsAt.keep hs r b (base + k * 1) (fun o h1 h2 => ?_) g2⟩
                rw [hw']
                exact World.cell?_setCells_out b _ _ C.w _ (fun _ _ => by rw [hnl]; dsimp only; omega)
              by_cases hk1 : k < i
              · rw [List.append_assoc, List.getElem?_append_left (by simp; omega), List.getElem?_take, if_pos hk1] at hr
                exact hout (.inl hk1) hr
              · by_cases hk2 : k < i + min news.length len
                · rw [List.append_assoc, List.getElem?_append_right (by simp; omega), List.getElem?_append_left (by simp; omega), List.getElem?_take, if_pos (by simp; omega)] at hr
                  simp only [List.length_take] at hr
                  rw [show k - min i els.length = k - i by omega, ones_map h1, List.getElem?_map, Option.map_eq_some_iff] at hr
                  obtain ⟨cc, hcc, rfl⟩ := hr
                  obtain ⟨u, hu', hcu⟩ := hus.get hcc
                  refine ⟨rfl, ⟨u, ?_, huone u (List.mem_of_getElem? hu'), hone cc (List.mem_of_getElem? hcc), Conc.mono hs _ _ hcu⟩, trivial⟩
                  have hj : k - i < (us.take len).length := by rw [hnl]; omega
                  have := World.cell?_setCells_in b (us.take len) (base + i) C.w hin (k - i) hj
                  rw [hw', show base + k * 1 = base + i + (k - i) by omega, this, ← List.getElem?_eq_getElem hj, List.getElem?_take, if_pos (by omega), hu']
                · rw [List.getElem?_append_right (by simp; omega), List.getElem?_drop] at hr
                  simp only [List.length_append, List.length_take] at hr
                  rw [show i + min news.length len + (k - (min i els.length + min len news.length)) = k by omega] at hr
                  exact hout (.inr (by omega)) hr)
            have e1 : (C.H.set id .dead).set id (.cells true false 1 (els.take i ++ news.take len ++ els.drop (i + min news.length len))) = writes C.H [(id, .cells true false 1 (els.take i ++ news.take len ++ els.drop (i + min news.length len)))] := by
              simp [writes]
            rw [e1] at hwr
            have hst := run_storeCells_cells (P := P) b (base + i * 1) (us.take len) 0 C.w (fun j hj => by rw [Nat.mul_one, Nat.add_zero]; exact hin j hj) (fun j hj => frozen_of_block hb0) (fun u hu => huone u (List.mem_of_mem_take hu))
            rw [Nat.mul_one, Nat.add_zero] at hst
            refine ⟨goInt (min news.length len : Nat), _, _, .inl (fin _ _ (hcop _ _ hu _ (by rw [Nat.mul_one]; exact hst))), hwr.1, hwr.2, by simp [intV, Conc, goInt]⟩
        · simp at h
      · simp at h
    · simp at h
  · simp at h
end
end Go.Abs
