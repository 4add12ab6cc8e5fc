/- What is forgotten; bodies of functions. -/
import Derived.Test.YtodheeifecoebaaAbs17
set_option linter.all false
set_option linter.unusedVariables false
set_option linter.unusedSimpArgs false
set_option linter.unusedSectionVars false
namespace Go.Abs
open Go.RowKit

def pos : List Nat → Nat → Option Nat
  | [], _ => none
  | i :: r, id => if i = id then some 0 else (pos r id).map (· + 1)
def keepρ (b : Nat) (ids : List Nat) (id : Nat) : Option Nat := if id < b then some id else (pos ids id).map (b + ·)
def St.keep (σ : St) (b : Nat) (ts ids : List Nat) : St :=
  ⟨ts.map fun t => (t, ren (keepρ b ids) (σ.get t)), (σ.heap.take b).map (renB (keepρ b ids)) ++ ids.map fun id => renB (keepρ b ids) (hget σ.heap id)⟩

theorem pos_get : ∀ {ids : List Nat} {id k : Nat}, pos ids id = some k → ids[k]? = some id
  | [], id, k, h => by simp [pos] at h
  | i :: r, id, k, h => by
    simp only [pos] at h
    split at h
    · rename_i hi; simp at h; subst h hi; rfl
    · simp only [Option.map_eq_some_iff] at h
      obtain ⟨k', h1, rfl⟩ := h
      simpa using pos_get h1

theorem look_map (f : Nat → AV) : ∀ (ts : List Nat) (t : Nat), look (ts.map fun t => (t, f t)) t = if t ∈ ts then f t else .top
  | [], t => by simp [look]
  | u :: ts, t => by
    simp only [List.map_cons, look, look_map f ts t, List.mem_cons]
    by_cases h : u = t
    · subst h; simp
    · rw [if_neg h]; simp [Ne.symm h]

section
variable {N b : Nat} {σ : St}
theorem keep_ok {ts ids : List Nat} (hb : b ≤ σ.heap.length) (hids : ∀ id ∈ ids, b ≤ id ∧ id < σ.heap.length) (hnd : ids.Nodup) {C0 C : Ctx} {a : Act} (hb0 : C0.H.length = b) (hR : Rel N C0 σ C a) :
    ∃ C', C'.w = C.w ∧ Rel N C0 (σ.keep b ts ids) C' a ∧ Renamed (keepρ b ids) C C' := by
  obtain ⟨slots, heap⟩ := σ
  have hh := hR.heap
  dsimp only at hh
  subst hh
  dsimp only at hb hids
  have hmlen := hR.rel.len
  have hHlen : ((C.H.take b).map (renB (keepρ b ids)) ++ ids.map fun id => renB (keepρ b ids) (hget C.H id)).length = b + ids.length := by simp; omega
  -- which block a number stands for
  have hold : ∀ (k : Nat) B, ((C.H.take b).map (renB (keepρ b ids)) ++ ids.map fun id => renB (keepρ b ids) (hget C.H id))[k]? = some B →
      ∃ id B0, C.H[id]? = some B0 ∧ B = renB (keepρ b ids) B0 ∧ (C.m.take b ++ ids.map fun id => (C.m[id]?).getD none)[k]? = C.m[id]? ∧ (k < b → id = k) ∧ (b ≤ k → ids[k - b]? = some id) := by
    intro k B h
    have hkl := lt_of_get h
    rw [hHlen] at hkl
    have hl1 : ((C.H.take b).map (renB (keepρ b ids))).length = b := by simp; omega
    have hl2 : (C.m.take b).length = b := by simp [hmlen]; omega
    by_cases hkb : k < b
    · rw [List.getElem?_append_left (by omega), List.getElem?_map, List.getElem?_take, if_pos hkb, Option.map_eq_some_iff] at h
      obtain ⟨B0, h1, rfl⟩ := h
      exact ⟨k, B0, h1, rfl, by rw [List.getElem?_append_left (by omega), List.getElem?_take, if_pos hkb], fun _ => rfl, fun h => by omega⟩
    · rw [List.getElem?_append_right (by omega), hl1, List.getElem?_map, Option.map_eq_some_iff] at h
      obtain ⟨id, h1, rfl⟩ := h
      have hid := hids id (List.mem_of_getElem? h1)
      have hm1 : C.m[id]? = some (C.m[id]'(by omega)) := List.getElem?_eq_getElem (by omega)
      refine ⟨id, C.H[id]'hid.2, List.getElem?_eq_getElem hid.2, by simp [hget, List.getElem?_eq_getElem hid.2], ?_, fun h => by omega, fun _ => h1⟩
      rw [List.getElem?_append_right (by omega), hl2, List.getElem?_map, h1]
      simp [hm1]
  have hcell : ∀ (k : Nat) own nil sz els, ((C.H.take b).map (renB (keepρ b ids)) ++ ids.map fun id => renB (keepρ b ids) (hget C.H id))[k]? = some (Blk.cells own nil sz els) →
      ∃ id els0, C.H[id]? = some (Blk.cells own nil sz els0) ∧ els = renR (keepρ b ids) els0 ∧ (C.m.take b ++ ids.map fun id => (C.m[id]?).getD none)[k]? = C.m[id]? ∧ (k < b → id = k) ∧ (b ≤ k → ids[k - b]? = some id) := by
    intro k own nil sz els h
    obtain ⟨id, B0, h1, h2, h3⟩ := hold k _ h
    cases B0 with
    | cells o n s e => simp only [renB, Blk.cells.injEq] at h2; obtain ⟨rfl, rfl, rfl, rfl⟩ := h2; exact ⟨id, e, h1, rfl, h3⟩
    | _ => simp [renB] at h2
  have hinj : ∀ k k' id : Nat, (k < b → id = k) → (b ≤ k → ids[k - b]? = some id) → (k' < b → id = k') → (b ≤ k' → ids[k' - b]? = some id) → k = k' := by
    intro k k' id h1 h2 h3 h4
    by_cases hk : k < b
    · have := h1 hk; subst this
      by_cases hk' : k' < b
      · exact h3 hk'
      · have := h4 (by omega)
        have := hids _ (List.mem_of_getElem? this); omega
    · have h5 := h2 (by omega)
      have h6 := hids _ (List.mem_of_getElem? h5)
      by_cases hk' : k' < b
      · have := h3 hk'; omega
      · have h7 := h4 (by omega)
        have hl1 := lt_of_get h5
        have hl2 := lt_of_get h7
        have e1 := (List.getElem?_eq_some_iff.1 h5).2
        have e2 := (List.getElem?_eq_some_iff.1 h7).2
        have := (List.getElem_inj hnd).1 (e1.trans e2.symm)
        omega
  have hobj : ∀ (k : Nat) (o : Ob), ((C.H.take b).map (renB (keepρ b ids)) ++ ids.map fun id => renB (keepρ b ids) (hget C.H id))[k]? = some (Blk.obj o) →
      ∃ id o0, C.H[id]? = some (Blk.obj o0) ∧ o = renO (keepρ b ids) o0 ∧ (C.m.take b ++ ids.map fun id => (C.m[id]?).getD none)[k]? = C.m[id]? ∧ (k < b → id = k) ∧ (b ≤ k → ids[k - b]? = some id) := by
    intro k o h
    obtain ⟨id, B0, h1, h2, h3⟩ := hold k _ h
    cases B0 with
    | obj o' => simp only [renB, Blk.obj.injEq] at h2; subst h2; exact ⟨id, o', h1, rfl, h3⟩
    | _ => simp [renB] at h2
  have hown : ∀ x, Ctx.own ⟨(C.H.take b).map (renB (keepρ b ids)) ++ ids.map fun id => renB (keepρ b ids) (hget C.H id), C.m.take b ++ ids.map fun id => (C.m[id]?).getD none, C.w, C.prot⟩ x → C.own x := by
    rintro x (⟨k, nil, sz, els, base, h1, h2⟩ | ⟨k, o, h1, h0, h2⟩)
    · obtain ⟨id, els0, h3, _, h4, _⟩ := hcell k true nil sz els h1
      dsimp only at h2
      rw [h4] at h2
      exact .inl ⟨id, nil, sz, els0, base, h3, h2⟩
    · obtain ⟨id, o0, h3, e3, h4, _⟩ := hobj k o h1
      dsimp only at h2
      rw [h4] at h2
      exact .inr ⟨id, o0, h3, renO_nx _ (e3 ▸ h0), h2⟩
  have hren : Renamed (keepρ b ids) C ⟨(C.H.take b).map (renB (keepρ b ids)) ++ ids.map fun id => renB (keepρ b ids) (hget C.H id), C.m.take b ++ ids.map fun id => (C.m[id]?).getD none, C.w, C.prot⟩ := by
    refine ⟨rfl, fun x hx => ?_, fun id k hk B hB => ?_⟩
    · rintro (h | h)
      · exact hx (.inl (hown x h))
      · exact hx (.inr h)
    · have hl1 : ((C.H.take b).map (renB (keepρ b ids))).length = b := by simp; omega
      have hl2 : (C.m.take b).length = b := by simp [hmlen]; omega
      unfold keepρ at hk
      dsimp only
      split at hk
      · rename_i hlt
        simp at hk
        subst hk
        rw [List.getElem?_append_left (by omega), List.getElem?_append_left (by omega), List.getElem?_map, List.getElem?_take, List.getElem?_take, if_pos hlt, if_pos hlt, hB]
        exact ⟨rfl, rfl⟩
      · simp only [Option.map_eq_some_iff] at hk
        obtain ⟨j, hj, rfl⟩ := hk
        have hj' := pos_get hj
        rw [List.getElem?_append_right (by omega), List.getElem?_append_right (by omega), hl1, hl2, Nat.add_sub_cancel_left, List.getElem?_map, List.getElem?_map, hj']
        have hlt := lt_of_get hB
        have hm1 : C.m[id]? = some (C.m[id]'(by omega)) := List.getElem?_eq_getElem (by omega)
        simp [hget, hB, hm1]
  refine ⟨⟨(C.H.take b).map (renB (keepρ b ids)) ++ ids.map fun id => renB (keepρ b ids) (hget C.H id), C.m.take b ++ ids.map fun id => (C.m[id]?).getD none, C.w, C.prot⟩, rfl, ?_, hren⟩
  refine ⟨rfl, ⟨by simp [hmlen], ?_, ?_, hR.rel.prot, ?_, ?_, ?_⟩, ?_, ⟨fun t => ?_⟩, hR.defers.same rfl, hR.size⟩
  · intro k own nil sz els h
    obtain ⟨id, els0, h1, rfl, h2, _⟩ := hcell k own nil sz els h
    dsimp only
    rw [h2, renR_len]
    rcases hR.rel.blk id own nil sz els0 h1 with h3 | ⟨hn, x, base, c, e, h3, h4, h5, h6⟩
    · exact .inl h3
    · exact .inr ⟨hn, x, base, c, e, h3, h4, h5, RowsAt.ren hren els0 x base sz h6⟩
  · intro k k' nil sz1 els1 own' nil' sz2 els2 x base base' hne h1 h2 h3 h4
    obtain ⟨id, e1, g1, _, g2, g3, g4⟩ := hcell k true nil sz1 els1 h1
    obtain ⟨id', e2, g1', _, g2', g3', g4'⟩ := hcell k' own' nil' sz2 els2 h2
    dsimp only at h3 h4
    rw [g2] at h3
    rw [g2'] at h4
    refine hR.rel.inj id id' nil sz1 e1 own' nil' sz2 e2 x base base' ?_ g1 g1' h3 h4
    rintro rfl
    exact hne (hinj k k' id g3 g4 g3' g4')
  · intro k o h hx0
    obtain ⟨id, o0, h1, rfl, h2, _⟩ := hobj k o h
    obtain ⟨x, y, h3, h4, h5, h6⟩ := hR.rel.obj id o0 h1 (renO_nx _ hx0)
    exact ⟨x, y, h2.trans h3, h4, h5, (renO_is _ _ _).2 h6⟩
  · intro k k' o o' x base base' hne hx1 hx2 h1 h2 h3 h4
    obtain ⟨id, o0, g1, e1, g2, g3, g4⟩ := hobj k o h1
    obtain ⟨id', o1, g1', e2, g2', g3', g4'⟩ := hobj k' o' h2
    dsimp only at h3 h4
    rw [g2] at h3
    rw [g2'] at h4
    refine hR.rel.oinj id id' o0 o1 x base base' ?_ (renO_nx _ (e1 ▸ hx1)) (renO_nx _ (e2 ▸ hx2)) g1 g1' h3 h4
    rintro rfl
    exact hne (hinj k k' id g3 g4 g3' g4')
  · intro k r s ho t
    obtain ⟨id, o0, g1, g2, _⟩ := hobj k _ ho
    cases o0 with
    | smap kd es => simp [renO] at g2
    | lpx => simp [renO] at g2
    | lp r0 s0 =>
      simp only [renO, Ob.lp.injEq] at g2
      obtain ⟨rfl, rfl⟩ := g2
      rw [look_ren]
      exact Conc.ren hren _ _ (hR.rel.lps _ _ _ g1 t)
  · -- the caller's blocks are where they were
    have hst := hR.step
    refine ⟨hst.os, hst.tape, hst.output, hst.prot, hst.size, by dsimp only; rw [hHlen]; omega, hst.blk, hst.grow, fun x hx => hst.own x (hown x hx), ?_, ?_, ?_⟩
    intro id B hB hr
    have hid : id < b := by rw [← hb0]; exact lt_of_get hB
    obtain ⟨⟨B', hB', hr'⟩, h2⟩ := hst.ids id B hB hr
    obtain ⟨h3, h4⟩ := hren.blk id id (by simp [keepρ, hid]) B' hB'
    refine ⟨⟨_, h3, by cases B' <;> simp [renB]; exact (hr' rfl).elim⟩, fun own' nil' sz' els' h => ?_⟩
    rw [h3] at h
    cases B' with
    | cells o n s e =>
      simp only [renB, Option.some.injEq, Blk.cells.injEq] at h
      obtain ⟨rfl, rfl, rfl, rfl⟩ := h
      obtain ⟨own0, els0, g1, g2, g3, g4⟩ := h2 _ _ _ _ hB'
      exact ⟨own0, els0, g1, by rw [renR_len]; exact g2, g3, h4.trans g4⟩
    | _ => simp [renB] at h
    · intro id o ho
      have hid : id < b := by rw [← hb0]; exact lt_of_get ho
      obtain ⟨o', h1, h2, h3⟩ := hst.objs id o ho
      obtain ⟨h4, h5⟩ := hren.blk id id (by simp [keepρ, hid]) _ h1
      exact ⟨_, h4, h5.trans h2, (renO_key _ _).trans h3⟩
    · intro id o B ho hB hr
      have hid : id < b := by rw [← hb0]; exact lt_of_get hB
      obtain ⟨id', o0, h1, _, _, h2, _⟩ := hobj id o ho
      obtain rfl := h2 hid
      exact hst.objr id' o0 B h1 hB hr
  · show Conc _ (look (ts.map fun t => (t, ren (keepρ b ids) (St.get ⟨slots, C.H⟩ t))) t) _
    rw [look_map (fun t => ren (keepρ b ids) (St.get ⟨slots, C.H⟩ t))]
    split
    · exact Conc.ren hren _ _ (hR.slots.at_ t)
    · trivial

theorem weak_keep {ts ids : List Nat} (hb : b ≤ σ.heap.length) (hids : ∀ id ∈ ids, b ≤ id ∧ id < σ.heap.length) (hnd : ids.Nodup) : Weak N b σ (σ.keep b ts ids) :=
  fun _ _ _ hb0 hR => let ⟨C', h1, h2, _⟩ := keep_ok hb hids hnd hb0 hR; ⟨C', h1, h2⟩
end

/-! bodies -/
inductive ARes where
  | tmp (t : Nat)
  | cell (n : Nat) (isAgg : Bool) (p : Nat)
def trRes (P : Program) : List ResultVar → Option (List ARes)
  | [] => some []
  | .tmp t :: l => (trRes P l).map (.tmp t :: ·)
  | .cell p t :: l => (sizeT P t).bind fun n => (isAggT P t).bind fun g => (trRes P l).map (.cell n g p :: ·)
def resAV (σ : St) : ARes → Option AV
  | .tmp t => some (σ.get t)
  | .cell n g p => (aop 0 σ.get (hget σ.heap) (.load n g (.tmp p))).map (·.1)
def resL (σ : St) : List ARes → Option (List AV)
  | [] => some []
  | r :: l => (resAV σ r).bind fun v => (resL σ l).map (v :: ·)
def tupOf : List AV → AV
  | [v] => v
  | vs => .tup vs

def resSem (tmps : Array Value) (r : ResultVar) : Sem Value :=
  match r with
  | .tmp t => pure (tmps.getD t undef)
  | .cell p t => do loadVar t (← asAddr (tmps.getD p undef))

theorem cell_row {P : Program} {C : Ctx} {t : TypeId} {n b base off : Nat} {isAgg : Bool} {row : List AV} {v : AV} (h1 : isAggT P t = some isAgg) (h2 : sizeT P t = some n)
    (hc : CellsAt C b base row) (hv : value n isAgg (cut row off n) = some v) : ∃ u, (loadVar t ⟨b, base + off, none⟩).run P C.w = .ok u C.w ∧ Conc C v u := by
  obtain ⟨hn, hb⟩ := value_len hv
  have hc' : CellsAt C b (base + off) (cut row off n) := (hc.drop off).take n
  obtain ⟨us, hl, hcell, _⟩ := hc'.vals
  obtain ⟨u, hu, hvo⟩ := run_loadVar_cells (P := P) (w := C.w) h1 h2 (by rw [hl.length, hn]) hb hcell
  refine ⟨u, hu, ?_⟩
  rcases hvo with ⟨rfl, rfl⟩ | ⟨rfl, rfl⟩
  · unfold value at hv
    simp only [hn, if_true, Option.some.injEq] at hv
    subst hv
    exact conc_mkAgg hl
  · have h1 := hb rfl
    subst h1
    unfold value at hv
    simp only [hn, if_true, Bool.false_eq_true, if_false] at hv
    split at hv
    · rename_i c hcc
      simp only [Option.some.injEq] at hv
      subst hv
      rw [hcc] at hl
      simp only [ConcL] at hl
      obtain ⟨u', us', he, h3, h4⟩ := hl
      simp at he
      rw [he.1]
      exact h3
    · simp at hv

theorem cell_val {P : Program} {C : Ctx} {t : TypeId} {n : Nat} {isAgg : Bool} {x v : AV} {y : Value} {s : Nat → AV} {p : Nat} (hR : HeapRel C) (hx : Conc C x y) (hsx : s p = x) (h1 : isAggT P t = some isAgg) (h2 : sizeT P t = some n)
    {ws : List (Nat × Blk)} (h : aop 0 s (hget C.H) (.load n isAgg (.tmp p)) = some (v, ws)) : ∃ ad, y = .pointer (some ad) ∧ ∃ u, (loadVar t ad).run P C.w = .ok u C.w ∧ Conc C v u := by
  simp only [aop, ev, hsx] at h
  split at h
  · rename_i sz els i off
    simp only [Option.map_eq_some_iff, Prod.mk.injEq] at h
    obtain ⟨r, hr, rfl, rfl⟩ := h
    simp only [Conc] at hx
    obtain ⟨b, base, hu, hi, _, _, hrows⟩ := hx
    exact ⟨_, hu, cell_row h1 h2 (hrows.get (getD_some hi)).2 hr⟩
  · rename_i id i off
    split at h
    · rename_i own nil sz els hl
      simp only [Option.map_eq_some_iff, Prod.mk.injEq] at h
      obtain ⟨r, hr, rfl, rfl⟩ := h
      have hH := hget_cells hl
      simp only [Conc, hH] at hx
      obtain ⟨b, base, hm, hu⟩ := hx
      rcases hR.blk id own nil sz els hH with ⟨hm', _⟩ | ⟨_, b', base', c, e, hm', _, _, hrows⟩
      · rw [hm] at hm'; simp at hm'
      · rw [hm] at hm'
        simp at hm'
        obtain ⟨rfl, rfl⟩ := hm'
        refine ⟨_, hu, ?_⟩
        by_cases hi : i < els.length
        · exact cell_row h1 h2 (hrows.get (getD_some hi)).2 hr
        · have hn := value_len hr
          have : els.getD i [] = [] := by simp [List.getD, hi]
          rw [this] at hn hr
          have hn0 : n = 0 := by simpa [cut] using hn.1.symm
          subst hn0
          exact cell_row (row := []) (base := base + i * sz) h1 h2 trivial hr
    · simp at h
  · simp at h

theorem resL_run {P : Program} {N : Nat} {C0 C : Ctx} {σ : St} {a : Act} (h : Rel N C0 σ C a) : ∀ {rs : List ResultVar} {ars : List ARes} {vs : List AV}, trRes P rs = some ars → resL σ ars = some vs → ∃ us, (rs.mapM (resSem a.tmps)).run P C.w = Result.ok us C.w ∧ ConcL C vs us
  | [], ars, vs, ht, hr => by simp [trRes] at ht; subst ht; simp [resL] at hr; subst hr; exact ⟨[], by simp, rfl⟩
  | .tmp t :: rs, ars, vs, ht, hr => by
    simp only [trRes, Option.map_eq_some_iff] at ht
    obtain ⟨ars', ht', rfl⟩ := ht
    simp only [resL, Option.bind_eq_some_iff, Option.map_eq_some_iff] at hr
    obtain ⟨v, hv, vs', hvs, rfl⟩ := hr
    obtain ⟨us, h1, h2⟩ := resL_run (P := P) h ht' hvs
    simp only [resAV, Option.some.injEq] at hv
    subst hv
    exact ⟨a.tmps.getD t undef :: us, by simp [List.mapM_cons, resSem, h1], by simp only [ConcL]; exact ⟨_, _, rfl, h.slots.at_ t, h2⟩⟩
  | .cell p t :: rs, ars, vs, ht, hr => by
    simp only [trRes, Option.map_eq_some_iff, Option.bind_eq_some_iff] at ht
    obtain ⟨n, hn, g, hg, ars', ht', rfl⟩ := ht
    simp only [resL, Option.bind_eq_some_iff, Option.map_eq_some_iff, resAV] at hr
    obtain ⟨v, ⟨⟨v', ws⟩, hv, rfl⟩, vs', hvs, rfl⟩ := hr
    obtain ⟨us, h1, h2⟩ := resL_run (P := P) h ht' hvs
    rw [← h.heap] at hv
    obtain ⟨ad, h3, u, h4, h5⟩ := cell_val h.rel (h.slots.at_ p) rfl hg hn hv
    exact ⟨u :: us, by simp [List.mapM_cons, resSem, asAddr, h1, h3, h4], by simp only [ConcL]; exact ⟨_, _, rfl, h5, h2⟩⟩

theorem results_eq (fn : Func) (tmps : Array Value) : results fn tmps = (fn.results.mapM (resSem tmps)) >>= fun vs => pure (if h : vs.size = 1 then vs[0] else .tuple vs) := by
  unfold results
  congr 1

theorem conc_tupOf {C : Ctx} {vs : List AV} {us : List Value} (h : ConcL C vs us) : Conc C (tupOf vs) (if h : us.toArray.size = 1 then us.toArray[0] else .tuple us.toArray) := by
  match vs, us, h with
  | [], us, h =>
    simp only [ConcL] at h
    subst h
    simp only [tupOf, Conc]
    exact ⟨#[], by simp, rfl⟩
  | [v], us, h =>
    simp only [ConcL] at h
    obtain ⟨u, us', rfl, h1, rfl⟩ := h
    simpa [tupOf] using h1
  | v :: v2 :: vs, us, h =>
    have hl := h.length
    simp only [tupOf, Conc]
    exact ⟨us.toArray, by rw [dif_neg (by simp [hl])], by simpa using h⟩

/-- the marks' blocks are shut -/
def shut (w : World) : List Nat → World
  | [] => w
  | b :: bs => shut (w.putObj b (.deferred none)) bs
theorem shut_rest : ∀ (bs : List Nat) (w : World), (shut w bs).os = w.os ∧ (shut w bs).tape = w.tape ∧ (shut w bs).output = w.output ∧ (shut w bs).heap.size = w.heap.size ∧ ∀ k, k ∉ bs → (shut w bs).heap[k]? = w.heap[k]?
  | [], w => ⟨rfl, rfl, rfl, rfl, fun _ _ => rfl⟩
  | b :: bs, w => by
    obtain ⟨h1, h2, h3, h4, h5⟩ := shut_rest bs (w.putObj b (.deferred none))
    refine ⟨h1, h2, h3, by rw [shut, h4]; simp, fun k hk => ?_⟩
    simp only [List.mem_cons, not_or] at hk
    rw [shut, h5 k hk.2, World.putObj_heap_other hk.1]
theorem shut_at : ∀ (bs : List Nat) (w : World), (∀ b ∈ bs, b < w.heap.size) → ∀ k ∈ bs, ∃ ds, (shut w bs).heap[k]? = some (.deferred ds)
  | [], w, _, k, hk => by simp at hk
  | b :: bs, w, hb, k, hk => by
    have hb' : ∀ x ∈ bs, x < (w.putObj b (.deferred none)).heap.size := fun x hx => by simp; exact hb x (by simp [hx])
    by_cases hkb : k ∈ bs
    · exact shut_at bs _ hb' k hkb
    · have : k = b := by simpa [hkb] using hk
      subst this
      exact ⟨none, by rw [shut, (shut_rest bs _).2.2.2.2 k hkb, World.putObj_heap_same (hb k (by simp))]⟩
theorem leaves_marks {P : Program} {fn : Func} {tmps : Array Value} {R : Ending → World → Prop} : ∀ (bs : List Nat) (w : World), bs.Nodup → (∀ b ∈ bs, w.heap[b]? = some (.deferred (some []))) → LeavesIn (FR none) 0 P fn tmps R [] .returning (shut w bs) →
    LeavesInM (FR none) 0 P fn tmps R (bs.map fun b => { target := .collected b, args := #[] }) .returning w
  | [], w, _, _, h => h
  | b :: bs, w, hnd, hb, h => by
    rw [List.map_cons]
    simp only [List.nodup_cons] at hnd
    refine ⟨by simp, .inl ⟨b, w.putObj b (.deferred none), rfl, run_takeDeferred (hb b (by simp)), leaves_marks bs _ hnd.2 (fun x hx => ?_) h⟩⟩
    have : x ≠ b := by rintro rfl; exact hnd.1 hx
    rw [World.putObj_heap_other this]
    exact hb x (by simp [hx])

theorem shut_ok {N : Nat} {C0 C : Ctx} {σ : St} {a : Act} (h : Rel N C0 σ C a) {bs : List Nat} (hb : ∀ b ∈ bs, C0.w.heap.size ≤ b ∧ C.w.heap[b]? = some (.deferred (some []))) :
    Rel N C0 σ ⟨C.H, C.m, shut C.w bs, C.prot⟩ { a with defers := [] } := by
  obtain ⟨h1, h2, h3, h4, h5⟩ := shut_rest bs C.w
  have hlt : ∀ b ∈ bs, b < C.w.heap.size := fun b hbb => lt_of_heap (hb b hbb).2
  have hsame : ∀ k x, C.w.heap[k]? = some x → (∀ ds, x ≠ Obj.deferred ds) → (shut C.w bs).heap[k]? = some x := fun k x hx hd => by
    have : k ∉ bs := fun hk => by have := (hb k hk).2; rw [hx] at this; exact hd _ (Option.some.inj this)
    rw [h5 k this]; exact hx
  have hcell : ∀ k o, (shut C.w bs).cell? ⟨k, o, none⟩ = C.w.cell? ⟨k, o, none⟩ := fun k o => by
    by_cases hk : k ∈ bs
    · obtain ⟨ds, hd⟩ := shut_at bs C.w hlt k hk
      simp [World.cell?, hd, (hb k hk).2]
    · exact World.cell?_of_block (w := C.w) (h5 k hk)
  have hw : StepW C ⟨C.H, C.m, shut C.w bs, C.prot⟩ :=
    ⟨rfl, by simp [h4], fun b o _ _ => hcell b o, fun b c e f hx => ⟨c, f, hsame b _ hx (by simp), rfl⟩, fun b _ hbo => hbo,
      fun _ B hB hr => ⟨⟨B, hB, hr⟩, fun own' _ _ els' h => ⟨own', els', by dsimp only at h; rw [hB] at h; exact Option.some.inj h, rfl, fun h => h, rfl⟩⟩, fun _ o h => ⟨o, h, rfl, rfl⟩, fun _ o B h h' _ => ⟨o, by dsimp only at h; rw [h] at h'; exact (Option.some.inj h').symm⟩⟩
  have hst := h.step
  refine ⟨h.heap, ⟨h.rel.len, ?_, h.rel.inj, fun b hbp => by have := h.rel.prot b hbp; simp [h4]; omega, ?_, h.rel.oinj, fun id r s ho t => Conc.monoW hw _ _ (h.rel.lps id r s ho t)⟩, ?_, ⟨fun t => Conc.monoW hw _ _ (h.slots.at_ t)⟩, Marks.nil _ _, h.size⟩
  · intro id own nil sz els h6
    rcases h.rel.blk id own nil sz els h6 with h7 | ⟨hn, b, base, c, e, h7, h8, h9, h10⟩
    · exact .inl h7
    · exact .inr ⟨hn, b, base, c, e, h7, h8, hsame b _ h9 (by simp), RowsAt.keepW hw els b base sz (fun o _ _ => hcell b o) h10⟩
  · intro id o ho hx0
    obtain ⟨b, x, h6, h7, h8, h9⟩ := h.rel.obj id o ho hx0
    exact ⟨b, x, h6, h7, hsame b x h8 (fun ds hd => by subst hd; cases o <;> exact h9), h9⟩
  · refine ⟨h1.trans hst.os, h2.trans hst.tape, h3.trans hst.output, hst.prot, by simp [h4]; exact hst.size, hst.hlen, fun b hbs hno => ?_, fun b c e f hx => ?_, hst.own, hst.ids, hst.objs, hst.objr⟩
    · have : b ∉ bs := fun hk => by have := (hb b hk).1; omega
      exact (h5 b this).trans (hst.blk b hbs hno)
    · obtain ⟨c', f', h6, h7⟩ := hst.grow b c e f hx
      exact ⟨c', f', hsame b _ h6 (by simp), h7⟩

/-- what a body leaves, handed to the caller -/
def leave (b : Nat) (rs : List ARes) (Q : AV → List Blk → Prop) : Exit → St → Prop
  | .normal, σ | .ret, σ => ∃ vs ids, resL σ rs = some vs ∧ b ≤ σ.heap.length ∧ (∀ id ∈ ids, b ≤ id ∧ id < σ.heap.length) ∧ ids.Nodup ∧ Q (ren (keepρ b ids) (tupOf vs)) (σ.keep b [] ids).heap
  | _, _ => False

theorem slots_args {C : Ctx} : ∀ {args : List AV} {cargs : List Value} {n k t : Nat}, ConcL C args cargs → Conc C (look ((args.zipIdx k).map fun (x : AV × Nat) => (x.2, x.1)) (k + t)) ((cargs ++ List.replicate n undef).getD t undef)
  | [], cargs, n, k, t, h => by simp [look, Conc]
  | v :: args, cargs, n, k, t, h => by
    simp only [ConcL] at h
    obtain ⟨u, us, rfl, h1, h2⟩ := h
    simp only [List.zipIdx_cons, List.map_cons, look]
    cases t with
    | zero => simpa using h1
    | succ t =>
      rw [if_neg (by omega)]
      have := slots_args (n := n) (k := k + 1) (t := t) h2
      rw [show k + (t + 1) = k + 1 + t by omega]
      simpa using this

theorem acall_of {P : Program} {muts : List FuncId} {g : FuncId} {fn : Func} {c : Code} {ac : ACode} {rs : List ARes} {n : Nat} {args : List AV} {H : List Blk} {Q : AV → List Blk → Prop}
    (hcf : ∀ cargs w, (callFunc g cargs).run P w = .ok (.enter g cargs) w) (hf : P.funcs[g]? = some fn) (hbody : fn.body = some c) (hrs : trRes P fn.results.toList = some rs) (hn : fn.ntmps = n) (hc : trCode P muts n c = some ac)
    (h : T none P muts n H.length ac ⟨(args.zipIdx 0).map fun (x : AV × Nat) => (x.2, x.1), H⟩ (leave H.length rs Q)) : ACall P g args H Q := by
  refine ⟨hcf, fun C cargs hH hR hl => ?_⟩
  subst hH
  refine callsIn_wide.1 (callsIn_of_wp_marks (F := FR none) (n := 0) hf hbody trivial ?_ rfl)
  have hrel : Rel n C ⟨(args.zipIdx 0).map fun (x : AV × Nat) => (x.2, x.1), C.H⟩ C { tmps := cargs.toArray ++ Array.replicate (fn.ntmps - cargs.toArray.size) undef, defers := [] } := by
    refine ⟨rfl, hR, Step.refl C, ⟨fun t => ?_⟩, Marks.nil _ _, by simp [hn]; omega⟩
    have := slots_args (n := fn.ntmps - cargs.length) (k := 0) (t := t) hl
    rw [Nat.zero_add] at this
    show Conc C (look _ t) _
    have e : ({ tmps := cargs.toArray ++ Array.replicate (fn.ntmps - cargs.toArray.size) undef, defers := [] } : Act).tmps.getD t undef = (cargs ++ List.replicate (fn.ntmps - cargs.length) undef).getD t undef := by
      rw [Array.getD_eq_getD_getElem?, List.getD_eq_getElem?_getD]
      congr 1
      rw [← Array.getElem?_toList]
      simp
    rw [e]; exact this
  refine wpIn_mono (h c hc C C _ rfl hrel) ?_
  rintro e a' w' ⟨σ', C', rfl, hK, hR'⟩
  have fin : leave C.H.length rs Q .normal σ' → LeavesInM (FR none) 0 P fn a'.tmps (fun e w' => ∃ u r H' m', e = .returned u ∧ Q r H' ∧ Step C ⟨H', m', w', C.prot⟩ ∧ HeapRel ⟨H', m', w', C.prot⟩ ∧ Conc ⟨H', m', w', C.prot⟩ r u) a'.defers .returning C'.w := by
    rintro ⟨vs, ids, h1, h2, h3, h4, h5⟩
    obtain ⟨bs, hds, hnd, hbs⟩ := hR'.defers
    rw [hds]
    refine leaves_marks bs _ hnd (fun b hb => (hbs b hb).2) ?_
    have hR3 := shut_ok hR' hbs
    obtain ⟨us, hrun, hus⟩ := resL_run (P := P) hR3 hrs h1
    dsimp only at hrun
    have hres : (results fn a'.tmps).run P (shut C'.w bs) = .ok (if h : us.toArray.size = 1 then us.toArray[0] else .tuple us.toArray) (shut C'.w bs) := by
      rw [results_eq, Array.mapM_eq_mapM_toList]
      simp only [Sem.run_bind, Sem.run_map, hrun, Result.andThen_ok, Sem.run_pure]
    obtain ⟨C2, hw2, hR2, hren⟩ := keep_ok (N := n) (ts := []) h2 h3 h4 rfl hR3
    refine ⟨_, hres, _, ren (keepρ C.H.length ids) (tupOf vs), C2.H, C2.m, rfl, by rw [hR2.heap]; exact h5, ?_⟩
    have hp : C2.prot = C.prot := hR2.step.prot
    obtain ⟨H2, m2, w2, p2⟩ := C2
    dsimp only at hw2 hp ⊢
    subst hw2 hp
    exact ⟨hR2.step, hR2.rel, Conc.ren hren _ _ (conc_tupOf hus)⟩
  cases e with
  | normal => exact fin hK
  | ret => exact fin hK
  | _ => exact hK.elim

/-- the blocks as they are -/
def leaveA (rs : List ARes) (Q : AV → List Blk → Prop) : Exit → St → Prop
  | .normal, σ | .ret, σ => ∃ vs, resL σ rs = some vs ∧ Q (tupOf vs) σ.heap
  | _, _ => False
theorem acall_all {P : Program} {muts : List FuncId} {g : FuncId} {fn : Func} {c : Code} {ac : ACode} {rs : List ARes} {n : Nat} {args : List AV} {H : List Blk} {Q : AV → List Blk → Prop}
    (hcf : ∀ cargs w, (callFunc g cargs).run P w = .ok (.enter g cargs) w) (hf : P.funcs[g]? = some fn) (hbody : fn.body = some c) (hrs : trRes P fn.results.toList = some rs) (hn : fn.ntmps = n) (hc : trCode P muts n c = some ac)
    (h : T none P muts n H.length ac ⟨(args.zipIdx 0).map fun (x : AV × Nat) => (x.2, x.1), H⟩ (leaveA rs Q)) : ACall P g args H Q := by
  refine ⟨hcf, fun C cargs hH hR hl => ?_⟩
  subst hH
  refine callsIn_wide.1 (callsIn_of_wp_marks (F := FR none) (n := 0) hf hbody trivial ?_ rfl)
  have hrel : Rel n C ⟨(args.zipIdx 0).map fun (x : AV × Nat) => (x.2, x.1), C.H⟩ C { tmps := cargs.toArray ++ Array.replicate (fn.ntmps - cargs.toArray.size) undef, defers := [] } := by
    refine ⟨rfl, hR, Step.refl C, ⟨fun t => ?_⟩, Marks.nil _ _, by simp [hn]; omega⟩
    have := slots_args (n := fn.ntmps - cargs.length) (k := 0) (t := t) hl
    rw [Nat.zero_add] at this
    show Conc C (look _ t) _
    have e : ({ tmps := cargs.toArray ++ Array.replicate (fn.ntmps - cargs.toArray.size) undef, defers := [] } : Act).tmps.getD t undef = (cargs ++ List.replicate (fn.ntmps - cargs.length) undef).getD t undef := by
      rw [Array.getD_eq_getD_getElem?, List.getD_eq_getElem?_getD]
      congr 1
      rw [← Array.getElem?_toList]
      simp
    rw [e]; exact this
  refine wpIn_mono (h c hc C C _ rfl hrel) ?_
  rintro e a' w' ⟨σ', C', rfl, hK, hR'⟩
  have fin : leaveA rs Q .normal σ' → LeavesInM (FR none) 0 P fn a'.tmps (fun e w' => ∃ u r H' m', e = .returned u ∧ Q r H' ∧ Step C ⟨H', m', w', C.prot⟩ ∧ HeapRel ⟨H', m', w', C.prot⟩ ∧ Conc ⟨H', m', w', C.prot⟩ r u) a'.defers .returning C'.w := by
    rintro ⟨vs, h1, h5⟩
    obtain ⟨bs, hds, hnd, hbs⟩ := hR'.defers
    rw [hds]
    refine leaves_marks bs _ hnd (fun b hb => (hbs b hb).2) ?_
    have hR3 := shut_ok hR' hbs
    obtain ⟨us, hrun, hus⟩ := resL_run (P := P) hR3 hrs h1
    dsimp only at hrun
    have hres : (results fn a'.tmps).run P (shut C'.w bs) = .ok (if h : us.toArray.size = 1 then us.toArray[0] else .tuple us.toArray) (shut C'.w bs) := by
      rw [results_eq, Array.mapM_eq_mapM_toList]
      simp only [Sem.run_bind, Sem.run_map, hrun, Result.andThen_ok, Sem.run_pure]
    refine ⟨_, hres, _, tupOf vs, σ'.heap, C'.m, rfl, h5, ?_⟩
    have hp : C'.prot = C.prot := hR3.step.prot
    have hH : C'.H = σ'.heap := hR3.heap
    have e1 := hR3.step
    have e2 := hR3.rel
    have e3 := conc_tupOf hus
    obtain ⟨H2, m2, w2, p2⟩ := C'
    dsimp only at hp hH e1 e2 e3 ⊢
    subst hp hH
    exact ⟨e1, e2, e3⟩
  cases e with
  | normal => exact fin hK
  | ret => exact fin hK
  | _ => exact hK.elim

theorem callFunc_ok {P : Program} {g : FuncId} {fn : Func} (hf : P.funcs[g]? = some fn) (hb : fn.body.isNone = false) (hn : (fn.name == "runtime.NumGoroutine") = false) (args : Array Value) (w : World) : (callFunc g args).run P w = .ok (.enter g args) w := by
  simp only [callFunc, Sem.run_bind, run_program, Result.andThen_ok, hf, hn, hb, Bool.false_eq_true, if_false, Sem.run_pure]
end Go.Abs
