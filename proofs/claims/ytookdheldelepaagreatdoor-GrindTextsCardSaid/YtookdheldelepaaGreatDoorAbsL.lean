import Derived.Test.YtookdheldelepaaGreatDoorAbs21
set_option linter.all false
set_option linter.unusedVariables false
set_option linter.unusedSimpArgs false
set_option linter.unusedSectionVars false
/- A library function that the kit has a contract for, as a call of ours. -/
namespace Go.Abs
open Go.RowKit
def GlW (w : World) : Prop := ∀ p ∈ globs, ∃ c e f, w.heap[p.1]? = some (.cells c e f) ∧ p.2 c
theorem HeapRel.glw {C : Ctx} (h : HeapRel C) : GlW C.w := fun p hp => (h.gl p hp).2
theorem concL_lits {C : Ctx} : ∀ {vals cargs : List Value}, ConcL C (vals.map AV.lit) cargs → cargs = vals
  | [], _, h => h
  | v :: vals, _, h => by
    simp only [List.map_cons, ConcL, Conc] at h
    obtain ⟨u, us, rfl, rfl, h2⟩ := h
    rw [concL_lits h2]
theorem step_below {C : Ctx} (hH : C.H = []) (hm : C.m = []) {w' : World} (hb : Below C.w.heap.size C.w w') : Step C ⟨[], [], w', C.prot⟩ := by
  refine ⟨hb.os, hb.tape, hb.output, rfl, hb.size, by simp [hH], fun b hlt _ => hb.block _ hlt, fun b c e f h => ?_, fun b h => ?_, fun id B h => by simp [hH] at h, fun id o h => by simp [hH] at h, fun id o B h => by simp at h⟩
  · have hlt : b < C.w.heap.size := (Array.getElem?_eq_some_iff.1 h).1
    exact ⟨c, f, by dsimp only; rw [hb.block _ hlt]; exact h, rfl⟩
  · rcases h with ⟨_, _, _, _, _, h, _⟩ | ⟨_, _, h, _⟩ <;> simp at h
theorem rel_below {C : Ctx} (hR : HeapRel C) (hH : C.H = []) (hm : C.m = []) {w' : World} (hb : Below C.w.heap.size C.w w') : HeapRel ⟨[], [], w', C.prot⟩ :=
  ⟨rfl, fun _ _ _ _ _ h => by simp at h, fun _ _ _ _ _ _ _ _ _ _ _ _ _ h => by simp at h, fun b h => Nat.lt_of_lt_of_le (hR.prot b h) hb.size, fun _ _ h => by simp at h, fun _ _ _ _ _ _ _ _ _ _ h => by simp at h, fun _ _ _ h => by simp at h, hR.glS (step_below hH hm hb)⟩
/-- a call that only grows memory: what it gives is told of -/
theorem fn_out {P : Program} {g : FuncId} {fn : Func} (hf : P.funcs[g]? = some fn) (hb : fn.body.isNone = false) (hn : (fn.name == "runtime.NumGoroutine") = false) {args : List AV} {r : AV}
    (h : ∀ (C : Ctx) cargs, C.H = [] → HeapRel C → ConcL C args cargs → Calls P g cargs.toArray C.w fun e w' => ∃ u, e = .returned u ∧ Below C.w.heap.size C.w w' ∧ Conc ⟨[], [], w', C.prot⟩ r u) : Fn P g args r [] := by
  refine ⟨fun cargs w => callFunc_ok hf hb hn cargs w, fun C cargs hH hR hl => ?_⟩
  have hm : C.m = [] := List.length_eq_zero_iff.1 (by rw [hR.len, hH]; rfl)
  exact (h C cargs hH hR hl).mono fun e w' ⟨u, he, hbl, hc⟩ => ⟨u, r, [], [], he, ⟨rfl, rfl⟩, step_below hH hm hbl, rel_below hR hH hm hbl, hc⟩
/-- plain values in, a plain value out; nothing that was there is turned -/
theorem fn_lit {P : Program} {g : FuncId} {fn : Func} (hf : P.funcs[g]? = some fn) (hb : fn.body.isNone = false) (hn : (fn.name == "runtime.NumGoroutine") = false) {vals : List Value} {v : Value}
    (h : ∀ w, GlW w → Calls P g vals.toArray w fun e w' => e = .returned v ∧ Below w.heap.size w w') : Fn P g (vals.map AV.lit) (.lit v) [] := by
  refine fn_out hf hb hn fun C cargs hH hR hl => ?_
  obtain rfl := concL_lits hl
  exact (h C.w hR.glw).mono fun e w' ⟨he, hbl⟩ => ⟨v, he, hbl, by simp [Conc]⟩
/-- a list of plain values that lies in one new block -/
theorem conc_new {W w' : World} {prot : Nat → Prop} {b n cap : Nat} {c : Array Value} {e : TypeId} {f : Nat × Nat} {vs : List Value} (hb : w'.heap[b]? = some (.cells c e f)) (hn : ¬ prot b) (hv : vs = c.toList) (hone : ∀ v ∈ vs, v.oneCell' = true ∧ isOne (.lit v) = true)
    (hl : n = vs.length) (hcap : n ≤ cap) : Conc ⟨[], [], w', prot⟩ (.sl false 1 (vs.map fun v => [.lit v])) (.slice (some ⟨b, 0, none⟩) n cap) := by
  simp only [Conc, List.length_map]
  refine .inr (.inl ⟨trivial, b, 0, cap, by rw [hl], by omega, fun _ => ⟨?_, c, e, f, hb⟩, ?_⟩)
  · rintro ((⟨_, _, _, _, _, h, _⟩ | ⟨_, _, h, _⟩) | h)
    · simp at h
    · simp at h
    · exact hn h
  · refine RowsAt.of fun i r hr => ?_
    rw [List.getElem?_map] at hr
    simp only [Option.map_eq_some_iff] at hr
    obtain ⟨v, hv', rfl⟩ := hr
    refine ⟨rfl, ⟨v, ?_, (hone v (List.mem_of_getElem? hv')).1, (hone v (List.mem_of_getElem? hv')).2, by simp [Conc]⟩, trivial⟩
    have : c[i]? = some v := by rw [← Array.getElem?_toList, ← hv]; exact hv'
    simp only [World.cell?, Nat.zero_add, Nat.mul_one]
    rw [hb]; simpa using this
end Go.Abs
