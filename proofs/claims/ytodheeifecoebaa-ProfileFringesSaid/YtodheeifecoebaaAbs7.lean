/- How the blocks of an abstract state follow what is done to the world. -/
import Derived.Test.YtodheeifecoebaaAbs6
set_option linter.all false
set_option linter.unusedVariables false
set_option linter.unusedSimpArgs false
set_option linter.unusedSectionVars false
namespace Go.Abs
open Go.RowKit
section
variable {P : Program} {C : Ctx}

theorem set_get_ne {α : Type} {l : List α} {i j : Nat} {x : α} (h : i ≠ j) : (l.set i x)[j]? = l[j]? := by simp [h]
theorem set_get_eq {α : Type} {l : List α} {i : Nat} {x : α} (h : i < l.length) : (l.set i x)[i]? = some x := by simp [h]
theorem lt_of_get {α : Type} {l : List α} {i : Nat} {x : α} (h : l[i]? = some x) : i < l.length := (List.getElem?_eq_some_iff.1 h).1

theorem lt_of_heap {w : World} {b : Nat} {x : Obj} (h : w.heap[b]? = some x) : b < w.heap.size := (Array.getElem?_eq_some_iff.1 h).1

structure SameRest (w w1 : World) : Prop where
  heap : w1.heap = w.heap
  os : w1.os = w.os
  tape : w1.tape = w.tape
  output : w1.output = w.output
theorem SameRest.refl (w : World) : SameRest w w := ⟨rfl, rfl, rfl, rfl⟩
theorem SameRest.drew (w : World) : SameRest w w.drew := ⟨rfl, rfl, rfl, rfl⟩

def Blk.isObj : Blk → Bool
  | .obj _ => true
  | _ => false
/-- the blocks of another make are as they were -/
structure ObjSame (C C' : Ctx) : Prop where
  iff : ∀ (id : Nat) o, C'.H[id]? = some (Blk.obj o) ↔ C.H[id]? = some (Blk.obj o)
  m : ∀ (id : Nat) o, C.H[id]? = some (Blk.obj o) → C'.m[id]? = C.m[id]?
  heap : ∀ (id : Nat) o b x, C.H[id]? = some (Blk.obj o) → C.m[id]? = some (some (b, 0)) → C.w.heap[b]? = some x → o.is x → C'.w.heap[b]? = some x
  prot : C'.prot = C.prot
namespace ObjSame
variable {C' : Ctx}
theorem objs (h : ObjSame C C') (id : Nat) (o : Ob) (ho : C.H[id]? = some (Blk.obj o)) : ∃ o', C'.H[id]? = some (Blk.obj o') ∧ C'.m[id]? = C.m[id]? ∧ o'.key = o.key :=
  ⟨o, (h.iff id o).2 ho, h.m id o ho, rfl⟩
theorem objr (h : ObjSame C C') (id : Nat) (o : Ob) (B : Blk) (ho : C'.H[id]? = some (Blk.obj o)) (hB : C.H[id]? = some B) (_ : B ≠ Blk.resv) : ∃ o', B = Blk.obj o' :=
  ⟨o, by have := (h.iff id o).1 ho; rw [hB] at this; exact Option.some.inj this⟩
theorem own (h : ObjSame C C') {b : Nat} : C'.ownO b → C.ownO b := fun ⟨id, o, h1, h0, h2⟩ =>
  let h3 := (h.iff id o).1 h1
  ⟨id, o, h3, h0, by rw [← h.m id o h3]; exact h2⟩
theorem obj (h : ObjSame C C') (hR : HeapRel C) (id : Nat) (o : Ob) (ho : C'.H[id]? = some (Blk.obj o)) (hx : o ≠ .lpx) : ∃ b x, C'.m[id]? = some (some (b, 0)) ∧ ¬ C'.prot b ∧ C'.w.heap[b]? = some x ∧ o.is x := by
  have h1 := (h.iff id o).1 ho
  obtain ⟨b, x, h2, h3, h4, h5⟩ := hR.obj id o h1 hx
  exact ⟨b, x, (h.m id o h1).trans h2, by rw [h.prot]; exact h3, h.heap id o b x h1 h2 h4 h5, h5⟩
theorem oinj (h : ObjSame C C') (hR : HeapRel C) (id id' : Nat) (o o' : Ob) (b base base' : Nat) (hne : id ≠ id') (hx : o ≠ .lpx) (hx' : o' ≠ .lpx) (h1 : C'.H[id]? = some (Blk.obj o)) (h2 : C'.H[id']? = some (Blk.obj o')) (h3 : C'.m[id]? = some (some (b, base))) (h4 : C'.m[id']? = some (some (b, base'))) : False := by
  have h1' := (h.iff id o).1 h1
  have h2' := (h.iff id' o').1 h2
  rw [h.m id o h1'] at h3
  rw [h.m id' o' h2'] at h4
  exact hR.oinj id id' o o' b base base' hne hx hx' h1' h2' h3 h4
theorem lps (h : ObjSame C C') (hR : HeapRel C) (hs : Step C C') (id : Nat) (r : Loop) (s : List (Nat × AV)) (ho : C'.H[id]? = some (Blk.obj (.lp r s))) (t : Nat) : Conc C' (look s t) (r.tmps.getD t undef) :=
  Conc.mono hs _ _ (hR.lps id r s ((h.iff id _).1 ho) t)
end ObjSame
theorem set_obj {l : List Blk} {i : Nat} {X Y : Blk} (hY : l[i]? = some Y) (hX : X.isObj = false) (hYo : Y.isObj = false) (id : Nat) (o : Ob) : (l.set i X)[id]? = some (Blk.obj o) ↔ l[id]? = some (Blk.obj o) := by
  by_cases h : id = i
  · subst h
    rw [set_get_eq (lt_of_get hY), hY]
    constructor
    · intro h; obtain rfl := Option.some.inj h; simp [Blk.isObj] at hX
    · intro h; obtain rfl := Option.some.inj h; simp [Blk.isObj] at hYo
  · rw [set_get_ne (Ne.symm h)]
theorem ne_of_obj {l : List Blk} {i : Nat} {Y : Blk} (hY : l[i]? = some Y) (hYo : Y.isObj = false) {id : Nat} {o : Ob} (h : l[id]? = some (Blk.obj o)) : i ≠ id := by
  rintro rfl; rw [hY] at h; obtain rfl := Option.some.inj h; simp [Blk.isObj] at hYo

/-- a block of its own is made -/
theorem alloc_ok (hR : HeapRel C) {fr : Nat} (hfr : C.H[fr]? = some .resv) {w1 : World} (hw : SameRest C.w w1) {c : Array Value} {e : TypeId} {sz : Nat} {els : List (List AV)}
    (hrows : ∀ C', Step C C' → C'.w = w1.alloc (.cells c e) → RowsAt C' C.w.heap.size 0 sz els) :
    Step C ⟨C.H.set fr (.cells true false sz els), C.m.set fr (some (C.w.heap.size, 0)), w1.alloc (.cells c e), C.prot⟩ ∧
    HeapRel ⟨C.H.set fr (.cells true false sz els), C.m.set fr (some (C.w.heap.size, 0)), w1.alloc (.cells c e), C.prot⟩ ∧
    (w1.alloc (.cells c e)).heap[C.w.heap.size]? = some (.cells c e (0, 0)) := by
  have hsz : w1.heap.size = C.w.heap.size := by rw [hw.heap]
  have hfrl := lt_of_get hfr
  have hfrm : fr < C.m.length := by rw [hR.len]; exact hfrl
  have hheap : ∀ k, k < C.w.heap.size → (w1.alloc (.cells c e)).heap[k]? = C.w.heap[k]? := fun k hk => by
    rw [Below.heap_alloc _ _ _ (by omega), hw.heap]
  have hnew : (w1.alloc (.cells c e)).heap[C.w.heap.size]? = some (.cells c e (0, 0)) := by
    show (w1.heap.push _)[C.w.heap.size]? = _
    rw [Array.getElem?_push, if_pos hsz.symm]
  have hobj : ObjSame C ⟨C.H.set fr (.cells true false sz els), C.m.set fr (some (C.w.heap.size, 0)), w1.alloc (.cells c e), C.prot⟩ :=
    ⟨set_obj hfr rfl rfl, fun id o ho => set_get_ne (ne_of_obj hfr rfl ho), fun id o b x _ _ hx _ => (hheap b (lt_of_heap hx)).trans hx, rfl⟩
  have hstep : Step C ⟨C.H.set fr (.cells true false sz els), C.m.set fr (some (C.w.heap.size, 0)), w1.alloc (.cells c e), C.prot⟩ := by
    refine ⟨hw.os, hw.tape, hw.output, rfl, by simp [hsz], by simp, fun b hb _ => hheap b hb, fun b c0 e0 f0 hb => ⟨c0, f0, (hheap b (lt_of_heap hb)).trans hb, rfl⟩, ?_, ?_, hobj.objs, hobj.objr⟩
    · rintro b (⟨id, nil, sz', els', base, h1, h2⟩ | ho)
      rotate_left
      · exact .inl (.inr (hobj.own ho))
      by_cases hid : id = fr
      · subst hid
        simp only [set_get_eq hfrm, Option.some.injEq, Prod.mk.injEq] at h2
        exact .inr (by omega)
      · simp only [set_get_ne (Ne.symm hid)] at h1 h2
        exact .inl (.inl ⟨id, nil, sz', els', base, h1, h2⟩)
    · intro id B hB hr
      have hid : fr ≠ id := by rintro rfl; rw [hfr] at hB; exact hr (Option.some.inj hB).symm
      refine ⟨⟨B, by simp only [set_get_ne hid]; exact hB, hr⟩, fun own' nil' sz' els' h => ?_⟩
      simp only [set_get_ne hid] at h ⊢
      exact ⟨own', els', by rw [hB] at h; exact Option.some.inj h, rfl, fun h => h, trivial⟩
  refine ⟨hstep, ⟨by simp [hR.len], ?_, ?_, ?_, hobj.obj hR, hobj.oinj hR, hobj.lps hR hstep⟩, hnew⟩
  · intro id own nil sz' els' h
    by_cases hid : id = fr
    · subst hid
      simp only [set_get_eq hfrl, Option.some.injEq, Blk.cells.injEq] at h
      obtain ⟨rfl, rfl, rfl, rfl⟩ := h
      refine .inr ⟨rfl, C.w.heap.size, 0, c, e, by simp [set_get_eq hfrm], fun hp => ?_, hnew, hrows _ hstep rfl⟩
      have := hR.prot _ hp; omega
    · simp only [set_get_ne (Ne.symm hid)] at h ⊢
      rcases hR.blk id own nil sz' els' h with h1 | ⟨hn, b, base, c0, e0, h1, h2, h3, h4⟩
      · exact .inl h1
      · have hlt := lt_of_heap h3
        exact .inr ⟨hn, b, base, c0, e0, h1, h2, (hheap b hlt).trans h3, RowsAt.keep hstep els' b base sz' (fun o _ _ => World.cell?_of_block (w := C.w) (hheap b hlt)) h4⟩
  · intro id id' nil sz1 els1 own' nil' sz2 els2 b base base' hne h1 h2 h3 h4
    by_cases hid : id = fr
    · subst hid
      simp only [set_get_eq hfrm, Option.some.injEq, Prod.mk.injEq] at h3
      simp only [set_get_ne hne] at h2 h4
      rcases hR.blk id' own' nil' sz2 els2 h2 with h5 | ⟨_, b', base2, c0, e0, h5, _, h6, _⟩
      · rw [h4] at h5; simp at h5
      · rw [h4] at h5; simp at h5; have := lt_of_heap h6; omega
    · simp only [set_get_ne (Ne.symm hid)] at h1 h3
      by_cases hid' : id' = fr
      · subst hid'
        simp only [set_get_eq hfrm, Option.some.injEq, Prod.mk.injEq] at h4
        rcases hR.blk id true nil sz1 els1 h1 with h5 | ⟨_, b', base2, c0, e0, h5, _, h6, _⟩
        · rw [h3] at h5; simp at h5
        · rw [h3] at h5; simp at h5; have := lt_of_heap h6; omega
      · simp only [set_get_ne (Ne.symm hid')] at h2 h4
        exact hR.inj id id' nil sz1 els1 own' nil' sz2 els2 b base base' hne h1 h2 h3 h4
  · intro b hb
    have := hR.prot b hb
    simp; omega

/-- a slice that is nil, or empty without room -/
theorem virt_ok (hR : HeapRel C) {fr : Nat} (hfr : C.H[fr]? = some .resv) {nil : Bool} {sz : Nat} :
    Step C ⟨C.H.set fr (.cells true nil sz []), C.m.set fr none, C.w, C.prot⟩ ∧ HeapRel ⟨C.H.set fr (.cells true nil sz []), C.m.set fr none, C.w, C.prot⟩ := by
  have hfrl := lt_of_get hfr
  have hfrm : fr < C.m.length := by rw [hR.len]; exact hfrl
  have hobj : ObjSame C ⟨C.H.set fr (.cells true nil sz []), C.m.set fr none, C.w, C.prot⟩ :=
    ⟨set_obj hfr rfl rfl, fun id o ho => set_get_ne (ne_of_obj hfr rfl ho), fun id o b x _ _ hx _ => hx, rfl⟩
  have hstep : Step C ⟨C.H.set fr (.cells true nil sz []), C.m.set fr none, C.w, C.prot⟩ := by
    refine ⟨rfl, rfl, rfl, rfl, Nat.le_refl _, by simp, fun b hb _ => rfl, fun b c0 e0 f0 hb => ⟨c0, f0, hb, rfl⟩, ?_, ?_, hobj.objs, hobj.objr⟩
    · rintro b (⟨id, nil, sz', els', base, h1, h2⟩ | ho)
      rotate_left
      · exact .inl (.inr (hobj.own ho))
      by_cases hid : id = fr
      · subst hid
        simp [set_get_eq hfrm] at h2
      · simp only [set_get_ne (Ne.symm hid)] at h1 h2
        exact .inl (.inl ⟨id, nil, sz', els', base, h1, h2⟩)
    · intro id B hB hr
      have hid : fr ≠ id := by rintro rfl; rw [hfr] at hB; exact hr (Option.some.inj hB).symm
      refine ⟨⟨B, by simp only [set_get_ne hid]; exact hB, hr⟩, fun own' nil' sz' els' h => ?_⟩
      simp only [set_get_ne hid] at h ⊢
      exact ⟨own', els', by rw [hB] at h; exact Option.some.inj h, rfl, fun h => h, trivial⟩
  refine ⟨hstep, ⟨by simp [hR.len], ?_, ?_, hR.prot, hobj.obj hR, hobj.oinj hR, hobj.lps hR hstep⟩⟩
  · intro id own nil' sz' els' h
    by_cases hid : id = fr
    · subst hid
      simp only [set_get_eq hfrl, Option.some.injEq, Blk.cells.injEq] at h
      obtain ⟨rfl, rfl, rfl, rfl⟩ := h
      exact .inl ⟨by simp [set_get_eq hfrm], rfl⟩
    · simp only [set_get_ne (Ne.symm hid)] at h ⊢
      rcases hR.blk id own nil' sz' els' h with h1 | ⟨hn, b, base, c0, e0, h1, h2, h3, h4⟩
      · exact .inl h1
      · exact .inr ⟨hn, b, base, c0, e0, h1, h2, h3, RowsAt.keep hstep els' b base sz' (fun o _ _ => rfl) h4⟩
  · intro id id' nil sz1 els1 own' nil' sz2 els2 b base base' hne h1 h2 h3 h4
    by_cases hid : id = fr
    · subst hid
      simp [set_get_eq hfrm] at h3
    · by_cases hid' : id' = fr
      · subst hid'
        simp [set_get_eq hfrm] at h4
      · simp only [set_get_ne (Ne.symm hid), set_get_ne (Ne.symm hid')] at h1 h2 h3 h4
        exact hR.inj id id' nil sz1 els1 own' nil' sz2 els2 b base base' hne h1 h2 h3 h4

/-- a block is given up, or frozen -/
theorem turn_ok (hR : HeapRel C) {id : Nat} {own nil : Bool} {sz : Nat} {els : List (List AV)} (hid : C.H[id]? = some (.cells own nil sz els)) {B : Blk} (hB : B = .dead ∨ B = .cells false nil sz els) :
    Step C ⟨C.H.set id B, C.m, C.w, C.prot⟩ ∧ HeapRel ⟨C.H.set id B, C.m, C.w, C.prot⟩ := by
  have hl := lt_of_get hid
  have hBr : B ≠ .resv := by rcases hB with rfl | rfl <;> simp
  have hBo : ∀ o n s e, B = .cells o n s e → o = false ∧ n = nil ∧ s = sz ∧ e = els := by
    intro o n s e h
    rcases hB with rfl | rfl
    · simp at h
    · simp at h; obtain ⟨rfl, rfl, rfl, rfl⟩ := h; exact ⟨rfl, rfl, rfl, rfl⟩
  have hobj : ObjSame C ⟨C.H.set id B, C.m, C.w, C.prot⟩ :=
    ⟨set_obj hid (by rcases hB with rfl | rfl <;> rfl) rfl, fun id o ho => rfl, fun id o b x _ _ hx _ => hx, rfl⟩
  have hstep : Step C ⟨C.H.set id B, C.m, C.w, C.prot⟩ := by
    refine ⟨rfl, rfl, rfl, rfl, Nat.le_refl _, by simp, fun b hb _ => rfl, fun b c0 e0 f0 hb => ⟨c0, f0, hb, rfl⟩, ?_, ?_, hobj.objs, hobj.objr⟩
    · rintro b (⟨k, n, sz', els', base, h1, h2⟩ | ho)
      rotate_left
      · exact .inl (.inr (hobj.own ho))
      by_cases hk : k = id
      · subst hk
        simp only [set_get_eq hl, Option.some.injEq] at h1
        have := hBo _ _ _ _ h1
        simp at this
      · simp only [set_get_ne (Ne.symm hk)] at h1 h2
        exact .inl (.inl ⟨k, n, sz', els', base, h1, h2⟩)
    · intro k K hK hr
      by_cases hk : k = id
      · subst hk
        refine ⟨⟨B, by simp [set_get_eq hl], hBr⟩, fun own' nil' sz' els' h => ?_⟩
        simp only [set_get_eq hl, Option.some.injEq] at h
        obtain ⟨rfl, rfl, rfl, rfl⟩ := hBo _ _ _ _ h
        rw [hid] at hK
        exact ⟨own, _, (Option.some.inj hK).symm, rfl, by simp, rfl⟩
      · refine ⟨⟨K, by simp only [set_get_ne (Ne.symm hk)]; exact hK, hr⟩, fun own' nil' sz' els' h => ?_⟩
        simp only [set_get_ne (Ne.symm hk)] at h ⊢
        exact ⟨own', els', by rw [hK] at h; exact Option.some.inj h, rfl, fun h => h, trivial⟩
  refine ⟨hstep, ⟨by simp [hR.len], ?_, ?_, hR.prot, hobj.obj hR, hobj.oinj hR, hobj.lps hR hstep⟩⟩
  · intro k own' nil' sz' els' h
    by_cases hk : k = id
    · subst hk
      simp only [set_get_eq hl, Option.some.injEq] at h
      obtain ⟨rfl, rfl, rfl, rfl⟩ := hBo _ _ _ _ h
      rcases hR.blk k own nil' sz' els' hid with h1 | ⟨hn, b, base, c0, e0, h1, h2, h3, h4⟩
      · exact .inl h1
      · exact .inr ⟨hn, b, base, c0, e0, h1, h2, h3, RowsAt.keep hstep els' b base sz' (fun o _ _ => rfl) h4⟩
    · simp only [set_get_ne (Ne.symm hk)] at h ⊢
      rcases hR.blk k own' nil' sz' els' h with h1 | ⟨hn, b, base, c0, e0, h1, h2, h3, h4⟩
      · exact .inl h1
      · exact .inr ⟨hn, b, base, c0, e0, h1, h2, h3, RowsAt.keep hstep els' b base sz' (fun o _ _ => rfl) h4⟩
  · intro k k' n sz1 els1 own' n' sz2 els2 b base base' hne h1 h2 h3 h4
    by_cases hk : k = id
    · subst hk
      simp only [set_get_eq hl, Option.some.injEq] at h1
      have := hBo _ _ _ _ h1
      simp at this
    · simp only [set_get_ne (Ne.symm hk)] at h1
      by_cases hk' : k' = id
      · subst hk'
        exact hR.inj k k' n sz1 els1 own nil sz els b base base' hne h1 hid h3 h4
      · simp only [set_get_ne (Ne.symm hk')] at h2
        exact hR.inj k k' n sz1 els1 own' n' sz2 els2 b base base' hne h1 h2 h3 h4

/-- what is written into block b, and nothing else -/
structure Wrote (w w' : World) (b : Nat) : Prop where
  os : w'.os = w.os
  tape : w'.tape = w.tape
  output : w'.output = w.output
  size : w'.heap.size = w.heap.size
  other : ∀ k, k ≠ b → w'.heap[k]? = w.heap[k]?
  here : ∀ c e f, w.heap[b]? = some (.cells c e f) → ∃ c', w'.heap[b]? = some (.cells c' e f) ∧ c'.size = c.size

/-- a block of its own is written, and kept or handed to another number -/
theorem write_ok (hR : HeapRel C) {id fr : Nat} {nil : Bool} {sz b base base' : Nat} {els els' : List (List AV)} (hid : C.H[id]? = some (.cells true nil sz els)) (hm : C.m[id]? = some (some (b, base))) {w' : World} (hw : Wrote C.w w' b)
    (hfr : (fr = id ∧ els'.length = els.length ∧ base' = base) ∨ C.H[fr]? = some .resv)
    (hrows : ∀ C', Step C C' → C'.w = w' → RowsAt C' b base' sz els') :
    Step C ⟨(C.H.set id .dead).set fr (.cells true false sz els'), C.m.set fr (some (b, base')), w', C.prot⟩ ∧ HeapRel ⟨(C.H.set id .dead).set fr (.cells true false sz els'), C.m.set fr (some (b, base')), w', C.prot⟩ := by
  have hl := lt_of_get hid
  have hfrl : fr < C.H.length := by rcases hfr with ⟨rfl, _⟩ | h; exact hl; exact lt_of_get h
  have hfrm : fr < C.m.length := by rw [hR.len]; exact hfrl
  obtain ⟨hnil, b1, base1, c1, e1, hm1, hp1, hb1, _⟩ : nil = false ∧ ∃ b base c e, C.m[id]? = some (some (b, base)) ∧ ¬ C.prot b ∧ C.w.heap[b]? = some (.cells c e (0, 0)) ∧ RowsAt C b base sz els := by
    rcases hR.blk id true nil sz els hid with ⟨h, _⟩ | h
    · rw [hm] at h; simp at h
    · exact h
  rw [hm] at hm1
  simp at hm1
  obtain ⟨rfl, rfl⟩ := hm1
  have hown : C.own b := .inl ⟨id, nil, sz, els, base, hid, hm⟩
  have hblt := lt_of_heap hb1
  have hH : ∀ k, k ≠ id → k ≠ fr → ((C.H.set id .dead).set fr (.cells true false sz els'))[k]? = C.H[k]? := fun k h1 h2 => by rw [set_get_ne (Ne.symm h2), set_get_ne (Ne.symm h1)]
  have hHf : ((C.H.set id .dead).set fr (.cells true false sz els'))[fr]? = some (.cells true false sz els') := set_get_eq (by simpa using hfrl)
  have hHi : id ≠ fr → ((C.H.set id .dead).set fr (.cells true false sz els'))[id]? = some .dead := fun h => by rw [set_get_ne (Ne.symm h), set_get_eq hl]
  have hmk : ∀ k, k ≠ fr → (C.m.set fr (some (b, base')))[k]? = C.m[k]? := fun k h => set_get_ne (Ne.symm h)
  have hmf : (C.m.set fr (some (b, base')))[fr]? = some (some (b, base')) := set_get_eq hfrm
  have hfrY : ∃ Y, C.H[fr]? = some Y ∧ Y.isObj = false := by
    rcases hfr with ⟨rfl, _⟩ | h
    · exact ⟨_, hid, rfl⟩
    · exact ⟨_, h, rfl⟩
  obtain ⟨Y, hY, hYo⟩ := hfrY
  have hfrY' : ∃ Y, (C.H.set id .dead)[fr]? = some Y ∧ Y.isObj = false := by
    by_cases h : fr = id
    · subst h; exact ⟨.dead, set_get_eq hl, rfl⟩
    · exact ⟨Y, by rw [set_get_ne (Ne.symm h)]; exact hY, hYo⟩
  obtain ⟨Y', hY', hYo'⟩ := hfrY'
  have hobj : ObjSame C ⟨(C.H.set id .dead).set fr (.cells true false sz els'), C.m.set fr (some (b, base')), w', C.prot⟩ :=
    ⟨fun k o => (set_obj hY' rfl hYo' k o).trans (set_obj hid rfl rfl k o), fun k o ho => set_get_ne (ne_of_obj hY hYo ho), fun k o b2 x _ _ hx hox => by
      have : b2 ≠ b := by rintro rfl; rw [hb1] at hx; obtain rfl := Option.some.inj hx; exact Ob.not_cells hox
      exact (hw.other b2 this).trans hx, rfl⟩
  have hstep : Step C ⟨(C.H.set id .dead).set fr (.cells true false sz els'), C.m.set fr (some (b, base')), w', C.prot⟩ := by
    refine ⟨hw.os, hw.tape, hw.output, rfl, by simp [hw.size], by simp, fun k _ hk => hw.other k (fun h => hk (h ▸ hown)), fun k c0 e0 f0 hb => ?_, ?_, ?_, hobj.objs, hobj.objr⟩
    · by_cases hkb : k = b
      · subst hkb; obtain ⟨c', h1, h2⟩ := hw.here _ _ _ hb; exact ⟨c', f0, h1, h2⟩
      · exact ⟨c0, f0, (hw.other k hkb).trans hb, rfl⟩
    · rintro k (⟨i, n, sz', els2, base2, h1, h2⟩ | ho)
      rotate_left
      · exact .inl (.inr (hobj.own ho))
      by_cases hif : i = fr
      · subst hif
        rw [hmf] at h2
        simp at h2
        obtain ⟨rfl, rfl⟩ := h2
        exact .inl hown
      · by_cases hii : i = id
        · subst hii
          rw [hHi hif] at h1
          simp at h1
        · rw [hH i hii hif] at h1
          rw [hmk i hif] at h2
          exact .inl (.inl ⟨i, n, sz', els2, base2, h1, h2⟩)
    · intro i B hB hr
      by_cases hif : i = fr
      · subst hif
        rcases hfr with ⟨rfl, hlen, hbb⟩ | h
        · refine ⟨⟨_, hHf, by simp⟩, fun own' nil' sz' els2 h => ?_⟩
          rw [hHf] at h
          simp at h
          obtain ⟨rfl, rfl, rfl, rfl⟩ := h
          rw [hid] at hB
          refine ⟨true, els, ?_, hlen.symm, by simp, by rw [hmf, hm, hbb]⟩
          rw [← hnil]; exact (Option.some.inj hB).symm
        · rw [h] at hB; exact (hr (Option.some.inj hB).symm).elim
      · by_cases hii : i = id
        · subst hii
          refine ⟨⟨_, hHi hif, by simp⟩, fun own' nil' sz' els2 h => ?_⟩
          rw [hHi hif] at h
          simp at h
        · refine ⟨⟨B, (hH i hii hif).trans hB, hr⟩, fun own' nil' sz' els2 h => ?_⟩
          rw [hH i hii hif] at h
          exact ⟨own', els2, by rw [hB] at h; exact Option.some.inj h, rfl, fun h => h, hmk i hif⟩
  obtain ⟨c', hb', hcs'⟩ := hw.here _ _ _ hb1
  refine ⟨hstep, ⟨by simp [hR.len], ?_, ?_, fun k hk => by have := hR.prot k hk; simp [hw.size]; omega, hobj.obj hR, hobj.oinj hR, hobj.lps hR hstep⟩⟩
  · intro k own' nil' sz' els2 h
    by_cases hkf : k = fr
    · subst hkf
      rw [hHf] at h
      simp at h
      obtain ⟨rfl, rfl, rfl, rfl⟩ := h
      exact .inr ⟨rfl, b, base', c', e1, hmf, hp1, hb', hrows _ hstep rfl⟩
    · by_cases hki : k = id
      · subst hki
        rw [hHi hkf] at h
        simp at h
      · rw [hH k hki hkf] at h
        rcases hR.blk k own' nil' sz' els2 h with h1 | ⟨hn, b2, base2, c0, e0, h1, h2, h3, h4⟩
        · exact .inl ⟨(hmk k hkf).trans h1.1, h1.2⟩
        · have hne : b2 ≠ b := by
            rintro rfl
            exact hR.inj id k nil sz els own' nil' sz' els2 b2 base base2 (Ne.symm hki) hid h hm h1
          exact .inr ⟨hn, b2, base2, c0, e0, (hmk k hkf).trans h1, h2, (hw.other b2 hne).trans h3, RowsAt.keep hstep els2 b2 base2 sz' (fun o _ _ => World.cell?_of_block (w := C.w) (hw.other b2 hne)) h4⟩
  · intro k k' n sz1 els1 own' n' sz2 els2 b2 base1 base2 hne h1 h2 h3 h4
    dsimp only at h1 h2 h3 h4
    -- a number other than fr that is alive lies at a block other than b
    have hoth : ∀ k own n sz1 els1 base1 b2, k ≠ fr → ((C.H.set id .dead).set fr (.cells true false sz els'))[k]? = some (.cells own n sz1 els1) → C.m[k]? = some (some (b2, base1)) → b2 ≠ b := by
      intro k own n sz1 els1 base1 b2 hkf h1 h3 hbb
      by_cases hki : k = id
      · rw [hki, hHi (fun h => hkf (hki.trans h))] at h1; simp at h1
      · rw [hH k hki hkf] at h1
        rw [hbb] at h3
        exact hR.inj id k nil sz els own n sz1 els1 b base base1 (Ne.symm hki) hid h1 hm h3
    by_cases hkf : k = fr
    · subst hkf
      rw [hmf] at h3
      simp at h3
      obtain ⟨rfl, rfl⟩ := h3
      rw [hmk k' (Ne.symm hne)] at h4
      exact hoth k' own' n' sz2 els2 base2 b (Ne.symm hne) h2 h4 rfl
    · by_cases hkf' : k' = fr
      · subst hkf'
        rw [hmf] at h4
        simp at h4
        obtain ⟨rfl, rfl⟩ := h4
        rw [hmk k hkf] at h3
        exact hoth k true n sz1 els1 base1 b hkf h1 h3 rfl
      · rw [hmk k hkf] at h3
        rw [hmk k' hkf'] at h4
        by_cases hki : k = id
        · rw [hki, hHi (fun h => hkf (hki.trans h))] at h1; simp at h1
        · by_cases hki' : k' = id
          · rw [hki', hHi (fun h => hkf' (hki'.trans h))] at h2; simp at h2
          · rw [hH k hki hkf] at h1
            rw [hH k' hki' hkf'] at h2
            exact hR.inj k k' n sz1 els1 own' n' sz2 els2 b2 base1 base2 hne h1 h2 h3 h4

theorem wrote_setCells (w : World) (b : Nat) : ∀ (vs : List Value) (o : Nat), Wrote w (w.setCells b o vs) b
  | vs, o => by
    induction vs generalizing o w with
    | nil => exact ⟨rfl, rfl, rfl, rfl, fun _ _ => rfl, fun c e f h => ⟨c, h, rfl⟩⟩
    | cons v vs ih =>
      have h := ih (w.setCell ⟨b, o, none⟩ v) (o + 1)
      have e : w.setCells b o (v :: vs) = (w.setCell ⟨b, o, none⟩ v).setCells b (o + 1) vs := rfl
      rw [e]
      refine ⟨h.os, h.tape, h.output, by rw [h.size]; simp, fun k hk => by rw [h.other k hk, Below.heap_setCell _ _ _ _ hk], fun c e f hc => ?_⟩
      obtain ⟨c', h1, h2⟩ := h.here (c.setIfInBounds o v) e f (by simp [World.setCell, Array.getElem?_modify, hc])
      exact ⟨c', h1, by rw [h2]; simp⟩
end
end Go.Abs
