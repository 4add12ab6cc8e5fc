import Derived.Test.YtookdheldelepaaGreatDoorAbsA
import Derived.Deep.Upon
import Derived.Laws.IdiomCopy
import Derived.MapKept
import Derived.WideMake
import Derived.Lib.ConvBytes
import Derived.Laws.BytesArg
set_option linter.all false
set_option linter.unusedVariables false
set_option linter.unusedSimpArgs false
set_option linter.unusedSectionVars false
/- How the blocks of an abstract state follow what is done to the world. -/
namespace Go.Abs
open Go.RowKit
section
variable {P : Program} {C : Ctx}

theorem set_get_ne {α : Type} {l : List α} {i j : Nat} {x : α} (h : i ≠ j) : (l.set i x)[j]? = l[j]? := by simp [h]
theorem set_get_eq {α : Type} {l : List α} {i : Nat} {x : α} (h : i < l.length) : (l.set i x)[i]? = some x := by simp [h]
theorem lt_of_get {α : Type} {l : List α} {i : Nat} {x : α} (h : l[i]? = some x) : i < l.length := (List.getElem?_eq_some_iff.1 h).1

theorem lt_of_heap {w : World} {b : Nat} {x : Obj} (h : w.heap[b]? = some x) : b < w.heap.size := (Array.getElem?_eq_some_iff.1 h).1

structure SameRest (w w1 : World) : Prop where
  heap : w1.heap = w.heap
  os : w1.os = w.os
  tape : w1.tape = w.tape
  output : w1.output = w.output
theorem SameRest.refl (w : World) : SameRest w w := ⟨rfl, rfl, rfl, rfl⟩
theorem SameRest.drew (w : World) : SameRest w w.drew := ⟨rfl, rfl, rfl, rfl⟩

def Blk.isObj : Blk → Bool
  | .obj _ => true
  | _ => false
/-- the blocks of another make are as they were -/
structure ObjSame (C C' : Ctx) : Prop where
  iff : ∀ (id : Nat) o, C'.H[id]? = some (Blk.obj o) ↔ C.H[id]? = some (Blk.obj o)
  m : ∀ (id : Nat) o, C.H[id]? = some (Blk.obj o) → C'.m[id]? = C.m[id]?
  heap : ∀ (id : Nat) o b x, C.H[id]? = some (Blk.obj o) → C.m[id]? = some (some (b, 0)) → C.w.heap[b]? = some x → o.is x → C'.w.heap[b]? = some x
  prot : C'.prot = C.prot
namespace ObjSame
variable {C' : Ctx}
theorem objs (h : ObjSame C C') (id : Nat) (o : Ob) (ho : C.H[id]? = some (Blk.obj o)) : ∃ o', C'.H[id]? = some (Blk.obj o') ∧ C'.m[id]? = C.m[id]? ∧ o'.key = o.key :=
  ⟨o, (h.iff id o).2 ho, h.m id o ho, rfl⟩
theorem objr (h : ObjSame C C') (id : Nat) (o : Ob) (B : Blk) (ho : C'.H[id]? = some (Blk.obj o)) (hB : C.H[id]? = some B) (_ : B ≠ Blk.resv) : ∃ o', B = Blk.obj o' :=
  ⟨o, by have := (h.iff id o).1 ho; rw [hB] at this; exact Option.some.inj this⟩
theorem own (h : ObjSame C C') {b : Nat} : C'.ownO b → C.ownO b := fun ⟨id, o, h1, h0, h2⟩ =>
  let h3 := (h.iff id o).1 h1
  ⟨id, o, h3, h0, by rw [← h.m id o h3]; exact h2⟩
theorem obj (h : ObjSame C C') (hR : HeapRel C) (id : Nat) (o : Ob) (ho : C'.H[id]? = some (Blk.obj o)) (hx : o ≠ .lpx) : ∃ b x, C'.m[id]? = some (some (b, 0)) ∧ ¬ C'.prot b ∧ C'.w.heap[b]? = some x ∧ o.is x := by
  have h1 := (h.iff id o).1 ho
  obtain ⟨b, x, h2, h3, h4, h5⟩ := hR.obj id o h1 hx
  exact ⟨b, x, (h.m id o h1).trans h2, by rw [h.prot]; exact h3, h.heap id o b x h1 h2 h4 h5, h5⟩
theorem oinj (h : ObjSame C C') (hR : HeapRel C) (id id' : Nat) (o o' : Ob) (b base base' : Nat) (hne : id ≠ id') (hx : o ≠ .lpx) (hx' : o' ≠ .lpx) (h1 : C'.H[id]? = some (Blk.obj o)) (h2 : C'.H[id']? = some (Blk.obj o')) (h3 : C'.m[id]? = some (some (b, base))) (h4 : C'.m[id']? = some (some (b, base'))) : False := by
  have h1' := (h.iff id o).1 h1
  have h2' := (h.iff id' o').1 h2
  rw [h.m id o h1'] at h3
  rw [h.m id' o' h2'] at h4
  exact hR.oinj id id' o o' b base base' hne hx hx' h1' h2' h3 h4
theorem lps (h : ObjSame C C') (hR : HeapRel C) (hs : Step C C') (id : Nat) (r : Loop) (s : List (Nat × AV)) (ho : C'.H[id]? = some (Blk.obj (.lp r s))) (t : Nat) : Conc C' (look s t) (r.tmps.getD t undef) :=
  Conc.mono hs _ _ (hR.lps id r s ((h.iff id _).1 ho) t)
end ObjSame
theorem set_obj {l : List Blk} {i : Nat} {X Y : Blk} (hY : l[i]? = some Y) (hX : X.isObj = false) (hYo : Y.isObj = false) (id : Nat) (o : Ob) : (l.set i X)[id]? = some (Blk.obj o) ↔ l[id]? = some (Blk.obj o) := by
  by_cases h : id = i
  · subst h
    rw [set_get_eq (lt_of_get hY), hY]
    constructor
    · intro h; obtain rfl := Option.some.inj h; simp [Blk.isObj] at hX
    · intro h; obtain rfl := Option.some.inj h; simp [Blk.isObj] at hYo
  · rw [set_get_ne (Ne.symm h)]
theorem ne_of_obj {l : List Blk} {i : Nat} {Y : Blk} (hY : l[i]? = some Y) (hYo : Y.isObj = false) {id : Nat} {o : Ob} (h : l[id]? = some (Blk.obj o)) : i ≠ id := by
  rintro rfl; rw [hY] at h; obtain rfl := Option.some.inj h; simp [Blk.isObj] at hYo

/-- a block of its own is made -/
theorem alloc_ok (hR : HeapRel C) {fr : Nat} (hfr : C.H[fr]? = some .resv) {w1 : World} (hw : SameRest C.w w1) {c : Array Value} {e : TypeId} {sz : Nat} {els : List (List AV)}
    (hrows : ∀ C', Step C C' → C'.w = w1.alloc (.cells c e) → RowsAt C' C.w.heap.size 0 sz els) :
    Step C ⟨C.H.set fr (.cells true false sz els), C.m.set fr (some (C.w.heap.size, 0)), w1.alloc (.cells c e), C.prot⟩ ∧
    HeapRel ⟨C.H.set fr (.cells true false sz els), C.m.set fr (some (C.w.heap.size, 0)), w1.alloc (.cells c e), C.prot⟩ ∧
    (w1.alloc (.cells c e)).heap[C.w.heap.size]? = some (.cells c e (0, 0)) := by
  have hsz : w1.heap.size = C.w.heap.size := by rw [hw.heap]
  have hfrl := lt_of_get hfr
  have hfrm : fr < C.m.length := by rw [hR.len]; exact hfrl
  have hheap : ∀ k, k < C.w.heap.size → (w1.alloc (.cells c e)).heap[k]? = C.w.heap[k]? := fun k hk => by
    rw [Below.heap_alloc _ _ _ (by omega), hw.heap]
  have hnew : (w1.alloc (.cells c e)).heap[C.w.heap.size]? = some (.cells c e (0, 0)) := by
    show (w1.heap.push _)[C.w.heap.size]? = _
    rw [Array.getElem?_push, if_pos hsz.symm]
  have hobj : ObjSame C ⟨C.H.set fr (.cells true false sz els), C.m.set fr (some (C.w.heap.size, 0)), w1.alloc (.cells c e), C.prot⟩ :=
    ⟨set_obj hfr rfl rfl, fun id o ho => set_get_ne (ne_of_obj hfr rfl ho), fun id o b x _ _ hx _ => (hheap b (lt_of_heap hx)).trans hx, rfl⟩
  have hstep : Step C ⟨C.H.set fr (.cells true false sz els), C.m.set fr (some (C.w.heap.size, 0)), w1.alloc (.cells c e), C.prot⟩ := by
    refine ⟨hw.os, hw.tape, hw.output, rfl, by simp [hsz], by simp, fun b hb _ => hheap b hb, fun b c0 e0 f0 hb => ⟨c0, f0, (hheap b (lt_of_heap hb)).trans hb, rfl⟩, ?_, ?_, hobj.objs, hobj.objr⟩
    · rintro b (⟨id, nil, sz', els', base, h1, h2⟩ | ho)
      rotate_left
      · exact .inl (.inr (hobj.own ho))
      by_cases hid : id = fr
      · subst hid
        simp only [set_get_eq hfrm, Option.some.injEq, Prod.mk.injEq] at h2
        exact .inr (by omega)
      · simp only [set_get_ne (Ne.symm hid)] at h1 h2
        exact .inl (.inl ⟨id, nil, sz', els', base, h1, h2⟩)
    · intro id B hB hr
      have hid : fr ≠ id := by rintro rfl; rw [hfr] at hB; exact hr (Option.some.inj hB).symm
      refine ⟨⟨B, by simp only [set_get_ne hid]; exact hB, hr⟩, fun own' nil' sz' els' h => ?_⟩
      simp only [set_get_ne hid] at h ⊢
      exact ⟨own', els', by rw [hB] at h; exact Option.some.inj h, rfl, fun h => h, trivial⟩
  refine ⟨hstep, ⟨by simp [hR.len], ?_, ?_, ?_, hobj.obj hR, hobj.oinj hR, hobj.lps hR hstep, hR.glS hstep⟩, hnew⟩
  · intro id own nil sz' els' h
    by_cases hid : id = fr
    · subst hid
      simp only [set_get_eq hfrl, Option.some.injEq, Blk.cells.injEq] at h
      obtain ⟨rfl, rfl, rfl, rfl⟩ := h
      refine .inr ⟨rfl, C.w.heap.size, 0, c, e, by simp [set_get_eq hfrm], fun hp => ?_, hnew, hrows _ hstep rfl⟩
      have := hR.prot _ hp; omega
    · simp only [set_get_ne (Ne.symm hid)] at h ⊢
      rcases hR.blk id own nil sz' els' h with h1 | ⟨hn, b, base, c0, e0, h1, h2, h3, h4⟩
      · exact .inl h1
      · have hlt := lt_of_heap h3
        exact .inr ⟨hn, b, base, c0, e0, h1, h2, (hheap b hlt).trans h3, RowsAt.keep hstep els' b base sz' (fun o _ _ => World.cell?_of_block (w := C.w) (hheap b hlt)) h4⟩
  · intro id id' nil sz1 els1 own' nil' sz2 els2 b base base' hne h1 h2 h3 h4
    by_cases hid : id = fr
    · subst hid
      simp only [set_get_eq hfrm, Option.some.injEq, Prod.mk.injEq] at h3
      simp only [set_get_ne hne] at h2 h4
      rcases hR.blk id' own' nil' sz2 els2 h2 with h5 | ⟨_, b', base2, c0, e0, h5, _, h6, _⟩
      · rw [h4] at h5; simp at h5
      · rw [h4] at h5; simp at h5; have := lt_of_heap h6; omega
    · simp only [set_get_ne (Ne.symm hid)] at h1 h3
      by_cases hid' : id' = fr
      · subst hid'
        simp only [set_get_eq hfrm, Option.some.injEq, Prod.mk.injEq] at h4
        rcases hR.blk id true nil sz1 els1 h1 with h5 | ⟨_, b', base2, c0, e0, h5, _, h6, _⟩
        · rw [h3] at h5; simp at h5
        · rw [h3] at h5; simp at h5; have := lt_of_heap h6; omega
      · simp only [set_get_ne (Ne.symm hid')] at h2 h4
        exact hR.inj id id' nil sz1 els1 own' nil' sz2 els2 b base base' hne h1 h2 h3 h4
  · intro b hb
    have := hR.prot b hb
    simp; omega

/-- a slice that is nil, or empty without room -/
theorem virt_ok (hR : HeapRel C) {fr : Nat} (hfr : C.H[fr]? = some .resv) {nil : Bool} {sz : Nat} :
    Step C ⟨C.H.set fr (.cells true nil sz []), C.m.set fr none, C.w, C.prot⟩ ∧ HeapRel ⟨C.H.set fr (.cells true nil sz []), C.m.set fr none, C.w, C.prot⟩ := by
  have hfrl := lt_of_get hfr
  have hfrm : fr < C.m.length := by rw [hR.len]; exact hfrl
  have hobj : ObjSame C ⟨C.H.set fr (.cells true nil sz []), C.m.set fr none, C.w, C.prot⟩ :=
    ⟨set_obj hfr rfl rfl, fun id o ho => set_get_ne (ne_of_obj hfr rfl ho), fun id o b x _ _ hx _ => hx, rfl⟩
  have hstep : Step C ⟨C.H.set fr (.cells true nil sz []), C.m.set fr none, C.w, C.prot⟩ := by
    refine ⟨rfl, rfl, rfl, rfl, Nat.le_refl _, by simp, fun b hb _ => rfl, fun b c0 e0 f0 hb => ⟨c0, f0, hb, rfl⟩, ?_, ?_, hobj.objs, hobj.objr⟩
    · rintro b (⟨id, nil, sz', els', base, h1, h2⟩ | ho)
      rotate_left
      · exact .inl (.inr (hobj.own ho))
      by_cases hid : id = fr
      · subst hid
        simp [set_get_eq hfrm] at h2
      · simp only [set_get_ne (Ne.symm hid)] at h1 h2
        exact .inl (.inl ⟨id, nil, sz', els', base, h1, h2⟩)
    · intro id B hB hr
      have hid : fr ≠ id := by rintro rfl; rw [hfr] at hB; exact hr (Option.some.inj hB).symm
      refine ⟨⟨B, by simp only [set_get_ne hid]; exact hB, hr⟩, fun own' nil' sz' els' h => ?_⟩
      simp only [set_get_ne hid] at h ⊢
      exact ⟨own', els', by rw [hB] at h; exact Option.some.inj h, rfl, fun h => h, trivial⟩
  refine ⟨hstep, ⟨by simp [hR.len], ?_, ?_, hR.prot, hobj.obj hR, hobj.oinj hR, hobj.lps hR hstep, hR.glS hstep⟩⟩
  · intro id own nil' sz' els' h
    by_cases hid : id = fr
    · subst hid
      simp only [set_get_eq hfrl, Option.some.injEq, Blk.cells.injEq] at h
      obtain ⟨rfl, rfl, rfl, rfl⟩ := h
      exact .inl ⟨by simp [set_get_eq hfrm], rfl⟩
    · simp only [set_get_ne (Ne.symm hid)] at h ⊢
      rcases hR.blk id own nil' sz' els' h with h1 | ⟨hn, b, base, c0, e0, h1, h2, h3, h4⟩
      · exact .inl h1
      · exact .inr ⟨hn, b, base, c0, e0, h1, h2, h3, RowsAt.keep hstep els' b base sz' (fun o _ _ => rfl) h4⟩
  · intro id id' nil sz1 els1 own' nil' sz2 els2 b base base' hne h1 h2 h3 h4
    by_cases hid : id = fr
    · subst hid
      simp [set_get_eq hfrm] at h3
    · by_cases hid' : id' = fr
      · subst hid'
        simp [set_get_eq hfrm] at h4
      · simp only [set_get_ne (Ne.symm hid), set_get_ne (Ne.symm hid')] at h1 h2 h3 h4
        exact hR.inj id id' nil sz1 els1 own' nil' sz2 els2 b base base' hne h1 h2 h3 h4

/-- a block is given up, or frozen -/
theorem turn_ok (hR : HeapRel C) {id : Nat} {own nil : Bool} {sz : Nat} {els : List (List AV)} (hid : C.H[id]? = some (.cells own nil sz els)) {B : Blk} (hB : B = .dead ∨ B = .cells false nil sz els) :
    Step C ⟨C.H.set id B, C.m, C.w, C.prot⟩ ∧ HeapRel ⟨C.H.set id B, C.m, C.w, C.prot⟩ := by
  have hl := lt_of_get hid
  have hBr : B ≠ .resv := by rcases hB with rfl | rfl <;> simp
  have hBo : ∀ o n s e, B = .cells o n s e → o = false ∧ n = nil ∧ s = sz ∧ e = els := by
    intro o n s e h
    rcases hB with rfl | rfl
    · simp at h
    · simp at h; obtain ⟨rfl, rfl, rfl, rfl⟩ := h; exact ⟨rfl, rfl, rfl, rfl⟩
  have hobj : ObjSame C ⟨C.H.set id B, C.m, C.w, C.prot⟩ :=
    ⟨set_obj hid (by rcases hB with rfl | rfl <;> rfl) rfl, fun id o ho => rfl, fun id o b x _ _ hx _ => hx, rfl⟩
  have hstep : Step C ⟨C.H.set id B, C.m, C.w, C.prot⟩ := by
    refine ⟨rfl, rfl, rfl, rfl, Nat.le_refl _, by simp, fun b hb _ => rfl, fun b c0 e0 f0 hb => ⟨c0, f0, hb, rfl⟩, ?_, ?_, hobj.objs, hobj.objr⟩
    · rintro b (⟨k, n, sz', els', base, h1, h2⟩ | ho)
      rotate_left
      · exact .inl (.inr (hobj.own ho))
      by_cases hk : k = id
      · subst hk
        simp only [set_get_eq hl, Option.some.injEq] at h1
        have := hBo _ _ _ _ h1
        simp at this
      · simp only [set_get_ne (Ne.symm hk)] at h1 h2
        exact .inl (.inl ⟨k, n, sz', els', base, h1, h2⟩)
    · intro k K hK hr
      by_cases hk : k = id
      · subst hk
        refine ⟨⟨B, by simp [set_get_eq hl], hBr⟩, fun own' nil' sz' els' h => ?_⟩
        simp only [set_get_eq hl, Option.some.injEq] at h
        obtain ⟨rfl, rfl, rfl, rfl⟩ := hBo _ _ _ _ h
        rw [hid] at hK
        exact ⟨own, _, (Option.some.inj hK).symm, rfl, by simp, rfl⟩
      · refine ⟨⟨K, by simp only [set_get_ne (Ne.symm hk)]; exact hK, hr⟩, fun own' nil' sz' els' h => ?_⟩
        simp only [set_get_ne (Ne.symm hk)] at h ⊢
        exact ⟨own', els', by rw [hK] at h; exact Option.some.inj h, rfl, fun h => h, trivial⟩
  refine ⟨hstep, ⟨by simp [hR.len], ?_, ?_, hR.prot, hobj.obj hR, hobj.oinj hR, hobj.lps hR hstep, hR.glS hstep⟩⟩
  · intro k own' nil' sz' els' h
    by_cases hk : k = id
    · subst hk
      simp only [set_get_eq hl, Option.some.injEq] at h
      obtain ⟨rfl, rfl, rfl, rfl⟩ := hBo _ _ _ _ h
      rcases hR.blk k own nil' sz' els' hid with h1 | ⟨hn, b, base, c0, e0, h1, h2, h3, h4⟩
      · exact .inl h1
      · exact .inr ⟨hn, b, base, c0, e0, h1, h2, h3, RowsAt.keep hstep els' b base sz' (fun o _ _ => rfl) h4⟩
    · simp only [set_get_ne (Ne.symm hk)] at h ⊢
      rcases hR.blk k own' nil' sz' els' h with h1 | ⟨hn, b, base, c0, e0, h1, h2, h3, h4⟩
      · exact .inl h1
      · exact .inr ⟨hn, b, base, c0, e0, h1, h2, h3, RowsAt.keep hstep els' b base sz' (fun o _ _ => rfl) h4⟩
  · intro k k' n sz1 els1 own' n' sz2 els2 b base base' hne h1 h2 h3 h4
    by_cases hk : k = id
    · subst hk
      simp only [set_get_eq hl, Option.some.injEq] at h1
      have := hBo _ _ _ _ h1
      simp at this
    · simp only [set_get_ne (Ne.symm hk)] at h1
      by_cases hk' : k' = id
      · subst hk'
        exact hR.inj k k' n sz1 els1 own nil sz els b base base' hne h1 hid h3 h4
      · simp only [set_get_ne (Ne.symm hk')] at h2
        exact hR.inj k k' n sz1 els1 own' n' sz2 els2 b base base' hne h1 h2 h3 h4

/-- what is written into block b, and nothing else -/
structure Wrote (w w' : World) (b : Nat) : Prop where
  os : w'.os = w.os
  tape : w'.tape = w.tape
  output : w'.output = w.output
  size : w'.heap.size = w.heap.size
  other : ∀ k, k ≠ b → w'.heap[k]? = w.heap[k]?
  here : ∀ c e f, w.heap[b]? = some (.cells c e f) → ∃ c', w'.heap[b]? = some (.cells c' e f) ∧ c'.size = c.size

/-- a block of its own is written, and kept or handed to another number -/
theorem write_ok (hR : HeapRel C) {id fr : Nat} {nil : Bool} {sz b base base' : Nat} {els els' : List (List AV)} (hid : C.H[id]? = some (.cells true nil sz els)) (hm : C.m[id]? = some (some (b, base))) {w' : World} (hw : Wrote C.w w' b)
    (hfr : (fr = id ∧ els'.length = els.length ∧ base' = base) ∨ C.H[fr]? = some .resv)
    (hrows : ∀ C', Step C C' → C'.w = w' → RowsAt C' b base' sz els') :
    Step C ⟨(C.H.set id .dead).set fr (.cells true false sz els'), C.m.set fr (some (b, base')), w', C.prot⟩ ∧ HeapRel ⟨(C.H.set id .dead).set fr (.cells true false sz els'), C.m.set fr (some (b, base')), w', C.prot⟩ := by
  have hl := lt_of_get hid
  have hfrl : fr < C.H.length := by rcases hfr with ⟨rfl, _⟩ | h; exact hl; exact lt_of_get h
  have hfrm : fr < C.m.length := by rw [hR.len]; exact hfrl
  obtain ⟨hnil, b1, base1, c1, e1, hm1, hp1, hb1, _⟩ : nil = false ∧ ∃ b base c e, C.m[id]? = some (some (b, base)) ∧ ¬ C.prot b ∧ C.w.heap[b]? = some (.cells c e (0, 0)) ∧ RowsAt C b base sz els := by
    rcases hR.blk id true nil sz els hid with ⟨h, _⟩ | h
    · rw [hm] at h; simp at h
    · exact h
  rw [hm] at hm1
  simp at hm1
  obtain ⟨rfl, rfl⟩ := hm1
  have hown : C.own b := .inl ⟨id, nil, sz, els, base, hid, hm⟩
  have hblt := lt_of_heap hb1
  have hH : ∀ k, k ≠ id → k ≠ fr → ((C.H.set id .dead).set fr (.cells true false sz els'))[k]? = C.H[k]? := fun k h1 h2 => by rw [set_get_ne (Ne.symm h2), set_get_ne (Ne.symm h1)]
  have hHf : ((C.H.set id .dead).set fr (.cells true false sz els'))[fr]? = some (.cells true false sz els') := set_get_eq (by simpa using hfrl)
  have hHi : id ≠ fr → ((C.H.set id .dead).set fr (.cells true false sz els'))[id]? = some .dead := fun h => by rw [set_get_ne (Ne.symm h), set_get_eq hl]
  have hmk : ∀ k, k ≠ fr → (C.m.set fr (some (b, base')))[k]? = C.m[k]? := fun k h => set_get_ne (Ne.symm h)
  have hmf : (C.m.set fr (some (b, base')))[fr]? = some (some (b, base')) := set_get_eq hfrm
  have hfrY : ∃ Y, C.H[fr]? = some Y ∧ Y.isObj = false := by
    rcases hfr with ⟨rfl, _⟩ | h
    · exact ⟨_, hid, rfl⟩
    · exact ⟨_, h, rfl⟩
  obtain ⟨Y, hY, hYo⟩ := hfrY
  have hfrY' : ∃ Y, (C.H.set id .dead)[fr]? = some Y ∧ Y.isObj = false := by
    by_cases h : fr = id
    · subst h; exact ⟨.dead, set_get_eq hl, rfl⟩
    · exact ⟨Y, by rw [set_get_ne (Ne.symm h)]; exact hY, hYo⟩
  obtain ⟨Y', hY', hYo'⟩ := hfrY'
  have hobj : ObjSame C ⟨(C.H.set id .dead).set fr (.cells true false sz els'), C.m.set fr (some (b, base')), w', C.prot⟩ :=
    ⟨fun k o => (set_obj hY' rfl hYo' k o).trans (set_obj hid rfl rfl k o), fun k o ho => set_get_ne (ne_of_obj hY hYo ho), fun k o b2 x _ _ hx hox => by
      have : b2 ≠ b := by rintro rfl; rw [hb1] at hx; obtain rfl := Option.some.inj hx; exact Ob.not_cells hox
      exact (hw.other b2 this).trans hx, rfl⟩
  have hstep : Step C ⟨(C.H.set id .dead).set fr (.cells true false sz els'), C.m.set fr (some (b, base')), w', C.prot⟩ := by
    refine ⟨hw.os, hw.tape, hw.output, rfl, by simp [hw.size], by simp, fun k _ hk => hw.other k (fun h => hk (h ▸ hown)), fun k c0 e0 f0 hb => ?_, ?_, ?_, hobj.objs, hobj.objr⟩
    · by_cases hkb : k = b
      · subst hkb; obtain ⟨c', h1, h2⟩ := hw.here _ _ _ hb; exact ⟨c', f0, h1, h2⟩
      · exact ⟨c0, f0, (hw.other k hkb).trans hb, rfl⟩
    · rintro k (⟨i, n, sz', els2, base2, h1, h2⟩ | ho)
      rotate_left
      · exact .inl (.inr (hobj.own ho))
      by_cases hif : i = fr
      · subst hif
        rw [hmf] at h2
        simp at h2
        obtain ⟨rfl, rfl⟩ := h2
        exact .inl hown
      · by_cases hii : i = id
        · subst hii
          rw [hHi hif] at h1
          simp at h1
        · rw [hH i hii hif] at h1
          rw [hmk i hif] at h2
          exact .inl (.inl ⟨i, n, sz', els2, base2, h1, h2⟩)
    · intro i B hB hr
      by_cases hif : i = fr
      · subst hif
        rcases hfr with ⟨rfl, hlen, hbb⟩ | h
        · refine ⟨⟨_, hHf, by simp⟩, fun own' nil' sz' els2 h => ?_⟩
          rw [hHf] at h
          simp at h
          obtain ⟨rfl, rfl, rfl, rfl⟩ := h
          rw [hid] at hB
          refine ⟨true, els, ?_, hlen.symm, by simp, by rw [hmf, hm, hbb]⟩
          rw [← hnil]; exact (Option.some.inj hB).symm
        · rw [h] at hB; exact (hr (Option.some.inj hB).symm).elim
      · by_cases hii : i = id
        · subst hii
          refine ⟨⟨_, hHi hif, by simp⟩, fun own' nil' sz' els2 h => ?_⟩
          rw [hHi hif] at h
          simp at h
        · refine ⟨⟨B, (hH i hii hif).trans hB, hr⟩, fun own' nil' sz' els2 h => ?_⟩
          rw [hH i hii hif] at h
          exact ⟨own', els2, by rw [hB] at h; exact Option.some.inj h, rfl, fun h => h, hmk i hif⟩
  obtain ⟨c', hb', hcs'⟩ := hw.here _ _ _ hb1
  refine ⟨hstep, ⟨by simp [hR.len], ?_, ?_, fun k hk => by have := hR.prot k hk; simp [hw.size]; omega, hobj.obj hR, hobj.oinj hR, hobj.lps hR hstep, hR.glS hstep⟩⟩
  · intro k own' nil' sz' els2 h
    by_cases hkf : k = fr
    · subst hkf
      rw [hHf] at h
      simp at h
      obtain ⟨rfl, rfl, rfl, rfl⟩ := h
      exact .inr ⟨rfl, b, base', c', e1, hmf, hp1, hb', hrows _ hstep rfl⟩
    · by_cases hki : k = id
      · subst hki
        rw [hHi hkf] at h
        simp at h
      · rw [hH k hki hkf] at h
        rcases hR.blk k own' nil' sz' els2 h with h1 | ⟨hn, b2, base2, c0, e0, h1, h2, h3, h4⟩
        · exact .inl ⟨(hmk k hkf).trans h1.1, h1.2⟩
        · have hne : b2 ≠ b := by
            rintro rfl
            exact hR.inj id k nil sz els own' nil' sz' els2 b2 base base2 (Ne.symm hki) hid h hm h1
          exact .inr ⟨hn, b2, base2, c0, e0, (hmk k hkf).trans h1, h2, (hw.other b2 hne).trans h3, RowsAt.keep hstep els2 b2 base2 sz' (fun o _ _ => World.cell?_of_block (w := C.w) (hw.other b2 hne)) h4⟩
  · intro k k' n sz1 els1 own' n' sz2 els2 b2 base1 base2 hne h1 h2 h3 h4
    dsimp only at h1 h2 h3 h4
    -- a number other than fr that is alive lies at a block other than b
    have hoth : ∀ k own n sz1 els1 base1 b2, k ≠ fr → ((C.H.set id .dead).set fr (.cells true false sz els'))[k]? = some (.cells own n sz1 els1) → C.m[k]? = some (some (b2, base1)) → b2 ≠ b := by
      intro k own n sz1 els1 base1 b2 hkf h1 h3 hbb
      by_cases hki : k = id
      · rw [hki, hHi (fun h => hkf (hki.trans h))] at h1; simp at h1
      · rw [hH k hki hkf] at h1
        rw [hbb] at h3
        exact hR.inj id k nil sz els own n sz1 els1 b base base1 (Ne.symm hki) hid h1 hm h3
    by_cases hkf : k = fr
    · subst hkf
      rw [hmf] at h3
      simp at h3
      obtain ⟨rfl, rfl⟩ := h3
      rw [hmk k' (Ne.symm hne)] at h4
      exact hoth k' own' n' sz2 els2 base2 b (Ne.symm hne) h2 h4 rfl
    · by_cases hkf' : k' = fr
      · subst hkf'
        rw [hmf] at h4
        simp at h4
        obtain ⟨rfl, rfl⟩ := h4
        rw [hmk k hkf] at h3
        exact hoth k true n sz1 els1 base1 b hkf h1 h3 rfl
      · rw [hmk k hkf] at h3
        rw [hmk k' hkf'] at h4
        by_cases hki : k = id
        · rw [hki, hHi (fun h => hkf (hki.trans h))] at h1; simp at h1
        · by_cases hki' : k' = id
          · rw [hki', hHi (fun h => hkf' (hki'.trans h))] at h2; simp at h2
          · rw [hH k hki hkf] at h1
            rw [hH k' hki' hkf'] at h2
            exact hR.inj k k' n sz1 els1 own' n' sz2 els2 b2 base1 base2 hne h1 h2 h3 h4

theorem wrote_setCells (w : World) (b : Nat) : ∀ (vs : List Value) (o : Nat), Wrote w (w.setCells b o vs) b
  | vs, o => by
    induction vs generalizing o w with
    | nil => exact ⟨rfl, rfl, rfl, rfl, fun _ _ => rfl, fun c e f h => ⟨c, h, rfl⟩⟩
    | cons v vs ih =>
      have h := ih (w.setCell ⟨b, o, none⟩ v) (o + 1)
      have e : w.setCells b o (v :: vs) = (w.setCell ⟨b, o, none⟩ v).setCells b (o + 1) vs := rfl
      rw [e]
      refine ⟨h.os, h.tape, h.output, by rw [h.size]; simp, fun k hk => by rw [h.other k hk, Below.heap_setCell _ _ _ _ hk], fun c e f hc => ?_⟩
      obtain ⟨c', h1, h2⟩ := h.here (c.setIfInBounds o v) e f (by simp [World.setCell, Array.getElem?_modify, hc])
      exact ⟨c', h1, by rw [h2]; simp⟩
end
end Go.Abs
/- Operations that make or write memory. -/
namespace Go.Abs
open Go.RowKit
section
variable {P : Program} {C : Ctx} {s : Nat → AV} {a : Act} {o : Oper} {v : AV} {ws : List (Nat × Blk)} {fr : Nat}

/-! parts laid into cells -/
theorem foldl_set (vs : List Value) : ∀ (k off : Nat) (cells : Array Value), off + k + vs.length ≤ cells.size →
    ((vs.zipIdx k).foldl (fun cs (x : Value × Nat) => cs.setIfInBounds (off + x.2) x.1) cells).toList = cells.toList.take (off + k) ++ vs ++ cells.toList.drop (off + k + vs.length) := by
  induction vs with
  | nil => intro k off cells _; simp
  | cons v vs ih =>
    intro k off cells h
    simp only [List.length_cons] at h
    simp only [List.zipIdx_cons, List.foldl_cons]
    rw [ih (k + 1) off _ (by simp; omega)]
    have hk : off + k < cells.toList.length := by simp; omega
    rw [Array.toList_setIfInBounds]
    have ht : (cells.toList.set (off + k) v).take (off + (k + 1)) = cells.toList.take (off + k) ++ [v] := by
      rw [List.set_eq_take_append_cons_drop, if_pos hk, ← Nat.add_assoc, List.take_append]
      have hl : (cells.toList.take (off + k)).length = off + k := by simp; omega
      rw [hl, List.take_of_length_le (by omega), show off + k + 1 - (off + k) = 1 by omega]
      rfl
    rw [ht, List.drop_set_of_lt (by omega)]
    simp only [List.append_assoc, List.cons_append, List.length_cons]
    rw [show off + (k + 1) + vs.length = off + k + (vs.length + 1) by omega]
    rfl

theorem fill_ok {place : Nat → Option (Nat × Nat)} : ∀ {pc : List (Nat × Value)} {pa : List (Nat × Nat × AV)} {cells : Array Value} {ca cs' : List AV},
    pa.length = pc.length → (∀ (k : Nat) i u off n x, pc[k]? = some (i, u) → pa[k]? = some (off, n, x) → place i = some (off, n) ∧ Conc C x u) → ConcL C ca cells.toList → fillA ca pa = some cs' →
    ∃ cells', Instr.fill place cells pc = some cells' ∧ ConcL C cs' cells'.toList
  | [], [], cells, ca, cs', _, _, hl, h => by
    simp only [fillA, Option.some.injEq] at h
    subst h
    exact ⟨cells, rfl, hl⟩
  | [], _ :: _, _, _, _, hlen, _, _, _ => by simp at hlen
  | _ :: _, [], _, _, _, hlen, _, _, _ => by simp at hlen
  | (i, u) :: pc, (off, n, x) :: pa, cells, ca, cs', hlen, hp, hl, h => by
    obtain ⟨hpl, hx⟩ := hp 0 i u off n x (by simp) (by simp)
    simp only [fillA] at h
    split at h
    · rename_i hc
      obtain ⟨h1, h2, h3⟩ := hc
      have hparts := conc_parts hx h3
      have hsz : u.cells.size = n := by have := hparts.length; simpa [h1] using this
      have hca : cells.size = ca.length := by have := hl.length; simpa using this
      have hf := foldl_set u.cells.toList 0 off cells (by simp; omega)
      simp only [Instr.fill, hpl]
      rw [if_neg (by simp [hsz]; omega)]
      refine fill_ok (by simpa using hlen) (fun k i' u' off' n' x' a b => hp (k + 1) i' u' off' n' x' (by simpa using a) (by simpa using b)) ?_ h
      have e : (u.cells.zipIdx.foldl (fun cs x => cs.setIfInBounds (off + x.2) x.1) cells).toList = cells.toList.take off ++ u.cells.toList ++ cells.toList.drop (off + u.cells.toList.length) := by
        rw [← Array.foldl_toList, Array.toList_zipIdx]
        simpa using hf
      have e' : (u.cells.zipIdx.foldl (fun cs (c, j) => cs.setIfInBounds (off + j) c) cells) = (u.cells.zipIdx.foldl (fun cs x => cs.setIfInBounds (off + x.2) x.1) cells) := rfl
      rw [e', e]
      unfold putCells
      have hk : u.cells.toList.length = x.parts.length := hparts.length
      rw [hk]
      exact ConcL.append (ConcL.append (hl.take off) hparts) (hl.drop _)
    · simp at h

theorem zeroT_spec {t : TypeId} {zero : List AV} (h : zeroT P t = some zero) : ∃ i z, P.info? t = some i ∧ i.zero = some z ∧ zero = z.cells.toList.map ofValue := by
  unfold zeroT at h
  simp only [Option.bind_eq_some_iff, Option.map_eq_some_iff] at h
  obtain ⟨i, hi, z, hz, rfl⟩ := h
  exact ⟨i, z, hi, hz, rfl⟩

theorem ok_build_of (hR : HeapRel C) {t : TypeId} {parts : Array (Nat × Operand)} {cells : Array Value} {cs : List AV} (ho : o.op = .build t parts) (hb : P.built t (parts.toList.map fun (i, x) => (i, a.eval x)) = some cells) (hl : ConcL C cs cells.toList) : OpOk P C a o (mkAgg cs) [] := by
  refine OpOk.same hR (u := .agg cells) ?_ (by simpa using conc_mkAgg hl)
  have : (parts.map fun (i, x) => (i, a.eval x)).toList = parts.toList.map fun (i, x) => (i, a.eval x) := by simp
  have hb' := run_build (P := P) C.w t (parts.map fun (i, x) => (i, a.eval x)) cells (by rw [this]; exact hb)
  simp only [execOp, ho, Sem.run_bind, hb', Result.andThen_ok, Sem.run_pure]

theorem places_of : ∀ {fs : List Field} {places : List (Nat × Nat)}, fs.mapM (fun f => (P.info? f.type).map fun i => (f.offset, i.size)) = some places → ∀ (i : Nat) f, fs[i]? = some f → ∃ n, sizeT P f.type = some n ∧ places[i]? = some (f.offset, n)
  | [], places, h, i, f, hf => by simp at hf
  | g :: fs, places, h, i, f, hf => by
    simp only [List.mapM_cons, Option.bind_eq_bind, Option.pure_def] at h
    cases hg : P.info? g.type with
    | none => simp [hg] at h
    | some ig =>
      cases hr : fs.mapM (fun f => (P.info? f.type).map fun i => (f.offset, i.size)) with
      | none => simp [hg, hr] at h
      | some rest =>
        simp [hg, hr] at h
        subst h
        cases i with
        | zero => simp at hf; subst hf; exact ⟨ig.size, by simp [sizeT, hg], by simp⟩
        | succ i => simp at hf ⊢; exact places_of hr i f hf

/-- the places of a struct's or an array's parts -/
def placeT (P : Program) (t : TypeId) (i : Nat) : Option (Nat × Nat) :=
  match P.underlying t with
  | some (.struct fs) => (fs[i]?).bind fun f => (sizeT P f.type).map fun n => (f.offset, n)
  | some (.array _ e) => (sizeT P e).map fun n => (i * n, n)
  | _ => none
def placesOk (P : Program) (t : TypeId) : Bool :=
  match P.underlying t with
  | some (.struct fs) => (fs.toList.mapM fun f => (P.info? f.type).map fun i => (f.offset, i.size)).isSome
  | some (.array _ e) => (P.info? e).isSome
  | _ => false
def resolveParts (place : Nat → Option (Nat × Nat)) : List (Nat × Operand) → Option (List (Nat × Nat × Opd))
  | [] => some []
  | (i, x) :: r => (place i).bind fun (off, n) => (resolveParts place r).map ((off, n, opd x) :: ·)
theorem resolve_len {place : Nat → Option (Nat × Nat)} : ∀ {l : List (Nat × Operand)} {r : List (Nat × Nat × Opd)}, resolveParts place l = some r → r.length = l.length
  | [], r, h => by simp [resolveParts] at h; subst h; rfl
  | (i, x) :: l, r, h => by
    simp only [resolveParts, Option.bind_eq_some_iff, Option.map_eq_some_iff] at h
    obtain ⟨⟨off, n⟩, _, r', hr, rfl⟩ := h
    simp [resolve_len hr]
theorem resolve_get {place : Nat → Option (Nat × Nat)} : ∀ {l : List (Nat × Operand)} {r : List (Nat × Nat × Opd)}, resolveParts place l = some r → ∀ (k : Nat) i x, l[k]? = some (i, x) → ∃ off n, place i = some (off, n) ∧ r[k]? = some (off, n, opd x)
  | [], r, h, k, i, x, hk => by simp at hk
  | (i0, x0) :: l, r, h, k, i, x, hk => by
    simp only [resolveParts, Option.bind_eq_some_iff, Option.map_eq_some_iff] at h
    obtain ⟨⟨off, n⟩, hp, r', hr, rfl⟩ := h
    cases k with
    | zero => simp at hk; obtain ⟨rfl, rfl⟩ := hk; exact ⟨off, n, hp, by simp⟩
    | succ k => simp at hk ⊢; exact resolve_get hr k i x hk

theorem fill_resolved (hS : Slots C s a) {place : Nat → Option (Nat × Nat)} {parts : List (Nat × Operand)} {pr : List (Nat × Nat × Opd)} (hpr : resolveParts place parts = some pr) {cells : Array Value} {ca cs' : List AV} (hl : ConcL C ca cells.toList)
    (h : fillA ca (pr.map fun (o, n, x) => (o, n, Abs.ev s x)) = some cs') : ∃ cells', Instr.fill place cells (parts.map fun (i, x) => (i, a.eval x)) = some cells' ∧ ConcL C cs' cells'.toList := by
  refine fill_ok (by simp [resolve_len hpr]) ?_ hl h
  intro k i u off n x h1 h2
  simp only [List.getElem?_map, Option.map_eq_some_iff, Prod.mk.injEq] at h1 h2
  obtain ⟨⟨i', x'⟩, h3, rfl, rfl⟩ := h1
  obtain ⟨⟨o', n', x2⟩, h4, rfl, rfl, rfl⟩ := h2
  obtain ⟨off', n2, h5, h6⟩ := resolve_get hpr k _ _ h3
  rw [h4] at h6
  simp at h6
  obtain ⟨rfl, rfl, rfl⟩ := h6
  exact ⟨h5, hS.ev x'⟩

theorem ok_build (hR : HeapRel C) (hS : Slots C s a) {t : TypeId} {parts : Array (Nat × Operand)} {zero : List AV} {pr : List (Nat × Nat × Opd)} (ho : o.op = .build t parts) (hz : zeroT P t = some zero) (hp : placesOk P t = true) (hpr : resolveParts (placeT P t) parts.toList = some pr)
    (h : aop fr s (hget C.H) (.build zero pr) = some (v, ws)) : OpOk P C a o v ws := by
  simp only [aop, Option.map_eq_some_iff, Prod.mk.injEq] at h
  obtain ⟨cs, hcs, rfl, rfl⟩ := h
  obtain ⟨it, z, hi, hzv, rfl⟩ := zeroT_spec hz
  obtain ⟨cells', h1, h2⟩ := fill_resolved hS hpr (concL_ofValue C z.cells.toList) hcs
  refine ok_build_of hR ho ?_ h2
  unfold Program.built
  unfold placesOk at hp
  cases hu : P.underlying t with
  | none => simp [hu] at hp
  | some d =>
    cases d with
    | struct fs =>
      simp only [hu] at hp
      obtain ⟨places, hpl⟩ := Option.isSome_iff_exists.1 hp
      simp only [hi, hzv, hpl]
      rw [← h1]
      congr 1
      funext i
      simp only [placeT, hu]
      cases hf : fs[i]? with
      | none =>
        have hlen : places.length = fs.size := by
          have : ∀ {fs : List Field} {pl : List (Nat × Nat)}, fs.mapM (fun f => (P.info? f.type).map fun i => (f.offset, i.size)) = some pl → pl.length = fs.length := by
            intro fs
            induction fs with
            | nil => intro pl h; simp at h; subst h; rfl
            | cons g fs ih =>
              intro pl h
              simp only [List.mapM_cons, Option.bind_eq_bind, Option.pure_def] at h
              cases hg : P.info? g.type with
              | none => simp [hg] at h
              | some ig =>
                cases hr : fs.mapM (fun f => (P.info? f.type).map fun i => (f.offset, i.size)) with
                | none => simp [hg, hr] at h
                | some rest => simp [hg, hr] at h; subst h; simp [ih hr]
          simpa using this hpl
        have : fs.size ≤ i := by simpa using hf
        simp [Array.getElem?_eq_none (by simpa [hlen] using this : places.toArray.size ≤ i)]
      | some f =>
        obtain ⟨n, hn, hpi⟩ := places_of hpl i f (by simpa using hf)
        simp [hn, hpi]
    | array n e =>
      simp only [hu] at hp
      obtain ⟨ie, hie⟩ := Option.isSome_iff_exists.1 hp
      simp only [hi, hzv, hie]
      rw [← h1]
      congr 1
      funext i
      simp [placeT, hu, sizeT, hie]
    | _ => simp [hu] at hp

/-! new blocks -/
theorem rows_new {C' : Ctx} (hs : Step C C') {w1 : World} {c : Array Value} {e : TypeId} (hw1 : w1.heap.size = C.w.heap.size) (hw : C'.w = w1.alloc (.cells c e)) {off : Nat} {cs : List AV} {us : List Value} (hl : ConcL C cs us) (h1 : ∀ x ∈ cs, isOne x = true)
    (hc : ∀ (j : Nat) u, us[j]? = some u → c[off + j]? = some u) : CellsAt C' C.w.heap.size off cs := by
  refine CellsAt.of_vals (ConcL.mono hs cs us hl) (fun j u hu => ?_) h1
  rw [hw, ← hw1, World.cell?_alloc_new]
  exact hc j u hu

theorem ok_alloc (hR : HeapRel C) {t : TypeId} {zero : List AV} (ho : o.op = .alloc t) (hz : zeroT P t = some zero) (h1 : zero.all isOne = true) (hfr : C.H[fr]? = some .resv)
    (h : aop fr s (hget C.H) (.alloc zero) = some (v, ws)) : OpOk P C a o v ws := by
  simp only [aop, Option.some.injEq, Prod.mk.injEq] at h
  obtain ⟨rfl, rfl⟩ := h
  obtain ⟨it, z, hi, hzv, rfl⟩ := zeroT_spec hz
  have h1' : ∀ x ∈ z.cells.toList.map ofValue, isOne x = true := List.all_eq_true.1 h1
  obtain ⟨h2, h3, h4⟩ := alloc_ok hR hfr (SameRest.refl C.w) (c := z.cells) (e := t) (sz := (z.cells.toList.map ofValue).length) (els := [z.cells.toList.map ofValue])
    (fun C' hs hw => by
      simp only [RowsAt]
      exact ⟨trivial, rows_new hs rfl hw (concL_ofValue C z.cells.toList) h1' (fun j u hu => by simpa using hu), trivial⟩)
  refine ⟨.pointer (some ⟨C.w.heap.size, 0, none⟩), _, _, .inl ?_, h2, h3, ?_⟩
  · simp [execOp, ho, Instr.alloc, zeroValue, typeInfo, hi, hzv, newVar, newRow]
  · simp only [Conc, writes, set_get_eq (lt_of_get hfr), set_get_eq (show fr < C.m.length by rw [hR.len]; exact lt_of_get hfr)]
    exact ⟨_, _, rfl, by simp⟩

theorem ok_box (hR : HeapRel C) (hS : Slots C s a) {t : TypeId} {x : Operand} {sz : Nat} (ho : o.op = .box t x) (hfr : C.H[fr]? = some .resv)
    (h : aop fr s (hget C.H) (.box sz (opd x)) = some (v, ws)) : OpOk P C a o v ws := by
  simp only [aop] at h
  split at h
  · rename_i hc
    obtain ⟨hsz, h1⟩ := hc
    simp only [Option.some.injEq, Prod.mk.injEq] at h
    obtain ⟨rfl, rfl⟩ := h
    have hparts := conc_parts (hS.ev x) h1
    obtain ⟨h2, h3, h4⟩ := alloc_ok hR hfr (SameRest.refl C.w) (c := (a.eval x).cells) (e := t) (sz := sz) (els := [(Abs.ev s (opd x)).parts])
      (fun C' hs hw => by
        simp only [RowsAt]
        exact ⟨hsz, rows_new hs rfl hw hparts (by simpa using h1) (fun j u hu => by simpa using hu), trivial⟩)
    refine ⟨.pointer (some ⟨C.w.heap.size, 0, none⟩), _, _, .inl ?_, h2, h3, ?_⟩
    · simp [execOp, ho, Instr.box, newVar, newRow]
    · simp only [Conc, writes, set_get_eq (lt_of_get hfr), set_get_eq (show fr < C.m.length by rw [hR.len]; exact lt_of_get hfr)]
      exact ⟨_, _, rfl, by simp⟩
  · simp at h

theorem rowsOf_get {sz : Nat} : ∀ {n : Nat} {cs : List AV} {i : Nat} {r : List AV}, (rowsOf sz n cs)[i]? = some r → i < n ∧ r = (cs.drop (i * sz)).take sz
  | 0, cs, i, r, h => by simp [rowsOf] at h
  | n + 1, cs, 0, r, h => by simp [rowsOf] at h; subst h; simp
  | n + 1, cs, i + 1, r, h => by
    simp only [rowsOf, List.getElem?_cons_succ] at h
    obtain ⟨h1, h2⟩ := rowsOf_get h
    refine ⟨by omega, ?_⟩
    rw [h2, List.drop_drop, Nat.add_mul, Nat.one_mul, Nat.add_comm]
theorem rowsOf_len {sz : Nat} : ∀ (n : Nat) (cs : List AV), (rowsOf sz n cs).length = n
  | 0, _ => rfl
  | n + 1, cs => by simp [rowsOf, rowsOf_len n]

theorem fillA_keeps : ∀ {pa : List (Nat × Nat × AV)} {ca cs : List AV}, fillA ca pa = some cs → (∀ x ∈ ca, isOne x = true) → cs.length = ca.length ∧ ∀ x ∈ cs, isOne x = true := by
  intro pa
  induction pa with
  | nil => intro ca cs h hh; simp [fillA] at h; subst h; exact ⟨rfl, hh⟩
  | cons p pa ih =>
    intro ca cs h hh
    obtain ⟨off, n, x⟩ := p
    simp only [fillA] at h
    split at h
    · rename_i hc
      have hl : (putCells ca off x.parts).length = ca.length := by simp [putCells]; omega
      have ho : ∀ y ∈ putCells ca off x.parts, isOne y = true := by
        intro y hy
        simp only [putCells, List.mem_append] at hy
        rcases hy with (hy | hy) | hy
        · exact hh y (List.mem_of_mem_take hy)
        · exact List.all_eq_true.1 hc.2.2 y hy
        · exact hh y (List.mem_of_mem_drop hy)
      have := ih h ho
      exact ⟨this.1.trans hl, this.2⟩
    · simp at h

theorem madeCells_flat (z : Array Value) (n : Nat) : (madeCells z (n * z.size)).toList = (List.replicate n z.toList).flatten := by
  apply List.ext_getElem?
  intro i
  simp only [madeCells, Array.toList_map, Array.toList_range, List.getElem?_map]
  induction n generalizing i with
  | zero => simp
  | succ n ih =>
    rw [List.replicate_succ, List.flatten_cons, List.getElem?_append]
    by_cases hi : i < z.toList.length
    · rw [if_pos hi]
      have hi' : i < z.size := by simpa using hi
      have : i < (n + 1) * z.size := by rw [Nat.add_mul]; omega
      simp [List.getElem?_range this, Nat.mod_eq_of_lt hi', hi']
    · rw [if_neg hi]
      have hi' : z.size ≤ i := by simpa using hi
      rw [← ih (i - z.toList.length)]
      have e : (n + 1) * z.size = n * z.size + z.size := by rw [Nat.add_mul]; omega
      by_cases h2 : i < (n + 1) * z.size
      · rw [List.getElem?_range h2, List.getElem?_range (by simp; omega)]
        simp only [Option.map_some, Option.some.injEq]
        rw [show (i - z.toList.length) % z.size = i % z.size by simp; rw [← Nat.mod_eq_sub_mod hi']]
      · simp
        rw [List.getElem?_eq_none (by simp; omega), List.getElem?_eq_none (by simp; omega)]

theorem ok_bslice (hR : HeapRel C) (hS : Slots C s a) {t e : TypeId} {len sz : Nat} {parts : Array (Nat × Operand)} {zero : List AV} {pr : List (Nat × Opd)} (ho : o.op = .buildSlice t len parts) (ht : P.underlying t = some (.slice e)) (hsz : sizeT P e = some sz) (hz : zeroT P e = some zero)
    (hzl : zero.length = sz) (h1 : zero.all isOne = true) (hsz0 : 0 < sz) (hsmall : len * sz ≤ 2 ^ 24) (hl0 : len = 0 → parts.toList = []) (hpr : pr = parts.toList.map fun (i, x) => (i, opd x)) (hfr : C.H[fr]? = some .resv)
    (h : aop fr s (hget C.H) (.bslice sz len zero pr) = some (v, ws)) : OpOk P C a o v ws := by
  simp only [aop] at h
  split at h
  · rename_i cs hcs
    simp only [Option.some.injEq, Prod.mk.injEq] at h
    obtain ⟨rfl, rfl⟩ := h
    obtain ⟨ie, z, hi, hzv, rfl⟩ := zeroT_spec hz
    have hsz' : ie.size = sz := by simpa [sizeT, hi] using hsz
    have hzs : z.cells.size = sz := by simpa using hzl
    have hone : ∀ x ∈ z.cells.toList.map ofValue, isOne x = true := List.all_eq_true.1 h1
    have hres : ∀ l : List (Nat × Operand), resolveParts (fun i => some (i * sz, sz)) l = some (l.map fun (i, x) => (i * sz, sz, opd x)) := by
      intro l
      induction l with
      | nil => rfl
      | cons p l ih => obtain ⟨i, x⟩ := p; simp [resolveParts, ih]
    have hflat : ConcL C (List.replicate len (z.cells.toList.map ofValue)).flatten (madeCells z.cells (len * z.cells.size)).toList := by
      rw [madeCells_flat]
      have : (List.replicate len (z.cells.toList.map ofValue)).flatten = ((List.replicate len z.cells.toList).flatten).map ofValue := by
        rw [List.map_flatten, List.map_replicate]
      rw [this]
      exact concL_ofValue C _
    have honef : ∀ x ∈ (List.replicate len (z.cells.toList.map ofValue)).flatten, isOne x = true := by
      intro x hx
      obtain ⟨l, hl, hxl⟩ := List.mem_flatten.1 hx
      rw [(List.mem_replicate.1 hl).2] at hxl
      exact hone x hxl
    obtain ⟨hcl, hco⟩ := fillA_keeps hcs honef
    have hcl' : cs.length = len * sz := by rw [hcl]; simp [List.length_flatten, hzs]
    obtain ⟨cells', hf1, hf2⟩ := fill_resolved hS (hres parts.toList) hflat (by rw [← hcs, hpr, List.map_map, List.map_map]; rfl)
    have hcs' : cells'.size = len * sz := by have := hf2.length; simpa [hcl'] using this
    obtain ⟨h2, h3, h4⟩ := alloc_ok hR hfr (SameRest.refl C.w) (c := cells') (e := e) (sz := sz) (els := rowsOf sz len cs)
      (fun C' hs hw => RowsAt.of fun i r hr => by
        obtain ⟨hi, rfl⟩ := rowsOf_get hr
        have hb : i * sz + sz ≤ len * sz := by rw [← Nat.succ_mul]; exact Nat.mul_le_mul_right sz hi
        refine ⟨by simp [hcl']; omega, ?_⟩
        rw [Nat.zero_add]
        exact rows_new hs rfl hw ((hf2.drop (i * sz)).take sz) (fun x hx => hco x (List.mem_of_mem_drop (List.mem_of_mem_take hx))) (fun j u hu => by
          rw [List.getElem?_take] at hu
          split at hu
          · rw [List.getElem?_drop] at hu; simpa using hu
          · simp at hu))
    refine ⟨.slice (some ⟨C.w.heap.size, 0, none⟩) len len, _, _, .inl ?_, h2, h3, ?_⟩
    · have hrun : (Instr.buildSlice t len (parts.map fun (i, x) => (i, a.eval x))).run P C.w = .ok (.slice (some ⟨C.w.heap.size, 0, none⟩) len len) (C.w.alloc (.cells cells' e)) := by
        by_cases hl : len = 0
        · subst hl
          have := hl0 rfl
          have hp0 : parts = #[] := by simpa using this
          subst hp0
          have hc0 : cells' = #[] := by simpa using hcs'
          subst hc0
          simp [Instr.buildSlice, run_underlying ht, run_sizeOf (w := C.w) hsz, Instr.fill, newRow, show Array.range 0 = #[] by simp [Array.range]]
        · refine run_buildSlice C.w t e len _ cells' ie z ht hi hzv (by rw [hsz']; omega) (by rw [hsz']; have := Nat.mul_pos (Nat.pos_of_ne_zero hl) hsz0; omega) ?_
          rw [hsz', ← hf1]
          simp [madeCells, hzs]
      simp only [execOp, ho, Sem.run_bind, hrun, Result.andThen_ok, Sem.run_pure]
    · simp only [Conc, writes, set_get_eq (lt_of_get hfr)]
      exact .inr (.inr ⟨by simp, C.w.heap.size, 0, len, cells', e, _, set_get_eq (by rw [hR.len]; exact lt_of_get hfr), h4, by simp, by simp [rowsOf_len], Nat.le_refl _, by simp [hcs']⟩)
  · simp at h
end
end Go.Abs
/- store, make, append -/
namespace Go.Abs
open Go.RowKit
section
variable {P : Program} {C : Ctx} {s : Nat → AV} {a : Act} {o : Oper} {v : AV} {ws : List (Nat × Blk)} {fr : Nat}

theorem cell_of_block {w : World} {b i : Nat} {c : Array Value} {e : TypeId} {f : Nat × Nat} (h : w.heap[b]? = some (.cells c e f)) : w.cell? ⟨b, i, none⟩ = c[i]? := by
  unfold World.cell?; rw [h]; rfl
theorem frozen_of_block {w : World} {b i : Nat} {c : Array Value} {e : TypeId} (h : w.heap[b]? = some (.cells c e (0, 0))) : w.frozen? ⟨b, i, none⟩ = false := by
  unfold World.frozen?; rw [h]; simp

theorem putCells_len {row cs : List AV} {off : Nat} (h : off + cs.length ≤ row.length) : (putCells row off cs).length = row.length := by
  unfold putCells
  rw [List.length_append, List.length_append, List.length_take, List.length_drop]; omega

/-- a row of the block is written, all else stays -/
theorem rows_written {C' : Ctx} (hs : Step C C') {b base sz : Nat} {els : List (List AV)} (hr : RowsAt C b base sz els) {i off : Nat} (hi : i < els.length) {cs : List AV} {us : List Value} (hl : ConcL C cs us) (h1 : ∀ x ∈ cs, isOne x = true) (hoff : off + cs.length ≤ sz)
    (hin : ∀ (j : Nat) u, us[j]? = some u → C'.w.cell? ⟨b, base + i * sz + off + j, none⟩ = some u)
    (hout : ∀ x, x < base + i * sz + off ∨ base + i * sz + off + us.length ≤ x → C'.w.cell? ⟨b, x, none⟩ = C.w.cell? ⟨b, x, none⟩) :
    RowsAt C' b base sz (els.set i (putCells (els.getD i []) off cs)) := by
  have hul := hl.length
  refine RowsAt.of fun k r hk => ?_
  by_cases hki : k = i
  · subst hki
    rw [List.getElem?_set_self (by simpa using hi)] at hk
    simp only [Option.some.injEq] at hk
    subst hk
    obtain ⟨hrl, hrc⟩ := hr.get (getD_some (d := []) hi)
    refine ⟨by rw [putCells_len (by omega)]; exact hrl, ?_⟩
    unfold putCells
    refine CellsAt.append (CellsAt.append ?_ ?_) ?_
    · refine CellsAt.keep hs _ _ _ (fun x hx1 hx2 => hout x (.inl ?_)) (hrc.take off)
      simp at hx2; omega
    · have e : base + k * sz + ((els.getD k []).take off).length = base + k * sz + off := by rw [List.length_take, hrl]; omega
      rw [e]
      exact CellsAt.of_vals (ConcL.mono hs cs us hl) hin h1
    · have e : base + k * sz + ((els.getD k []).take off ++ cs).length = base + k * sz + (off + cs.length) := by rw [List.length_append, List.length_take, hrl]; omega
      rw [e]
      exact CellsAt.keep hs _ _ _ (fun x hx1 hx2 => hout x (.inr (by omega))) (hrc.drop (off + cs.length))
  · rw [List.getElem?_set_ne (Ne.symm hki)] at hk
    obtain ⟨hrl, hrc⟩ := hr.get hk
    refine ⟨hrl, CellsAt.keep hs _ _ _ (fun x hx1 hx2 => hout x ?_) hrc⟩
    rw [hrl] at hx2
    rcases Nat.lt_or_gt_of_ne hki with h | h
    · left
      have : (k + 1) * sz ≤ i * sz := Nat.mul_le_mul_right sz h
      rw [Nat.add_mul] at this; omega
    · right
      have : (i + 1) * sz ≤ k * sz := Nat.mul_le_mul_right sz h
      rw [Nat.add_mul] at this; omega

theorem ok_store (hR : HeapRel C) (hS : Slots C s a) {t : TypeId} {x y : Operand} {n : Nat} (ho : o.op = .store t x y) (hn : sizeT P t = some n)
    (h : aop fr s (hget C.H) (.store n (opd x) (opd y)) = some (v, ws)) : OpOk P C a o v ws := by
  simp only [aop] at h
  have hx := hS.ev x
  split at h
  · rename_i id i off hc
    split at h
    · rename_i nil sz els hl
      split at h
      · rename_i hcond
        obtain ⟨hpl, hp1, hoff, hi⟩ := hcond
        simp only [Option.some.injEq, Prod.mk.injEq] at h
        obtain ⟨rfl, rfl⟩ := h
        have hH := hget_cells hl
        rw [hc] at hx
        simp only [Conc, hH] at hx
        obtain ⟨b, base, hm, hu⟩ := hx
        obtain ⟨hnil, c, e, hblk, hrows⟩ : nil = false ∧ ∃ c e, C.w.heap[b]? = some (.cells c e (0, 0)) ∧ RowsAt C b base sz els := by
          rcases hR.blk id true nil sz els hH with ⟨h, _⟩ | ⟨h0, b', base', c, e, h1, _, h2, h3⟩
          · rw [hm] at h; simp at h
          · rw [hm] at h1; simp at h1; obtain ⟨rfl, rfl⟩ := h1; exact ⟨h0, c, e, h2, h3⟩
        have hparts := conc_parts (hS.ev y) hp1
        have hone : ∀ z ∈ (Abs.ev s (opd y)).parts, isOne z = true := List.all_eq_true.1 hp1
        have hulen : (a.eval y).cells.toList.length = n := by rw [hparts.length, hpl]
        obtain ⟨hrl, hrc⟩ := hrows.get (getD_some (d := []) hi)
        have hcell : ∀ j, j < n → (C.w.cell? ⟨b, base + i * sz + off + j, none⟩).isSome = true := by
          intro j hj
          obtain ⟨us, hul, hcs, _⟩ := hrc.vals
          have hlt : off + j < us.length := by rw [hul.length, hrl]; omega
          have := hcs (off + j) _ (List.getElem?_eq_getElem hlt)
          rw [show base + i * sz + off + j = base + i * sz + (off + j) by omega, this]; rfl
        have huone : ∀ u ∈ (a.eval y).cells.toList, u.oneCell' = true := by
          intro u hu
          obtain ⟨k, hk, rfl⟩ := List.mem_iff_getElem.1 hu
          have hk' : k < (Abs.ev s (opd y)).parts.length := by rw [← hparts.length]; exact hk
          obtain ⟨u', hu', hcu⟩ := hparts.get (List.getElem?_eq_getElem hk')
          rw [List.getElem?_eq_getElem hk] at hu'
          simp at hu'
          subst hu'
          exact Conc.one hcu (hone _ (List.getElem_mem _))
        have hw := wrote_setCells C.w b (a.eval y).cells.toList (base + i * sz + off)
        have hfr : (id = id ∧ (els.set i (putCells (els.getD i []) off (Abs.ev s (opd y)).parts)).length = els.length ∧ base = base) ∨ C.H[id]? = some .resv := .inl ⟨rfl, by simp, rfl⟩
        have hwr := write_ok hR hH hm hw hfr (fun C' hs hw' => rows_written hs hrows hi hparts hone (by omega)
          (fun j u hu => by
            rw [hw']
            have hj : j < (a.eval y).cells.toList.length := lt_of_get hu
            rw [World.cell?_setCells_in b (a.eval y).cells.toList (base + i * sz + off) C.w (fun j hj => hcell j (by omega)) j hj]
            rw [List.getElem?_eq_getElem hj] at hu
            exact hu)
          (fun x hx => by
            rw [hw']
            exact World.cell?_setCells_out b _ _ C.w _ (fun _ _ => hx)))
        have e1 : (C.H.set id .dead).set id (.cells true false sz (els.set i (putCells (els.getD i []) off (Abs.ev s (opd y)).parts))) = writes C.H [(id, .cells true nil sz (els.set i (putCells (els.getD i []) off (Abs.ev s (opd y)).parts)))] := by
          subst hnil
          simp [writes]
        rw [e1] at hwr
        refine ⟨undef, _, _, .inr ⟨?_, rfl⟩, hwr.1, hwr.2, by simp [Conc]⟩
        have hsz := run_sizeOf (P := P) (w := C.w) hn
        have hst := run_storeCells_cells (P := P) b (base + i * sz + off) (a.eval y).cells.toList 0 C.w (fun j hj => by simpa using hcell j (by omega)) (fun j hj => frozen_of_block hblk) huone
        have hsz2 : (a.eval y).cells.size = n := by simpa using hulen
        simp only [execOp, ho, hu, Instr.storeAt, Instr.sureAddr, storeVar, Sem.run_bind, Sem.run_pure, Result.andThen_ok, hsz, hsz2, ne_eq, not_true, if_false, hst, Nat.add_zero]
      · simp at h
    · simp at h
  · simp at h

theorem ok_mks (hR : HeapRel C) (hS : Slots C s a) {t e : TypeId} {x y : Operand} {sz bytes : Nat} {zero : List AV} (ho : o.op = .makeSlice t x y) (ht : P.underlying t = some (.slice e)) (hsz : sizeT P e = some sz) (hby : bytesT P e = some bytes) (hz : zeroT P e = some zero)
    (hzl : zero.length = sz) (h1 : zero.all isOne = true) (hfr : C.H[fr]? = some .resv)
    (h : aop fr s (hget C.H) (.mks sz bytes zero (opd x) (opd y)) = some (v, ws)) : OpOk P C a o v ws := by
  simp only [aop] at h
  split at h
  · rename_i n c hx hy
    split at h
    · rename_i hc
      obtain ⟨h0, hnc, hcb, hc62⟩ := hc
      simp only [Option.some.injEq, Prod.mk.injEq] at h
      obtain ⟨rfl, rfl⟩ := h
      obtain ⟨ie, z, hi, hzv, rfl⟩ := zeroT_spec hz
      have hsz' : ie.size = sz := by simpa [sizeT, hi] using hsz
      have hby' : ie.bytes = bytes := by simpa [bytesT, hi] using hby
      have hzs : z.cells.size = sz := by simpa using hzl
      have hone : ∀ x ∈ z.cells.toList.map ofValue, isOne x = true := List.all_eq_true.1 h1
      have hrun := run_make (P := P) C.w t e ie z ht hi hzv .i64 .i64 n c h0 hnc (by rw [hby', Int.mul_comm]; omega) (by omega)
      have hmc : madeCells z.cells (c.toNat * ie.size) = madeCells z.cells (c.toNat * z.cells.size) := by rw [hsz', hzs]
      have hcell : ∀ k j u, k < c.toNat → z.cells.toList[j]? = some u → (madeCells z.cells (c.toNat * ie.size))[k * sz + j]? = some u := by
        intro k j u hk hj
        have hjl : j < z.cells.size := by have := lt_of_get hj; simpa using this
        have hb : k * sz + sz ≤ c.toNat * sz := by rw [← Nat.succ_mul]; exact Nat.mul_le_mul_right sz hk
        have hlt : k * sz + j < c.toNat * ie.size := by rw [hsz']; omega
        simp only [madeCells, Array.getElem?_map]
        rw [Array.getElem?_range, if_pos hlt]
        simp only [Option.map_some, Option.some.injEq]
        have : (k * sz + j) % z.cells.size = j := by rw [hzs, Nat.mul_comm, Nat.mul_add_mod, Nat.mod_eq_of_lt (by omega)]
        rw [this]
        have hj' : z.cells[j]? = some u := by simpa using hj
        rw [getElem!_def, hj']
      obtain ⟨h2, h3, h4⟩ := alloc_ok hR hfr (SameRest.refl C.w) (c := madeCells z.cells (c.toNat * ie.size)) (e := e) (sz := sz) (els := List.replicate n.toNat (z.cells.toList.map ofValue))
        (fun C' hs hw => RowsAt.of fun i r hr => by
          have hil : i < n.toNat := by have := lt_of_get hr; simpa using this
          rw [List.getElem?_replicate, if_pos hil] at hr
          simp only [Option.some.injEq] at hr
          subst hr
          refine ⟨hzl, ?_⟩
          rw [Nat.zero_add]
          exact rows_new hs rfl hw (concL_ofValue C z.cells.toList) hone (fun j u hu => hcell i j u (by omega) hu))
      refine ⟨.slice (some ⟨C.w.heap.size, 0, none⟩) n.toNat c.toNat, _, _, .inl (by simp only [execOp, ho, hS.lit hx, hS.lit hy, Sem.run_bind, hrun, Result.andThen_ok, Sem.run_pure]), h2, h3, ?_⟩
      simp only [Conc, writes, set_get_eq (lt_of_get hfr)]
      exact .inr (.inr ⟨by simp, C.w.heap.size, 0, c.toNat, _, e, _, set_get_eq (by rw [hR.len]; exact lt_of_get hfr), h4, by simp, by simp, by omega, by rw [size_madeCells, hsz']; simp⟩)
    · simp at h
  · simp at h

/-! append -/
theorem src_cells {tx ex : TypeId} {A : Option Addr} {n cap sz : Nat} {us : List Value} (htx : P.underlying tx = some (.slice ex)) (hlen : us.length = n * sz) (hone : ∀ u ∈ us, u.oneCell' = true)
    (hA : A = none → us = []) (hc : ∀ ad, A = some ad → ∀ (j : Nat) u, us[j]? = some u → C.w.cell? (ad.add j) = some u) : Src P sz tx (.slice A n cap) n us C.w := by
  have hfc : ∀ w : World, (∀ ad, A = some ad → ∀ (j : Nat) u, us[j]? = some u → w.cell? (ad.add j) = some u) → (Builtin.firstCells sz n (.slice A n cap)).run P w = .ok us.toArray w := by
    intro w hw
    cases A with
    | none => rw [hA rfl]; rfl
    | some ad =>
      have := run_loadCells_list (P := P) (w := w) (a := ad) us (hw ad rfl)
      rw [hlen] at this
      exact this
  exact ⟨.inl ⟨ex, htx⟩, fun w => rfl, hfc _ hc, hfc _ (fun ad h j u hu => hc ad h j u hu), hlen, hone⟩

theorem els_src (hR : HeapRel C) (hS : Slots C s a) {x : Operand} {tx ex : TypeId} {nil : Bool} {z sz : Nat} {news : List (List AV)} (htx : P.underlying tx = some (.slice ex)) (h : elsOf (hget C.H) (Abs.ev s (opd x)) = some (nil, z, news)) (hz : szOk news.isEmpty z sz = true) :
    ∃ us, Src P sz tx (a.eval x) news.length us C.w ∧ ConcL C news.flatten us ∧ (∀ c ∈ news.flatten, isOne c = true) ∧ (∀ r ∈ news, r.length = sz) := by
  have hx := hS.ev x
  -- rows that lie at an address
  have key : ∀ (b base cap : Nat) (A : Option Addr), a.eval x = .slice A news.length cap → (news ≠ [] → A = some ⟨b, base, none⟩) → RowsAt C b base z news → ∃ us, Src P sz tx (a.eval x) news.length us C.w ∧ ConcL C news.flatten us ∧ (∀ c ∈ news.flatten, isOne c = true) ∧ (∀ r ∈ news, r.length = sz) := by
    intro b base cap A hu hA hr
    by_cases hne : news = []
    · subst hne
      refine ⟨[], ?_, by simp [ConcL], by simp, by simp⟩
      rw [hu]
      exact src_cells htx (by simp) (by simp) (fun _ => rfl) (fun ad _ j u hj => by simp at hj)
    · have hzz : z = sz := by
        have : news.isEmpty = false := by simpa using hne
        simpa [szOk, this] using hz
      subst hzz
      obtain ⟨hc, hl⟩ := hr.flat
      obtain ⟨us, hus, hcell, hone, hone'⟩ := hc.vals
      refine ⟨us, ?_, hus, hone', fun r hr' => ?_⟩
      · rw [hu, hA hne]
        exact src_cells htx (by rw [hus.length, hl]) hone (fun h => by simp at h) (fun ad had j u hj => by
          simp at had
          subst had
          rw [add_none]
          exact hcell j u hj)
      · obtain ⟨i, hi, rfl⟩ := List.mem_iff_getElem.1 hr'
        exact (hr.get (List.getElem?_eq_getElem hi)).1
  unfold elsOf at h
  split at h
  · rename_i nl zz els hc
    simp only [Option.some.injEq, Prod.mk.injEq] at h
    obtain ⟨rfl, rfl, rfl⟩ := h
    rw [hc] at hx
    simp only [Conc] at hx
    rcases hx with ⟨_, hl, hu⟩ | ⟨_, b, base, cap, hu, _, _, hr⟩ | ⟨_, hl, ad, hu⟩
    · have : els = [] := List.eq_nil_of_length_eq_zero hl
      subst this
      exact key 0 0 0 none hu (fun h => by simp at h) trivial
    · exact key b base cap _ hu (fun _ => rfl) hr
    · have : els = [] := List.eq_nil_of_length_eq_zero hl
      subst this
      exact key 0 0 0 (some ad) hu (fun h => by simp at h) trivial
  · rename_i hc
    simp only [Option.some.injEq, Prod.mk.injEq] at h
    obtain ⟨rfl, rfl, rfl⟩ := h
    rw [hc] at hx
    simp only [Conc] at hx
    obtain ⟨ad, hu⟩ := hx
    exact key 0 0 0 (some ad) hu (fun h => by simp at h) trivial
  · rename_i id i len hc
    split at h
    · rename_i own nl zz els hl
      split at h
      · rename_i hlen
        simp only [Option.some.injEq, Prod.mk.injEq] at h
        obtain ⟨rfl, rfl, rfl⟩ := h
        have hH := hget_cells hl
        rw [hc] at hx
        simp only [Conc, hH] at hx
        have hnl : ((els.drop i).take len).length = len := by simp; omega
        rcases hx with ⟨_, hl0, rfl, rfl, hu⟩ | ⟨_, rfl, _, ad, hu⟩ | ⟨_, b, base, cap, c, e', f, hm, _, hu, _⟩
        · exact key 0 0 0 none (by rw [hu, hnl]) (fun h => by simp at h) (by simp [RowsAt])
        · exact key 0 0 0 (some ad) (by rw [hu, hnl]) (fun h => by simp at h) (by simp [RowsAt])
        · have hrows : RowsAt C b base zz els := by
            rcases hR.blk id own nl zz els hH with ⟨h, _⟩ | ⟨h0, b', base', c, e, h1, _, h2, h3⟩
            · rw [hm] at h; simp at h
            · rw [hm] at h1; simp at h1; obtain ⟨rfl, rfl⟩ := h1; exact h3
          exact key b (base + i * zz) cap _ (by rw [hu, hnl]) (fun _ => rfl) ((hrows.drop i).take len)
      · simp at h
    · simp at h
  · simp at h

theorem emptyRows {news : List (List AV)} {sz : Nat} {us : List Value} (hl : ConcL C news.flatten us) (hr : ∀ r ∈ news, r.length = sz) {C' : Ctx} (hs : Step C C') {b base : Nat} (h1 : ∀ c ∈ news.flatten, isOne c = true)
    (hc : ∀ (j : Nat) u, us[j]? = some u → C'.w.cell? ⟨b, base + j, none⟩ = some u) : RowsAt C' b base sz news := by
  have hcells : CellsAt C' b base news.flatten := CellsAt.of_vals (ConcL.mono hs _ us hl) hc h1
  clear hl hc h1
  induction news generalizing base with
  | nil => trivial
  | cons r rs ih =>
    simp only [RowsAt]
    rw [List.flatten_cons] at hcells
    have hrl := hr r (by simp)
    refine ⟨hrl, ?_, ih (fun r hr' => hr r (by simp [hr'])) ?_⟩
    · have := hcells.take r.length
      simpa using this
    · have := hcells.drop r.length
      rw [hrl] at this
      simpa [← hrl] using this

/-- append to what has no room: nil, or empty -/
theorem app_none {A : Option Addr} (hR : HeapRel C) {t tx ty e : TypeId} {x : Operand} {sz bytes : Nat} {zero : List AV} {news : List (List AV)} {us : List Value} (ht : P.underlying t = some (.slice e)) (hsz : sizeT P e = some sz) (hby : bytesT P e = some bytes) (hz : zeroT P e = some zero) (hzl : zero.length = sz)
    (hsrc : Src P sz tx (a.eval x) news.length us C.w) (hl : ConcL C news.flatten us) (h1 : ∀ c ∈ news.flatten, isOne c = true) (hr : ∀ r ∈ news, r.length = sz) (hfr : C.H[fr]? = some .resv) (hb : news.length * bytes ≤ 140737488355328) (hb2 : news.length ≤ 4611686018427387904) :
    ∃ u w' m', (Builtin.append_ #[t, tx] ty #[.slice A 0 0, a.eval x]).run P C.w = .ok u w' ∧
      Step C ⟨C.H.set fr (.cells true (A.isNone && news.isEmpty) sz news), m', w', C.prot⟩ ∧ HeapRel ⟨C.H.set fr (.cells true (A.isNone && news.isEmpty) sz news), m', w', C.prot⟩ ∧
      Conc ⟨C.H.set fr (.cells true (A.isNone && news.isEmpty) sz news), m', w', C.prot⟩ (.lsl fr 0 news.length) u := by
  obtain ⟨ie, z, hi, hzv, rfl⟩ := zeroT_spec hz
  have hsz' : ie.size = sz := by simpa [sizeT, hi] using hsz
  have hby' : ie.bytes = bytes := by simpa [bytesT, hi] using hby
  have hfrl := lt_of_get hfr
  by_cases hne : news = []
  · subst hne
    have hus : us = [] := by simpa [ConcL] using hl
    subst hus
    have hrun := run_append_nothing (P := P) C.w t tx ty e ie ht hi A 0 0 (Nat.le_refl 0) (a.eval x) (by rw [hsz']; exact hsrc)
    obtain ⟨h2, h3⟩ := virt_ok hR hfr (nil := A.isNone) (sz := sz)
    refine ⟨_, _, _, hrun, by simpa using h2, by simpa using h3, ?_⟩
    simp only [Conc, set_get_eq hfrl]
    cases A with
    | none => exact .inl ⟨by simp, by simp, by simp, by simp, rfl⟩
    | some ad =>
      exact .inr (.inl ⟨by simp, by simp, by simp, ad, rfl⟩)
  · have hpos : 0 < news.length := List.length_pos_iff.2 hne
    have hemp : news.isEmpty = false := by simpa using hne
    have hrun := run_append_grow_src (P := P) (w := C.w) t tx ty e ie z ht hi hzv A 0 0 [] (by cases A <;> simp [Builtin.firstCells, loadCells, loadCellsFrom]) (a.eval x) news.length us (by rw [hsz']; exact hsrc) (by omega) (by omega) (by rw [hby']; exact growslice_fits (by omega) (by simpa using hb))
    simp only [Nat.zero_add, List.nil_append] at hrun
    obtain ⟨h2, h3, h4⟩ := alloc_ok hR hfr (SameRest.drew C.w) (c := us.toArray ++ Builtin.zeroCells z.cells (grownCap C.w news.length 0 e - news.length)) (e := e) (sz := sz) (els := news)
      (fun C' hs hw => emptyRows hl hr hs h1 (fun j u hu => by
        rw [hw]
        have := World.cell?_alloc_new C.w.drew (us.toArray ++ Builtin.zeroCells z.cells (grownCap C.w news.length 0 e - news.length)) e (0 + j)
        rw [World.size_drew] at this
        rw [this, Nat.zero_add]
        rw [Array.getElem?_append_left (by have := lt_of_get hu; simpa using this)]
        simpa using hu))
    refine ⟨_, _, _, hrun, by simpa [hemp] using h2, by simpa [hemp] using h3, ?_⟩
    simp only [Conc, set_get_eq hfrl, hemp, Bool.and_false]
    refine .inr (.inr ⟨by simp, C.w.heap.size, 0, grownCap C.w news.length 0 e, _, e, _, set_get_eq (by rw [hR.len]; exact hfrl), h4, by simp, by simp, grownCap_ge _ _ _ _, ?_⟩)
    have hg := grownCap_ge C.w news.length 0 e
    have hzs : z.cells.size = sz := by simpa using hzl
    simp only [Array.size_append, List.size_toArray, size_zeroCells, hzs, hsrc.newsLen, ← Nat.add_mul, Nat.zero_add]
    exact Nat.mul_le_mul_right sz (by omega)

/-- append to a row of the call's own: in place, or anew -/
theorem app_own (hR : HeapRel C) {t tx ty e : TypeId} {x : Operand} {sz bytes id i len cap b base : Nat} {zero : List AV} {news els : List (List AV)} {nil : Bool} {us : List Value} (ht : P.underlying t = some (.slice e)) (hsz : sizeT P e = some sz) (hby : bytesT P e = some bytes) (hz : zeroT P e = some zero) (hzl : zero.length = sz)
    (hsrc : Src P sz tx (a.eval x) news.length us C.w) (hl : ConcL C news.flatten us) (h1 : ∀ c ∈ news.flatten, isOne c = true) (hr : ∀ r ∈ news, r.length = sz) (hfr : C.H[fr]? = some .resv) (hb : (len + news.length) * bytes ≤ 140737488355328) (hb2 : len + news.length ≤ 4611686018427387904)
    (hH : C.H[id]? = some (.cells true nil sz els)) (hm : C.m[id]? = some (some (b, base))) {c0 : Array Value} {e0 : TypeId} {f0 : Nat × Nat} (hblk : C.w.heap[b]? = some (.cells c0 e0 f0)) (hil : i + len ≤ els.length) (hroom : base + (i + cap) * sz ≤ c0.size) :
    ∃ u w' m', (Builtin.append_ #[t, tx] ty #[.slice (some ⟨b, base + i * sz, none⟩) len cap, a.eval x]).run P C.w = .ok u w' ∧
      Step C ⟨(C.H.set id .dead).set fr (.cells true false sz ((els.drop i).take len ++ news)), m', w', C.prot⟩ ∧ HeapRel ⟨(C.H.set id .dead).set fr (.cells true false sz ((els.drop i).take len ++ news)), m', w', C.prot⟩ ∧
      Conc ⟨(C.H.set id .dead).set fr (.cells true false sz ((els.drop i).take len ++ news)), m', w', C.prot⟩ (.lsl fr 0 (len + news.length)) u := by
  obtain ⟨ie, z, hi, hzv, rfl⟩ := zeroT_spec hz
  have hsz' : ie.size = sz := by simpa [sizeT, hi] using hsz
  have hby' : ie.bytes = bytes := by simpa [bytesT, hi] using hby
  have hzs : z.cells.size = sz := by simpa using hzl
  have hfrl := lt_of_get hfr
  have hne : fr ≠ id := by rintro rfl; rw [hfr] at hH; simp at hH
  obtain ⟨hnil, c, e1, hblk', hrows⟩ : nil = false ∧ ∃ c e, C.w.heap[b]? = some (.cells c e (0, 0)) ∧ RowsAt C b base sz els := by
    rcases hR.blk id true nil sz els hH with ⟨h, _⟩ | ⟨h0, b', base', c, e, h1, _, h2, h3⟩
    · rw [hm] at h; simp at h
    · rw [hm] at h1; simp at h1; obtain ⟨rfl, rfl⟩ := h1; exact ⟨h0, c, e, h2, h3⟩
  rw [hblk'] at hblk
  simp only [Option.some.injEq, Obj.cells.injEq] at hblk
  obtain ⟨rfl, rfl, rfl⟩ := hblk
  have holdl : ((els.drop i).take len).length = len := by simp; omega
  have hold : RowsAt C b (base + i * sz) sz ((els.drop i).take len) := (hrows.drop i).take len
  by_cases hcap : len + news.length ≤ cap
  · have hnl : us.length = news.length * sz := hsrc.newsLen
    have hfit : base + i * sz + len * sz + us.length ≤ c.size := by
      have h5 : (i + (len + news.length)) * sz ≤ (i + cap) * sz := Nat.mul_le_mul_right sz (by omega)
      have h6 : (i + (len + news.length)) * sz = i * sz + len * sz + news.length * sz := by rw [Nat.add_mul, Nat.add_mul]; omega
      omega
    have hsome : ∀ j, j < us.length → (C.w.cell? ⟨b, base + i * sz + len * sz + j, none⟩).isSome = true := by
      intro j hj
      rw [cell_of_block hblk', Array.getElem?_eq_getElem (by omega)]; rfl
    have hrun := run_append_room_src (P := P) (w := C.w) t tx ty e ie ht hi b (base + i * sz) len cap (a.eval x) news.length us (by rw [hsz']; exact hsrc) hcap
      (by rw [hsz']; exact hsome) (by rw [hsz']; intro j _; exact frozen_of_block hblk')
    rw [hsz'] at hrun
    have hw := wrote_setCells C.w b us (base + i * sz + len * sz)
    obtain ⟨h2, h3⟩ := write_ok (base' := base + i * sz) (els' := (els.drop i).take len ++ news) hR hH hm hw (.inr hfr) (fun C' hs hw' => by
      refine RowsAt.append ?_ ?_
      · refine RowsAt.keep hs _ b _ sz (fun o h7 h8 => ?_) hold
        rw [holdl] at h8
        rw [hw']
        exact World.cell?_setCells_out b us _ C.w ⟨b, o, none⟩ (fun _ _ => .inl (by omega))
      · rw [holdl]
        refine emptyRows hl hr hs h1 (fun j u hu => ?_)
        have hj := lt_of_get hu
        rw [hw', World.cell?_setCells_in b us (base + i * sz + len * sz) C.w hsome j hj]
        rw [List.getElem?_eq_getElem hj] at hu
        exact hu)
    refine ⟨_, _, _, hrun, h2, h3, ?_⟩
    obtain ⟨c', hb', hcs'⟩ := hw.here _ _ _ hblk'
    simp only [Conc, set_get_eq (show fr < (C.H.set id .dead).length by simpa using hfrl)]
    refine .inr (.inr ⟨by simp, b, base + i * sz, cap, c', _, _, set_get_eq (by rw [hR.len]; exact hfrl), hb', by simp, by simp; omega, hcap, ?_⟩)
    rw [hcs', Nat.zero_add, Nat.add_assoc, ← Nat.add_mul]; exact hroom
  · obtain ⟨hk1, hk2⟩ := turn_ok hR hH (B := .dead) (.inl rfl)
    have hfr' : (C.H.set id .dead)[fr]? = some .resv := by rw [set_get_ne (Ne.symm hne)]; exact hfr
    obtain ⟨hc1, hc2⟩ := hold.flat
    obtain ⟨olds, hol, hoc, _, ho1⟩ := hc1.vals
    have hol' : olds.length = len * sz := by rw [hol.length, hc2, holdl]
    have hloadO : ∀ w : World, w.heap = C.w.heap → (Builtin.firstCells ie.size len (.slice (some ⟨b, base + i * sz, none⟩) len cap)).run P w = .ok olds.toArray w := by
      intro w hw
      have := run_loadCells_list (P := P) (w := w) (a := ⟨b, base + i * sz, none⟩) olds (fun j u hu => by
        rw [add_none]
        exact (World.cell?_of_block (w := C.w) (w' := w) (a := ⟨b, base + i * sz + j, none⟩) (by rw [hw])).trans (hoc j u hu))
      rw [hol'] at this
      simpa [Builtin.firstCells, hsz'] using this
    have hrun := run_append_grow_src (P := P) (w := C.w) t tx ty e ie z ht hi hzv (some ⟨b, base + i * sz, none⟩) len cap olds (hloadO _ rfl) (a.eval x) news.length us (by rw [hsz']; exact hsrc) (by omega) (by omega) (by rw [hby']; exact growslice_fits (by omega) hb)
    have hlen2 : (olds ++ us).length = (len + news.length) * sz := by rw [List.length_append, hol', hsrc.newsLen, Nat.add_mul]
    obtain ⟨h2, h3, h4⟩ := alloc_ok (C := ⟨C.H.set id .dead, C.m, C.w, C.prot⟩) hk2 hfr' (SameRest.drew C.w) (c := (olds ++ us).toArray ++ Builtin.zeroCells z.cells (grownCap C.w (len + news.length) cap e - (len + news.length))) (e := e) (sz := sz) (els := (els.drop i).take len ++ news)
      (fun C' hs hw => by
        have hall : ConcL C ((els.drop i).take len ++ news).flatten (olds ++ us) := by rw [List.flatten_append]; exact hol.append hl
        refine emptyRows (C := ⟨C.H.set id .dead, C.m, C.w, C.prot⟩) (ConcL.mono hk1 _ _ hall) (fun r hr' => ?_) hs (fun c hc => ?_) (fun j u hu => ?_)
        · rcases List.mem_append.1 hr' with h | h
          · obtain ⟨k, hk, rfl⟩ := List.mem_iff_getElem.1 h
            exact (hold.get (List.getElem?_eq_getElem hk)).1
          · exact hr r h
        · rw [List.flatten_append] at hc
          rcases List.mem_append.1 hc with h | h
          · exact ho1 c h
          · exact h1 c h
        · rw [hw]
          have := World.cell?_alloc_new C.w.drew ((olds ++ us).toArray ++ Builtin.zeroCells z.cells (grownCap C.w (len + news.length) cap e - (len + news.length))) e (0 + j)
          rw [World.size_drew] at this
          rw [this, Nat.zero_add]
          rw [Array.getElem?_append_left (by have := lt_of_get hu; simpa using this)]
          simpa using hu)
    have hg := grownCap_ge C.w (len + news.length) cap e
    refine ⟨_, _, _, hrun, hk1.trans h2, h3, ?_⟩
    simp only [Conc, set_get_eq (show fr < (C.H.set id .dead).length by simpa using hfrl)]
    refine .inr (.inr ⟨by simp, C.w.heap.size, 0, grownCap C.w (len + news.length) cap e, _, e, _, set_get_eq (by rw [hR.len]; exact hfrl), h4, by simp, by simp; omega, hg, ?_⟩)
    rw [Array.size_append, List.size_toArray, size_zeroCells, hzs, hlen2, ← Nat.add_mul, Nat.zero_add, Nat.zero_add]
    exact Nat.mul_le_mul_right sz (by omega)

theorem ok_app (hR : HeapRel C) (hS : Slots C s a) {t tx e ex : TypeId} {x y : Operand} {sz bytes : Nat} {zero : List AV} (ho : o.op = .call { callee := .builtin .append, args := #[x, y], argTypes := #[t, tx] }) (ht : P.underlying t = some (.slice e)) (htx : P.underlying tx = some (.slice ex))
    (hsz : sizeT P e = some sz) (hby : bytesT P e = some bytes) (hby0 : 0 < bytes) (hz : zeroT P e = some zero) (hzl : zero.length = sz) (hfr : C.H[fr]? = some .resv)
    (h : aop fr s (hget C.H) (.app sz bytes (opd x) (opd y)) = some (v, ws)) : OpOk P C a o v ws := by
  have fin : ∀ u w', (Builtin.append_ #[t, tx] o.type #[a.eval x, a.eval y]).run P C.w = .ok u w' → (execOp a.eval o).run P C.w = .ok (.value u) w' := by
    intro u w' hrun
    simp [execOp, ho, resolve, invoke, builtin, hrun]
  have hbd : ∀ n : Nat, n * bytes ≤ 140737488355328 → n ≤ 4611686018427387904 := fun n hn => by
    have : n * 1 ≤ n * bytes := Nat.mul_le_mul_left n hby0
    omega
  have hx := hS.ev x
  simp only [aop] at h
  split at h
  · rename_i nl z news hels
    split at h
    · rename_i hzk
      obtain ⟨us, hsrc, hl, h1, hr⟩ := els_src hR hS htx hels hzk
      split at h
      · rename_i z0 els0 hc
        split at h
        · rename_i hb
          simp only [Option.some.injEq, Prod.mk.injEq] at h
          obtain ⟨rfl, rfl⟩ := h
          rw [hc] at hx
          simp only [Conc] at hx
          have hu : a.eval x = .slice none 0 0 := by rcases hx with ⟨_, _, h⟩ | ⟨h, _⟩ | ⟨h, _⟩; exact h; simp at h; simp at h
          obtain ⟨u, w', m', hrun, h2, h3, h4⟩ := app_none (A := none) (ty := o.type) hR ht hsz hby hz hzl hsrc hl h1 hr hfr hb (hbd _ hb)
          simp only [Option.isNone_none, Bool.true_and] at h2 h3 h4
          exact ⟨u, w', m', .inl (fin _ _ (by rw [hu]; exact hrun)), h2, h3, h4⟩
        · simp at h
      · rename_i hc
        split at h
        · rename_i hb
          simp only [Option.some.injEq, Prod.mk.injEq] at h
          obtain ⟨rfl, rfl⟩ := h
          rw [hc] at hx
          simp only [Conc] at hx
          obtain ⟨ad, hu⟩ := hx
          obtain ⟨u, w', m', hrun, h2, h3, h4⟩ := app_none (A := some ad) (ty := o.type) hR ht hsz hby hz hzl hsrc hl h1 hr hfr hb (hbd _ hb)
          simp only [Option.isNone_some, Bool.false_and] at h2 h3 h4
          exact ⟨u, w', m', .inl (fin _ _ (by rw [hu]; exact hrun)), h2, h3, h4⟩
        · simp at h
      · rename_i id i len hc
        split at h
        · rename_i nil z' els hl'
          split at h
          · rename_i hcond
            obtain ⟨rfl, hle, hb⟩ := hcond
            simp only [Option.some.injEq, Prod.mk.injEq] at h
            obtain ⟨rfl, rfl⟩ := h
            have hH := hget_cells hl'
            rw [hc] at hx
            simp only [Conc, hH] at hx
            have hne : id ≠ fr := by rintro rfl; rw [hfr] at hH; simp at hH
            -- the old number is given up, then a slice without room
            have none_case : ∀ A : Option Addr, a.eval x = .slice A 0 0 → len = 0 → A.isNone = nil → OpOk P C a o (.lsl fr 0 (len + news.length)) [(id, .dead), (fr, .cells true (nil && news.isEmpty) z' ((els.drop i).take len ++ news))] := by
              intro A hu hl0 hnil
              subst hl0 hnil
              obtain ⟨hk1, hk2⟩ := turn_ok hR hH (B := .dead) (.inl rfl)
              have hfr' : (C.H.set id .dead)[fr]? = some .resv := by rw [set_get_ne hne]; exact hfr
              obtain ⟨u, w', m', hrun, h2, h3, h4⟩ := app_none (C := ⟨C.H.set id .dead, C.m, C.w, C.prot⟩) (A := A) (ty := o.type) hk2 ht hsz hby hz hzl hsrc (ConcL.mono hk1 _ _ hl) h1 hr hfr' (by simpa using hb) (hbd _ (by simpa using hb))
              refine ⟨u, w', m', .inl (fin _ _ (by rw [hu]; exact hrun)), ?_, ?_, ?_⟩
              · simpa [writes] using hk1.trans h2
              · simpa [writes] using h3
              · simpa [writes] using h4
            rcases hx with ⟨rfl, hl0, rfl, rfl, hu⟩ | ⟨rfl, rfl, _, ad, hu⟩ | ⟨rfl, b, base, cap, c, e', f, hm, hblk, hu, h5, h6, h7⟩
            · exact none_case none hu rfl rfl
            · exact none_case (some ad) hu rfl rfl
            · obtain ⟨u, w', m', hrun, h2, h3, h4⟩ := app_own (ty := o.type) hR ht hsz hby hz hzl hsrc hl h1 hr hfr hb (hbd _ hb) hH hm hblk h5 h7
              refine ⟨u, w', m', .inl (fin _ _ (by rw [hu]; exact hrun)), ?_, ?_, ?_⟩
              · simpa [writes] using h2
              · simpa [writes] using h3
              · simpa [writes] using h4
          · simp at h
        · simp at h
      · simp at h
    · simp at h
  · simp at h

/-! copy, of elements of one cell -/
theorem ones_map : ∀ {l : List (List AV)}, (∀ r ∈ l, r.length = 1) → l = l.flatten.map fun c => [c]
  | [], _ => rfl
  | r :: l, h => by
    have h0 := h r (by simp)
    match r, h0 with
    | [c], _ => simp only [List.flatten_cons, List.cons_append, List.nil_append, List.map_cons]; rw [← ones_map fun r hr => h r (by simp [hr])]
theorem els_at (hR : HeapRel C) (hS : Slots C s a) {x : Operand} {nil : Bool} {z : Nat} {news : List (List AV)} (h : elsOf (hget C.H) (Abs.ev s (opd x)) = some (nil, z, news)) (hz : szOk news.isEmpty z 1 = true) :
    ∃ A cap us, a.eval x = .slice A news.length cap ∧ (A = none → us = []) ∧ (∀ ad, A = some ad → ∀ (j : Nat) u, us[j]? = some u → C.w.cell? (ad.add j) = some u) ∧ us.length = news.length ∧ (∀ u ∈ us, u.oneCell' = true) ∧ ConcL C news.flatten us ∧ (∀ c ∈ news.flatten, isOne c = true) ∧ (∀ r ∈ news, r.length = 1) ∧ (news ≠ [] → ∃ b o, A = some ⟨b, o, none⟩) := by
  have hx := hS.ev x
  have key : ∀ (b base cap : Nat) (A : Option Addr), a.eval x = .slice A news.length cap → (news ≠ [] → A = some ⟨b, base, none⟩) → RowsAt C b base z news → ∃ A cap us, a.eval x = .slice A news.length cap ∧ (A = none → us = []) ∧ (∀ ad, A = some ad → ∀ (j : Nat) u, us[j]? = some u → C.w.cell? (ad.add j) = some u) ∧ us.length = news.length ∧ (∀ u ∈ us, u.oneCell' = true) ∧ ConcL C news.flatten us ∧ (∀ c ∈ news.flatten, isOne c = true) ∧ (∀ r ∈ news, r.length = 1) ∧ (news ≠ [] → ∃ b o, A = some ⟨b, o, none⟩) := by
    intro b base cap A hu hA hr
    by_cases hne : news = []
    · subst hne
      exact ⟨A, cap, [], hu, fun _ => rfl, fun _ _ j u hj => by simp at hj, rfl, by simp, by simp [ConcL], by simp, by simp, fun h => absurd rfl h⟩
    · have hzz : z = 1 := by
        have : news.isEmpty = false := by simpa using hne
        simpa [szOk, this] using hz
      subst hzz
      obtain ⟨hc, hl⟩ := hr.flat
      obtain ⟨us, hus, hcell, hone, hone'⟩ := hc.vals
      refine ⟨A, cap, us, hu, fun h => by rw [hA hne] at h; simp at h, fun ad had j u hj => ?_, by rw [hus.length, hl]; omega, hone, hus, hone', fun r hr' => ?_, fun h => ⟨b, base, hA h⟩⟩
      · rw [hA hne] at had
        simp at had
        subst had
        rw [add_none]
        exact hcell j u hj
      · obtain ⟨i, hi, rfl⟩ := List.mem_iff_getElem.1 hr'
        exact (hr.get (List.getElem?_eq_getElem hi)).1
  unfold elsOf at h
  split at h
  · rename_i nl zz els hc
    simp only [Option.some.injEq, Prod.mk.injEq] at h
    obtain ⟨rfl, rfl, rfl⟩ := h
    rw [hc] at hx
    simp only [Conc] at hx
    rcases hx with ⟨_, hl, hu⟩ | ⟨_, b, base, cap, hu, _, _, hr⟩ | ⟨_, hl, ad, hu⟩
    · have : els = [] := List.eq_nil_of_length_eq_zero hl
      subst this
      exact key 0 0 0 none hu (fun h => by simp at h) trivial
    · exact key b base cap _ hu (fun _ => rfl) hr
    · have : els = [] := List.eq_nil_of_length_eq_zero hl
      subst this
      exact key 0 0 0 (some ad) hu (fun h => by simp at h) trivial
  · rename_i hc
    simp only [Option.some.injEq, Prod.mk.injEq] at h
    obtain ⟨rfl, rfl, rfl⟩ := h
    rw [hc] at hx
    simp only [Conc] at hx
    obtain ⟨ad, hu⟩ := hx
    exact key 0 0 0 (some ad) hu (fun h => by simp at h) trivial
  · rename_i id i len hc
    split at h
    · rename_i own nl zz els hb
      split at h
      · rename_i hle
        simp only [Option.some.injEq, Prod.mk.injEq] at h
        obtain ⟨rfl, rfl, rfl⟩ := h
        have hH := hget_cells hb
        rw [hc] at hx
        simp only [Conc, hH] at hx
        have hnl : ((els.drop i).take len).length = len := by simp; omega
        rcases hx with ⟨rfl, hl0, rfl, rfl, hu⟩ | ⟨rfl, rfl, _, ad, hu⟩ | ⟨rfl, b, base, cap, c, e', f, hm, hblk, hu, h5, h6, h7⟩
        · exact key 0 0 0 none hu (fun h => by simp at h) trivial
        · exact key 0 0 0 (some ad) hu (fun h => by simp at h) trivial
        · have hrows : RowsAt C b base zz els := by
            rcases hR.blk id own false zz els hH with ⟨h, _⟩ | ⟨_, b', base', c, e, h1, _, _, h3⟩
            · rw [hm] at h; simp at h
            · rw [hm] at h1; simp at h1; obtain ⟨rfl, rfl⟩ := h1; exact h3
          exact key b (base + i * zz) cap _ (by rw [hnl]; exact hu) (fun _ => rfl) ((hrows.drop i).take len)
      · simp at h
    · simp at h
  · simp at h

theorem ok_copy (hR : HeapRel C) (hS : Slots C s a) {t tx e : TypeId} {x y : Operand} (ho : o.op = .call { callee := .builtin .copy, args := #[x, y], argTypes := #[t, tx] }) (ht : P.underlying t = some (.slice e)) (hsz : sizeT P e = some 1)
    (h : aop fr s (hget C.H) (.copy (opd x) (opd y)) = some (v, ws)) : OpOk P C a o v ws := by
  have fin : ∀ u w', (Builtin.copy_ #[t, tx] o.type #[a.eval x, a.eval y]).run P C.w = .ok u w' → (execOp a.eval o).run P C.w = .ok (.value u) w' := by
    intro u w' hrun
    simp [execOp, ho, resolve, invoke, builtin, hrun]
  have hx := hS.ev x
  simp only [aop] at h
  split at h
  · rename_i id i len hc
    split at h
    · rename_i nil z els hl'
      split at h
      · rename_i nl z' news hels
        split at h
        · rename_i hcond
          obtain ⟨rfl, hzk, hle⟩ := hcond
          simp only [Option.some.injEq, Prod.mk.injEq] at h
          obtain ⟨rfl, rfl⟩ := h
          obtain ⟨A, ycap, us, hy, hA0, hA1, hulen, huone, hus, hone, h1, -⟩ := els_at hR hS hels hzk
          have hH := hget_cells hl'
          rw [hc] at hx
          simp only [Conc, hH] at hx
          have hszr := run_sizeOf (P := P) (w := C.w) hsz
          have hfc : (Builtin.firstCells 1 (min news.length len) (a.eval y)).run P C.w = .ok (us.take len).toArray C.w := by
            rw [hy]
            cases A with
            | none => rw [hA0 rfl]; simp [Builtin.firstCells]
            | some ad =>
              have hlc := run_loadCells_list (P := P) (w := C.w) (a := ad) (us.take len) (fun j u hj => hA1 ad rfl j u (by
                rw [List.getElem?_take] at hj; split at hj; exact hj; simp at hj))
              have : (us.take len).length = min news.length len * 1 := by simp [hulen]; omega
              rw [this] at hlc
              exact hlc
          have hcop : ∀ (B : Option Addr) dCap, a.eval x = .slice B len dCap → ∀ w', (match B with | some ad => storeCells ad (us.take len) | none => pure ()).run P C.w = .ok () w' →
              (Builtin.copy_ #[t, tx] o.type #[a.eval x, a.eval y]).run P C.w = .ok (goInt (min news.length len : Nat)) w' := by
            intro B dCap hB w' hst
            have hn : Nat.min news.length len = min news.length len := rfl
            have hlen : (Builtin.lenOf (a.eval y)).run P C.w = .ok news.length C.w := by rw [hy]; rfl
            rw [hB]
            cases B with
            | none =>
              simp only [Sem.run_pure, Result.ok.injEq, true_and] at hst
              subst hst
              simp [Builtin.copy_, run_underlying ht, hszr, hlen, hn, hfc]
            | some ad => simp [Builtin.copy_, run_underlying ht, hszr, hlen, hn, hfc, hst]
          have same : ∀ (B : Option Addr) dCap, len = 0 → a.eval x = .slice B len dCap → OpOk P C a o (intV (min news.length len : Nat)) [(id, .cells true nil 1 (els.take i ++ news.take len ++ els.drop (i + min news.length len)))] := by
            intro B dCap hl0 hB
            have e1 : writes C.H [(id, .cells true nil 1 (els.take i ++ news.take len ++ els.drop (i + min news.length len)))] = C.H := by
              subst hl0
              simp only [writes, List.take_zero, List.append_nil, Nat.min_zero, Nat.add_zero, List.take_append_drop]
              exact List.ext_getElem? fun k => by
                by_cases hk : id = k
                · subst hk; rw [set_get_eq (lt_of_get hH), hH]
                · rw [set_get_ne hk]
            refine ⟨goInt (min news.length len : Nat), C.w, C.m, .inl (fin _ _ (hcop B dCap hB C.w ?_)), ?_, ?_, ?_⟩
            · subst hl0
              cases B with
              | none => rfl
              | some ad => simp [storeCells]
            · rw [e1]; exact Step.refl C
            · rw [e1]; exact hR
            · simp [intV, Conc, goInt]
          rcases hx with ⟨rfl, hl0, rfl, rfl, hu⟩ | ⟨rfl, rfl, _, ad, hu⟩ | ⟨rfl, b, base, cap, c, e', f, hm, hblk, hu, h5, h6, h7⟩
          · exact same none 0 rfl hu
          · exact same (some ad) 0 rfl hu
          · obtain ⟨hr0, c0, e0, hb0⟩ : RowsAt C b base 1 els ∧ ∃ c e, C.w.heap[b]? = some (.cells c e (0, 0)) := by
              rcases hR.blk id true false 1 els hH with ⟨h, _⟩ | ⟨_, b', base', c, e, h1, _, h2, h3⟩
              · rw [hm] at h; simp at h
              · rw [hm] at h1; simp at h1; obtain ⟨rfl, rfl⟩ := h1; exact ⟨h3, c, e, h2⟩
            have hnl : (us.take len).length = min news.length len := by simp [hulen]; omega
            have hcell : ∀ j, j < els.length → (C.w.cell? ⟨b, base + j, none⟩).isSome = true := fun j hj => by
              obtain ⟨hrl, hrc⟩ := hr0.get (List.getElem?_eq_getElem hj)
              obtain ⟨us', hul, hcs, _⟩ := hrc.vals
              have := hcs 0 _ (List.getElem?_eq_getElem (show 0 < us'.length by rw [hul.length, hrl]; omega))
              simp only [Nat.mul_one, Nat.add_zero] at this
              rw [this]; rfl
            have hin : ∀ j, j < (us.take len).length → (C.w.cell? ⟨b, base + i + j, none⟩).isSome = true := fun j hj => by
              rw [Nat.add_assoc]; exact hcell (i + j) (by omega)
            have hlen' : (els.take i ++ news.take len ++ els.drop (i + min news.length len)).length = els.length := by simp; omega
            have hwr := write_ok hR hH hm (wrote_setCells C.w b (us.take len) (base + i)) (fr := id) (base' := base) (els' := els.take i ++ news.take len ++ els.drop (i + min news.length len)) (.inl ⟨rfl, hlen', rfl⟩) (fun C' hs hw' => RowsAt.of fun k r hr => by
              have hkl := lt_of_get hr
              rw [hlen'] at hkl
              have hout : (k < i ∨ i + min news.length len ≤ k) → els[k]? = some r → r.length = 1 ∧ CellsAt C' b (base + k * 1) r := fun hk hek => by
                obtain ⟨g1, g2⟩ := hr0.get hek
                refine ⟨g1, CellsAt.keep hs r b (base + k * 1) (fun o h1 h2 => ?_) g2⟩
                rw [hw']
                exact World.cell?_setCells_out b _ _ C.w _ (fun _ _ => by rw [hnl]; dsimp only; omega)
              by_cases hk1 : k < i
              · rw [List.append_assoc, List.getElem?_append_left (by simp; omega), List.getElem?_take, if_pos hk1] at hr
                exact hout (.inl hk1) hr
              · by_cases hk2 : k < i + min news.length len
                · rw [List.append_assoc, List.getElem?_append_right (by simp; omega), List.getElem?_append_left (by simp; omega), List.getElem?_take, if_pos (by simp; omega)] at hr
                  simp only [List.length_take] at hr
                  rw [show k - min i els.length = k - i by omega, ones_map h1, List.getElem?_map, Option.map_eq_some_iff] at hr
                  obtain ⟨cc, hcc, rfl⟩ := hr
                  obtain ⟨u, hu', hcu⟩ := hus.get hcc
                  refine ⟨rfl, ⟨u, ?_, huone u (List.mem_of_getElem? hu'), hone cc (List.mem_of_getElem? hcc), Conc.mono hs _ _ hcu⟩, trivial⟩
                  have hj : k - i < (us.take len).length := by rw [hnl]; omega
                  have := World.cell?_setCells_in b (us.take len) (base + i) C.w hin (k - i) hj
                  rw [hw', show base + k * 1 = base + i + (k - i) by omega, this, ← List.getElem?_eq_getElem hj, List.getElem?_take, if_pos (by omega), hu']
                · rw [List.getElem?_append_right (by simp; omega), List.getElem?_drop] at hr
                  simp only [List.length_append, List.length_take] at hr
                  rw [show i + min news.length len + (k - (min i els.length + min len news.length)) = k by omega] at hr
                  exact hout (.inr (by omega)) hr)
            have e1 : (C.H.set id .dead).set id (.cells true false 1 (els.take i ++ news.take len ++ els.drop (i + min news.length len))) = writes C.H [(id, .cells true false 1 (els.take i ++ news.take len ++ els.drop (i + min news.length len)))] := by
              simp [writes]
            rw [e1] at hwr
            have hst := run_storeCells_cells (P := P) b (base + i * 1) (us.take len) 0 C.w (fun j hj => by rw [Nat.mul_one, Nat.add_zero]; exact hin j hj) (fun j hj => frozen_of_block hb0) (fun u hu => huone u (List.mem_of_mem_take hu))
            rw [Nat.mul_one, Nat.add_zero] at hst
            refine ⟨goInt (min news.length len : Nat), _, _, .inl (fin _ _ (hcop _ _ hu _ (by rw [Nat.mul_one]; exact hst))), hwr.1, hwr.2, by simp [intV, Conc, goInt]⟩
        · simp at h
      · simp at h
    · simp at h
  · simp at h
end
end Go.Abs
/- Maps: making, looking up, storing. -/
namespace Go.Abs
open Go.RowKit

def kdOf (P : Program) (k : TypeId) : Option KD := match P.underlying k with
  | some .string => some .str
  | some (.int q) => some (.int q)
  | _ => none
def KD.desc : KD → TypeDesc
  | .str => .string
  | .int k => .int k
theorem kdOf_desc {P : Program} {k : TypeId} {kd : KD} (h : kdOf P k = some kd) : P.underlying k = some kd.desc := by
  unfold kdOf at h
  split at h
  · obtain rfl := Option.some.inj h; assumption
  · obtain rfl := Option.some.inj h; assumption
  · simp at h
theorem KD.same_eq {a b : KD} (h : a.same b = true) : a = b := by
  cases a <;> cases b <;> simp_all [KD.same]
theorem keyIs_isKey {kd : KD} {v : Value} (h : keyIs kd v = true) : MapKept.IsKey kd.desc v := by
  cases kd <;> cases v <;> simp_all [keyIs, MapKept.IsKey, KD.desc]
theorem keyEq_iff {kd : KD} {a b : Value} (ha : keyIs kd a = true) (hb : keyIs kd b = true) : keyEq a b = true ↔ a = b := by
  cases kd <;> cases a <;> simp [keyIs] at ha <;> cases b <;> simp [keyIs] at hb
  · rename_i x y
    simp [keyEq, Array.toList_inj]
    constructor
    · intro h; cases x; cases y; simp at h; rw [h]
    · rintro rfl; rfl
  · subst ha hb; simp [keyEq]

theorem mfind_none {kd : KD} {k : Value} (hk : keyIs kd k = true) : ∀ {l : List (Value × Value)}, (∀ e ∈ l, keyIs kd e.1 = true) → (∀ e ∈ l, e.1 ≠ k) → mfind k l = none ∧ ∀ v, mput k v l = l ++ [(k, v)]
  | [], _, _ => ⟨rfl, fun _ => rfl⟩
  | (a, u) :: r, h1, h2 => by
    have hne : keyEq a k = false := by
      cases h : keyEq a k with
      | false => rfl
      | true => exact (h2 (a, u) (by simp) ((keyEq_iff (h1 (a, u) (by simp)) hk).1 h)).elim
    obtain ⟨h3, h4⟩ := mfind_none hk (l := r) (fun e he => h1 e (by simp [he])) (fun e he => h2 e (by simp [he]))
    exact ⟨by simp [mfind, hne, h3], fun v => by simp [mput, hne, h4]⟩
theorem mfind_some {kd : KD} {k : Value} (hk : keyIs kd k = true) : ∀ {l : List (Value × Value)} {j : Nat} {a u : Value}, (∀ e ∈ l, keyIs kd e.1 = true) → l[j]? = some (a, u) → a = k → (∀ i, i < j → ∀ e, l[i]? = some e → e.1 ≠ k) → mfind k l = some u ∧ ∀ v, mput k v l = l.set j (k, v)
  | [], j, a, u, _, h, _, _ => by simp at h
  | (b, w) :: r, 0, a, u, h1, h, hak, _ => by
    simp at h
    obtain ⟨rfl, rfl⟩ := h
    have : keyEq b k = true := (keyEq_iff (h1 (b, w) (by simp)) hk).2 hak
    exact ⟨by simp [mfind, this], fun v => by simp [mput, this]⟩
  | (b, w) :: r, j + 1, a, u, h1, h, hak, h2 => by
    have hne : keyEq b k = false := by
      cases hh : keyEq b k with
      | false => rfl
      | true => exact (h2 0 (by omega) (b, w) rfl ((keyEq_iff (h1 (b, w) (by simp)) hk).1 hh)).elim
    obtain ⟨h3, h4⟩ := mfind_some hk (l := r) (j := j) (fun e he => h1 e (by simp [he])) (by simpa using h) hak (fun i hi e he => h2 (i + 1) (by omega) e (by simpa using he))
    exact ⟨by simp [mfind, hne, h3], fun v => by simp [mput, hne, h4]⟩

/-- where a key is found first -/
theorem findNow_first {d : TypeDesc} {k : Value} (hk : MapKept.IsKey d k) : ∀ (l : List MapEntry) (i : Nat), (∀ x ∈ l, MapKept.IsKey d x.key) →
    (Instr.findNow d k l i = some none ∧ ∀ x ∈ l, x.key ≠ k) ∨ ∃ j e, Instr.findNow d k l i = some (some (i + j, e.val)) ∧ l[j]? = some e ∧ e.key = k ∧ ∀ i', i' < j → ∀ x, l[i']? = some x → x.key ≠ k
  | [], _, _ => .inl ⟨rfl, by simp⟩
  | e :: es, i, h => by
    obtain ⟨r, hr, hiff⟩ := MapKept.sameNow_of_keys hk (h e (.head _))
    cases r with
    | true => exact .inr ⟨0, e, by simp [Instr.findNow, hr], rfl, (hiff.1 rfl).symm, fun i' h => by omega⟩
    | false =>
      have hne : e.key ≠ k := fun q => by have := hiff.2 q.symm; cases this
      rcases findNow_first hk es (i + 1) (fun x hx => h x (.tail _ hx)) with ⟨h1, h2⟩ | ⟨j, e', h1, h2, h3, h4⟩
      · exact .inl ⟨by simp [Instr.findNow, hr, h1], fun x hx => by
          cases hx with
          | head => exact hne
          | tail _ hx => exact h2 x hx⟩
      · refine .inr ⟨j + 1, e', by simp [Instr.findNow, hr, h1]; omega, by simpa using h2, h3, fun i' hi x hx => ?_⟩
        cases i' with
        | zero => simp at hx; subst hx; exact hne
        | succ i' => exact h4 i' (by omega) x (by simpa using hx)

section
variable {P : Program} {C : Ctx} {s : Nat → AV} {a : Act} {o : Oper} {v : AV} {ws : List (Nat × Blk)} {fr : Nat}

/-- a block of another make is made -/
theorem allocO_ok (hR : HeapRel C) {fr : Nat} (hfr : C.H[fr]? = some .resv) {ob : Ob} {x : Obj} (hx : ob.is x) (hlp : ∀ r s, ob = .lp r s → ∀ t, Conc C (look s t) (r.tmps.getD t undef)) :
    Step C ⟨C.H.set fr (.obj ob), C.m.set fr (some (C.w.heap.size, 0)), C.w.alloc x, C.prot⟩ ∧
    HeapRel ⟨C.H.set fr (.obj ob), C.m.set fr (some (C.w.heap.size, 0)), C.w.alloc x, C.prot⟩ := by
  have hfrl := lt_of_get hfr
  have hfrm : fr < C.m.length := by rw [hR.len]; exact hfrl
  have hheap : ∀ k, k < C.w.heap.size → (C.w.alloc x).heap[k]? = C.w.heap[k]? := fun k hk => Below.heap_alloc _ _ _ hk
  have hnew : (C.w.alloc x).heap[C.w.heap.size]? = some x := by
    show (C.w.heap.push _)[C.w.heap.size]? = _
    rw [Array.getElem?_push, if_pos rfl]
  have hstep : Step C ⟨C.H.set fr (.obj ob), C.m.set fr (some (C.w.heap.size, 0)), C.w.alloc x, C.prot⟩ := by
    refine ⟨rfl, rfl, rfl, rfl, by simp, by simp, fun b hb _ => hheap b hb, fun b c0 e0 f0 hb => ⟨c0, f0, (hheap b (lt_of_heap hb)).trans hb, rfl⟩, ?_, ?_, ?_, ?_⟩
    · rintro b (⟨id, nil, sz', els', base, h1, h2⟩ | ⟨id, o, h1, h0, h2⟩)
      · by_cases hid : id = fr
        · subst hid
          simp only [set_get_eq hfrl] at h1
          simp at h1
        · simp only [set_get_ne (Ne.symm hid)] at h1 h2
          exact .inl (.inl ⟨id, nil, sz', els', base, h1, h2⟩)
      · by_cases hid : id = fr
        · subst hid
          simp only [set_get_eq hfrm, Option.some.injEq, Prod.mk.injEq] at h2
          exact .inr (by omega)
        · simp only [set_get_ne (Ne.symm hid)] at h1 h2
          exact .inl (.inr ⟨id, o, h1, h0, h2⟩)
    · intro id B hB hr
      have hid : fr ≠ id := by rintro rfl; rw [hfr] at hB; exact hr (Option.some.inj hB).symm
      refine ⟨⟨B, by simp only [set_get_ne hid]; exact hB, hr⟩, fun own' nil' sz' els' h => ?_⟩
      simp only [set_get_ne hid] at h ⊢
      exact ⟨own', els', by rw [hB] at h; exact Option.some.inj h, rfl, fun h => h, trivial⟩
    · intro id o ho
      have hid : fr ≠ id := by rintro rfl; rw [hfr] at ho; simp at ho
      exact ⟨o, by simp only [set_get_ne hid]; exact ho, by simp only [set_get_ne hid], rfl⟩
    · intro id o B ho hB hr
      have hid : fr ≠ id := by rintro rfl; rw [hfr] at hB; exact hr (Option.some.inj hB).symm
      simp only [set_get_ne hid] at ho
      rw [hB] at ho
      exact ⟨o, Option.some.inj ho⟩
  refine ⟨hstep, ⟨by simp [hR.len], ?_, ?_, fun b hb => by have := hR.prot b hb; simp; omega, ?_, ?_, ?_, hR.glS hstep⟩⟩
  · intro id own nil sz' els' h
    by_cases hid : id = fr
    · subst hid
      simp only [set_get_eq hfrl] at h
      simp at h
    · simp only [set_get_ne (Ne.symm hid)] at h ⊢
      rcases hR.blk id own nil sz' els' h with h1 | ⟨hn, b, base, c0, e0, h1, h2, h3, h4⟩
      · exact .inl h1
      · have hlt := lt_of_heap h3
        exact .inr ⟨hn, b, base, c0, e0, h1, h2, (hheap b hlt).trans h3, RowsAt.keep hstep els' b base sz' (fun o _ _ => World.cell?_of_block (w := C.w) (hheap b hlt)) h4⟩
  · intro id id' nil sz1 els1 own' nil' sz2 els2 b base base' hne h1 h2 h3 h4
    by_cases hid : id = fr
    · subst hid
      simp only [set_get_eq hfrl] at h1
      simp at h1
    · by_cases hid' : id' = fr
      · subst hid'
        simp only [set_get_eq hfrl] at h2
        simp at h2
      · simp only [set_get_ne (Ne.symm hid), set_get_ne (Ne.symm hid')] at h1 h2 h3 h4
        exact hR.inj id id' nil sz1 els1 own' nil' sz2 els2 b base base' hne h1 h2 h3 h4
  · intro id o ho hx0
    by_cases hid : id = fr
    · subst hid
      simp only [set_get_eq hfrl, Option.some.injEq, Blk.obj.injEq] at ho
      subst ho
      exact ⟨C.w.heap.size, x, by simp [set_get_eq hfrm], fun hp => by have := hR.prot _ hp; omega, hnew, hx⟩
    · simp only [set_get_ne (Ne.symm hid)] at ho ⊢
      obtain ⟨b, y, h1, h2, h3, h4⟩ := hR.obj id o ho hx0
      exact ⟨b, y, h1, h2, (hheap b (lt_of_heap h3)).trans h3, h4⟩
  · intro id id' o o' b base base' hne hx1 hx2 h1 h2 h3 h4
    have hb : ∀ k o base, o ≠ .lpx → k ≠ fr → C.H[k]? = some (Blk.obj o) → C.m[k]? = some (some (b, base)) → b < C.w.heap.size := fun k o base hx _ h1 h2 => by
      obtain ⟨b', y, h5, _, h6, _⟩ := hR.obj k o h1 hx
      rw [h2] at h5; simp at h5; obtain ⟨rfl, _⟩ := h5; exact lt_of_heap h6
    by_cases hid : id = fr
    · subst hid
      simp only [set_get_eq hfrm, Option.some.injEq, Prod.mk.injEq] at h3
      simp only [set_get_ne hne] at h2 h4
      have := hb id' o' base' hx2 (Ne.symm hne) h2 h4
      omega
    · simp only [set_get_ne (Ne.symm hid)] at h1 h3
      by_cases hid' : id' = fr
      · subst hid'
        simp only [set_get_eq hfrm, Option.some.injEq, Prod.mk.injEq] at h4
        have := hb id o base hx1 hid h1 h3
        omega
      · simp only [set_get_ne (Ne.symm hid')] at h2 h4
        exact hR.oinj id id' o o' b base base' hne hx1 hx2 h1 h2 h3 h4
  · intro id r s ho t
    by_cases hid : id = fr
    · subst hid
      simp only [set_get_eq hfrl, Option.some.injEq, Blk.obj.injEq] at ho
      exact Conc.mono hstep _ _ (hlp r s ho t)
    · simp only [set_get_ne (Ne.symm hid)] at ho
      exact Conc.mono hstep _ _ (hR.lps id r s ho t)

/-- a block of another make is turned -/
theorem setO_ok (hR : HeapRel C) {id b : Nat} {ob ob' : Ob} {x x' : Obj} (hnx : ob ≠ .lpx) (hnx' : ob' ≠ .lpx) (hid : C.H[id]? = some (.obj ob)) (hm : C.m[id]? = some (some (b, 0))) (hx : C.w.heap[b]? = some x) (hox : ob.is x) (hx' : ob'.is x') (hkey : ob'.key = ob.key) (hlp : ∀ r s, ob' = .lp r s → ∀ t, Conc C (look s t) (r.tmps.getD t undef)) {w' : World}
    (hos : w'.os = C.w.os) (htape : w'.tape = C.w.tape) (hout : w'.output = C.w.output) (hheap : w'.heap = C.w.heap.setIfInBounds b x') :
    Step C ⟨C.H.set id (.obj ob'), C.m, w', C.prot⟩ ∧ HeapRel ⟨C.H.set id (.obj ob'), C.m, w', C.prot⟩ := by
  have hl := lt_of_get hid
  have hbl := lt_of_heap hx
  have hown : C.own b := .inr ⟨id, ob, hid, hnx, hm⟩
  have hoth : ∀ k, k ≠ b → w'.heap[k]? = C.w.heap[k]? := fun k hk => by rw [hheap]; simp [Array.getElem?_setIfInBounds, Ne.symm hk]
  have hhere : w'.heap[b]? = some x' := by rw [hheap]; simp [hbl]
  have hcell : ∀ k c e f, C.w.heap[k]? = some (Obj.cells c e f) → w'.heap[k]? = some (Obj.cells c e f) := fun k c e f h => by
    have : k ≠ b := by rintro rfl; rw [hx] at h; obtain rfl := Option.some.inj h; exact Ob.not_cells hox
    exact (hoth k this).trans h
  have hstep : Step C ⟨C.H.set id (.obj ob'), C.m, w', C.prot⟩ := by
    refine ⟨hos, htape, hout, rfl, by simp [hheap], by simp, fun k _ hk => hoth k (fun h => hk (h ▸ hown)), fun k c e f h => ⟨c, f, hcell k c e f h, rfl⟩, ?_, ?_, ?_, ?_⟩
    · rintro k (⟨i, n, sz', els', base, h1, h2⟩ | ⟨i, o, h1, h0, h2⟩)
      · by_cases hk : i = id
        · subst hk
          simp only [set_get_eq hl] at h1
          simp at h1
        · simp only [set_get_ne (Ne.symm hk)] at h1
          exact .inl (.inl ⟨i, n, sz', els', base, h1, h2⟩)
      · by_cases hk : i = id
        · subst hk
          exact .inl (.inr ⟨_, ob, hid, hnx, h2⟩)
        · simp only [set_get_ne (Ne.symm hk)] at h1
          exact .inl (.inr ⟨i, o, h1, h0, h2⟩)
    · intro k K hK hr
      by_cases hk : k = id
      · subst hk
        refine ⟨⟨.obj ob', by simp [set_get_eq hl], by simp⟩, fun own' nil' sz' els' h => ?_⟩
        simp only [set_get_eq hl] at h
        simp at h
      · refine ⟨⟨K, by simp only [set_get_ne (Ne.symm hk)]; exact hK, hr⟩, fun own' nil' sz' els' h => ?_⟩
        simp only [set_get_ne (Ne.symm hk)] at h
        exact ⟨own', els', by rw [hK] at h; exact Option.some.inj h, rfl, fun h => h, rfl⟩
    · intro k o ho
      by_cases hk : k = id
      · subst hk
        rw [hid] at ho
        simp at ho
        subst ho
        exact ⟨ob', by simp [set_get_eq hl], rfl, hkey⟩
      · exact ⟨o, by simp only [set_get_ne (Ne.symm hk)]; exact ho, rfl, rfl⟩
    · intro k o B ho hB hr
      by_cases hk : k = id
      · subst hk
        rw [hid] at hB
        exact ⟨ob, (Option.some.inj hB).symm⟩
      · simp only [set_get_ne (Ne.symm hk)] at ho
        rw [hB] at ho
        exact ⟨o, Option.some.inj ho⟩
  refine ⟨hstep, ⟨by simp [hR.len], ?_, ?_, fun k hk => by have := hR.prot k hk; simp [hheap]; omega, ?_, ?_, ?_, hR.glS hstep⟩⟩
  · intro k own nil sz' els' h
    by_cases hk : k = id
    · subst hk
      simp only [set_get_eq hl] at h
      simp at h
    · simp only [set_get_ne (Ne.symm hk)] at h
      rcases hR.blk k own nil sz' els' h with h1 | ⟨hn, b2, base, c0, e0, h1, h2, h3, h4⟩
      · exact .inl h1
      · have hh := hcell _ _ _ _ h3
        exact .inr ⟨hn, b2, base, c0, e0, h1, h2, hh, RowsAt.keep hstep els' b2 base sz' (fun o _ _ => World.cell?_of_block (w := C.w) (hh.trans h3.symm)) h4⟩
  · intro k k' nil sz1 els1 own' nil' sz2 els2 b2 base base' hne h1 h2 h3 h4
    by_cases hk : k = id
    · subst hk
      simp only [set_get_eq hl] at h1
      simp at h1
    · by_cases hk' : k' = id
      · subst hk'
        simp only [set_get_eq hl] at h2
        simp at h2
      · simp only [set_get_ne (Ne.symm hk), set_get_ne (Ne.symm hk')] at h1 h2
        exact hR.inj k k' nil sz1 els1 own' nil' sz2 els2 b2 base base' hne h1 h2 h3 h4
  · intro k o ho hx0
    by_cases hk : k = id
    · subst hk
      simp only [set_get_eq hl, Option.some.injEq, Blk.obj.injEq] at ho
      subst ho
      obtain ⟨b', y, h1, h2, _⟩ := hR.obj k ob hid hnx
      rw [hm] at h1
      simp at h1
      subst h1
      exact ⟨b, x', hm, h2, hhere, hx'⟩
    · simp only [set_get_ne (Ne.symm hk)] at ho
      obtain ⟨b', y, h1, h2, h3, h4⟩ := hR.obj k o ho hx0
      have : b' ≠ b := by
        rintro rfl
        exact hR.oinj k id o ob b' 0 0 hk hx0 hnx ho hid h1 hm
      exact ⟨b', y, h1, h2, (hoth b' this).trans h3, h4⟩
  · intro k k' o o' b2 base base' hne hx1 hx2 h1 h2 h3 h4
    have hget : ∀ k o, o ≠ .lpx → (C.H.set id (.obj ob'))[k]? = some (Blk.obj o) → ∃ o', o' ≠ .lpx ∧ C.H[k]? = some (Blk.obj o') := fun k o hx h => by
      by_cases hk : k = id
      · subst hk; exact ⟨ob, hnx, hid⟩
      · rw [List.getElem?_set_ne (Ne.symm hk)] at h; exact ⟨o, hx, h⟩
    obtain ⟨q, hq, h1'⟩ := hget k o hx1 h1
    obtain ⟨q', hq', h2'⟩ := hget k' o' hx2 h2
    exact hR.oinj k k' q q' b2 base base' hne hq hq' h1' h2' h3 h4
  · intro k r s ho t
    by_cases hk : k = id
    · subst hk
      simp only [set_get_eq hl, Option.some.injEq, Blk.obj.injEq] at ho
      exact Conc.mono hstep _ _ (hlp r s ho t)
    · rw [List.getElem?_set_ne (Ne.symm hk)] at ho
      exact Conc.mono hstep _ _ (hR.lps k r s ho t)

theorem ok_mkmap (hR : HeapRel C) {t : TypeId} {kd : KD} (ho : o.op = .makeMap t none) (hfr : C.H[fr]? = some .resv)
    (h : aop fr s (hget C.H) (.mkmap kd) = some (v, ws)) : OpOk P C a o v ws := by
  simp only [aop, Option.some.injEq, Prod.mk.injEq] at h
  obtain ⟨rfl, rfl⟩ := h
  obtain ⟨h2, h3⟩ := allocO_ok hR hfr (ob := .smap kd []) (x := .map #[] 0) ⟨rfl, by simp⟩ (fun _ _ h => by simp at h)
  refine ⟨.map (some C.w.heap.size), _, _, .inl ?_, h2, h3, ?_⟩
  · simp [execOp, ho, Instr.makeMap]
  · simp only [Conc, writes, set_get_eq (lt_of_get hfr), set_get_eq (show fr < C.m.length by rw [hR.len]; exact lt_of_get hfr)]
    exact ⟨_, rfl, rfl⟩

theorem hget_obj {H : List Blk} {id : Nat} {o : Ob} (h : hget H id = .obj o) : H[id]? = some (.obj o) := by
  unfold hget at h
  cases hh : H[id]? with
  | none => rw [hh] at h; simp at h
  | some B => rw [hh] at h; simp at h; rw [h]

theorem mp_at (hR : HeapRel C) (hS : Slots C s a) {x : Operand} {id : Nat} {kd : KD} {es : List (Value × Value)} (hx : ev s (opd x) = .mp id) (hh : hget C.H id = .obj (.smap kd es)) :
    ∃ b es' clock, C.m[id]? = some (some (b, 0)) ∧ a.eval x = .map (some b) ∧ C.w.heap[b]? = some (.map es' clock) ∧ es'.toList.map (fun e => (e.key, e.val)) = es ∧ ∀ e ∈ es'.toList, keyIs kd e.key = true := by
  have hc := hS.ev x
  rw [hx] at hc
  have hH := hget_obj hh
  simp only [Conc, hH] at hc
  obtain ⟨b, h1, h2⟩ := hc
  obtain ⟨b', y, h3, _, h4, h5⟩ := hR.obj id _ hH (by simp)
  rw [h1] at h3
  simp at h3
  subst h3
  cases y <;> try exact h5.elim
  rename_i es' clock
  exact ⟨b, es', clock, h1, h2, h4, h5.1, h5.2⟩

theorem ok_mlook (hR : HeapRel C) (hS : Slots C s a) {t k e : TypeId} {x y : Operand} {ok : Bool} {kd : KD} {z : Value} (ho : o.op = .lookup t x y ok) (ht : P.underlying t = some (.map k e)) (hk : kdOf P k = some kd) (hz : ∀ w, (zeroValue e).run P w = .ok z w)
    (h : aop fr s (hget C.H) (.mlook kd ok z (opd x) (opd y)) = some (v, ws)) : OpOk P C a o v ws := by
  simp only [aop] at h
  split at h
  · rename_i key hkey
    split at h
    · rename_i id hx
      split at h
      · rename_i kd' es hh
        split at h
        · rename_i hc
          obtain ⟨hsame, hki⟩ := hc
          obtain rfl := KD.same_eq hsame
          obtain ⟨b, es', clock, hm, hev, hheap, hes, hks⟩ := mp_at hR hS hx hh
          have hkv := hS.lit hkey
          have hIs : ∀ q ∈ es'.toList, MapKept.IsKey kd.desc q.key := fun q hq => keyIs_isKey (hks q hq)
          have hun := kdOf_desc hk
          have hck : (Instr.checkKey es'.isEmpty 10000 k key).run P C.w = .ok () C.w := MapKept.run_checkKey hun (keyIs_isKey hki) _ 9999
          have hks' : ∀ q ∈ es, keyIs kd q.1 = true := fun q hq => by
            rw [← hes] at hq
            obtain ⟨q', h1, rfl⟩ := List.mem_map.1 hq
            exact hks q' h1
          rcases findNow_first (keyIs_isKey hki) es'.toList 0 hIs with ⟨h1, h2⟩ | ⟨j, q, h1, h2, h3, h4⟩
          · have hnone := (mfind_none hki hks' (fun q hq => by
              rw [← hes] at hq
              obtain ⟨q', h5, rfl⟩ := List.mem_map.1 hq
              exact h2 q' h5)).1
            rw [hnone] at h
            simp only [Option.some.injEq, Prod.mk.injEq] at h
            obtain ⟨rfl, rfl⟩ := h
            refine OpOk.same (u := if ok then .tuple #[z, .bool false] else z) hR ?_ ?_
            · simp [execOp, ho, Instr.lookup, run_underlying ht, hev, hkv, MapKept.run_getObj_map hheap, hck, MapKept.run_findKey hun h1, hz, Result.andThen]
            · cases ok <;> simp [Conc, ConcL, boolV]
          · have hsome := (mfind_some (l := es) (j := j) (a := q.key) (u := q.val) hki hks' (by rw [← hes]; simp [h2]) h3 (fun i hi q2 hq2 => by
              rw [← hes] at hq2
              simp at hq2
              obtain ⟨q3, h5, rfl⟩ := hq2
              exact h4 i hi q3 (by simpa using h5))).1
            rw [hsome] at h
            simp only [Option.some.injEq, Prod.mk.injEq] at h
            obtain ⟨rfl, rfl⟩ := h
            refine OpOk.same (u := if ok then .tuple #[q.val, .bool true] else q.val) hR ?_ ?_
            · simp [execOp, ho, Instr.lookup, run_underlying ht, hev, hkv, MapKept.run_getObj_map hheap, hck, MapKept.run_findKey hun h1, Result.andThen]
            · cases ok <;> simp [Conc, ConcL, boolV]
        · simp at h
      · simp at h
    · simp at h
  · simp at h

theorem ok_mset (hR : HeapRel C) (hS : Slots C s a) {t k e : TypeId} {x y z : Operand} {kd : KD} (ho : o.op = .mapUpdate t x y z) (ht : P.underlying t = some (.map k e)) (hk : kdOf P k = some kd)
    (h : aop fr s (hget C.H) (.mset kd (opd x) (opd y) (opd z)) = some (v, ws)) : OpOk P C a o v ws := by
  simp only [aop] at h
  split at h
  · rename_i key val hkey hval
    split at h
    · rename_i id hx
      split at h
      · rename_i kd' es hh
        split at h
        · rename_i hc
          obtain ⟨hsame, hki⟩ := hc
          obtain rfl := KD.same_eq hsame
          simp only [Option.some.injEq, Prod.mk.injEq] at h
          obtain ⟨rfl, rfl⟩ := h
          obtain ⟨b, es', clock, hm, hev, hheap, hes, hks⟩ := mp_at hR hS hx hh
          have hkv := hS.lit hkey
          have hvv := hS.lit hval
          have hIs : ∀ q ∈ es'.toList, MapKept.IsKey kd.desc q.key := fun q hq => keyIs_isKey (hks q hq)
          have hun := kdOf_desc hk
          have hck : (Instr.checkKey false 10000 k key).run P C.w = .ok () C.w := MapKept.run_checkKey hun (keyIs_isKey hki) _ 9999
          have hks' : ∀ q ∈ es, keyIs kd q.1 = true := fun q hq => by
            rw [← hes] at hq
            obtain ⟨q', h1, rfl⟩ := List.mem_map.1 hq
            exact hks q' h1
          rcases findNow_first (keyIs_isKey hki) es'.toList 0 hIs with ⟨h1, h2⟩ | ⟨j, q, h1, h2, h3, h4⟩
          · have hput := (mfind_none hki hks' (fun q hq => by
              rw [← hes] at hq
              obtain ⟨q', h5, rfl⟩ := List.mem_map.1 hq
              exact h2 q' h5)).2 val
            obtain ⟨g1, g2⟩ := setO_ok hR (hnx := by simp) (hnx' := by simp) (ob' := .smap kd (mput key val es)) (x' := .map (es'.push { key, val, born := clock }) (clock + 1)) (w' := { C.w with heap := C.w.heap.setIfInBounds b (.map (es'.push { key, val, born := clock }) (clock + 1)) }) (hget_obj hh) hm hheap ⟨hes, hks⟩
              ⟨by rw [hput, ← hes]; simp, fun q hq => by
                simp only [Array.toList_push, List.mem_append, List.mem_singleton] at hq
                rcases hq with hq | rfl
                · exact hks q hq
                · exact hki⟩ rfl (fun _ _ h => by simp at h) rfl rfl rfl rfl
            refine ⟨undef, _, _, .inr ⟨?_, rfl⟩, g1, g2, rfl⟩
            simp [execOp, ho, Instr.mapUpdate, run_underlying ht, hev, hkv, hvv, MapKept.run_getObj_map hheap, hck, MapKept.run_findKey hun h1, MapKept.run_setObj_map _ hheap, Result.andThen]
          · have hput := (mfind_some (l := es) (j := j) (a := q.key) (u := q.val) hki hks' (by rw [← hes]; simp [h2]) h3 (fun i hi q2 hq2 => by
              rw [← hes] at hq2
              simp at hq2
              obtain ⟨q3, h5, rfl⟩ := hq2
              exact h4 i hi q3 (by simpa using h5))).2 val
            have hmod : (es'.modify j fun e => { e with key, val }).toList.map (fun e => (e.key, e.val)) = es.set j (key, val) := by
              rw [← hes]
              apply List.ext_getElem?
              intro i
              by_cases hij : i = j
              · subst hij
                have : i < es'.size := by have := lt_of_get h2; simpa using this
                simp [Array.getElem?_modify, List.getElem?_set, this]
              · simp [Array.getElem?_modify, List.getElem?_set, Ne.symm hij]
            have hjk : es'[j]? = some q := by simpa using h2
            obtain ⟨g1, g2⟩ := setO_ok hR (hnx := by simp) (hnx' := by simp) (ob' := .smap kd (mput key val es)) (x' := .map (es'.modify j fun e => { e with key, val }) clock) (w' := { C.w with heap := C.w.heap.setIfInBounds b (.map (es'.modify j fun e => { e with key, val }) clock) }) (hget_obj hh) hm hheap ⟨hes, hks⟩
              ⟨by rw [hput]; exact hmod, fun q2 hq2 => by
                obtain ⟨i, hi⟩ := List.mem_iff_getElem?.1 hq2
                simp only [Array.getElem?_toList, Array.getElem?_modify] at hi
                split at hi
                · simp at hi
                  obtain ⟨q3, _, rfl⟩ := hi
                  exact hki
                · exact hks q2 (by rw [List.mem_iff_getElem?]; exact ⟨i, by simpa using hi⟩)⟩ rfl (fun _ _ h => by simp at h) rfl rfl rfl rfl
            refine ⟨undef, _, _, .inr ⟨?_, rfl⟩, g1, g2, rfl⟩
            have hstays : (Instr.keyThatStays q.key key).run P C.w = .ok key C.w := by rw [h3]; exact MapKept.run_keyThatStays (keyIs_isKey hki)
            simp [execOp, ho, Instr.mapUpdate, run_underlying ht, hev, hkv, hvv, MapKept.run_getObj_map hheap, hck, MapKept.run_findKey hun h1, hjk, hstays, MapKept.run_setObj_map _ hheap, Result.andThen]
        · simp at h
      · simp at h
    · simp at h
  · simp at h
end
end Go.Abs
/- []byte of a text: a slice that is only read -/
namespace Go.Abs
section
variable {P : Program} {C : Ctx} {s : Nat → AV} {a : Act} {o : Oper} {v : AV} {ws : List (Nat × Blk)} {fr : Nat}
/-- a world that only grew -/
theorem world_ok (hR : HeapRel C) {w' : World} (h1 : w'.os = C.w.os) (h2 : w'.tape = C.w.tape) (h3 : w'.output = C.w.output) (hz : C.w.heap.size ≤ w'.heap.size) (hheap : ∀ k, k < C.w.heap.size → w'.heap[k]? = C.w.heap[k]?) :
    Step C ⟨C.H, C.m, w', C.prot⟩ ∧ HeapRel ⟨C.H, C.m, w', C.prot⟩ := by
  have hs : Step C ⟨C.H, C.m, w', C.prot⟩ :=
    ⟨h1, h2, h3, rfl, hz, Nat.le_refl _, fun k hk _ => hheap k hk, fun k c e f hx => ⟨c, f, (hheap k (lt_of_heap hx)).trans hx, rfl⟩, fun _ h => .inl h,
      fun _ B hB hr => ⟨⟨B, hB, hr⟩, fun own' _ _ els' h => ⟨own', els', by dsimp only at h; rw [hB] at h; exact Option.some.inj h, rfl, fun h => h, rfl⟩⟩, fun _ o h => ⟨o, h, rfl, rfl⟩, fun _ o B h h' _ => ⟨o, by dsimp only at h; rw [h] at h'; exact (Option.some.inj h').symm⟩⟩
  refine ⟨hs, ⟨hR.len, ?_, hR.inj, fun k hk => by have := hR.prot k hk; exact Nat.lt_of_lt_of_le this hz, ?_, hR.oinj, fun id r s ho t => Conc.mono hs _ _ (hR.lps id r s ho t), hR.glS hs⟩⟩
  · intro id own nil sz els h1
    rcases hR.blk id own nil sz els h1 with h3 | ⟨hn, b, base, c, e, h3, h4, h5, h6⟩
    · exact .inl h3
    · have hlt := lt_of_heap h5
      exact .inr ⟨hn, b, base, c, e, h3, h4, (hheap b hlt).trans h5, RowsAt.keep hs els b base sz (fun o _ _ => World.cell?_of_block (w := C.w) (hheap b hlt)) h6⟩
  · intro id o ho hx
    obtain ⟨b, y, h1, h2, h3, h4⟩ := hR.obj id o ho hx
    exact ⟨b, y, h1, h2, (hheap b (lt_of_heap h3)).trans h3, h4⟩
theorem new_notbad (hR : HeapRel C) {b : Nat} (hb : C.w.heap.size ≤ b) : ¬ C.bad b := by
  rintro ((⟨id, nil, sz, els, base, h1, h2⟩ | ⟨id, o, h1, h2, h3⟩) | h)
  · rcases hR.blk id _ _ _ _ h1 with ⟨h3, _⟩ | ⟨_, b', base', c, e, h3, _, h5, _⟩
    · rw [h2] at h3; simp at h3
    · rw [h2] at h3
      simp only [Option.some.injEq, Prod.mk.injEq] at h3
      have := lt_of_heap h5
      omega
  · obtain ⟨b', x, h4, _, h6, _⟩ := hR.obj id o h1 h2
    rw [h3] at h4
    simp only [Option.some.injEq, Prod.mk.injEq] at h4
    have := lt_of_heap h6
    omega
  · have := hR.prot b h; omega
theorem ok_cvB (hR : HeapRel C) (hS : Slots C s a) {src dst e : TypeId} {x : Operand} (ho : o.op = .convert src dst x) (h1 : P.underlying src = some .string) (h2 : P.underlying dst = some (.slice e)) (h3 : P.underlying e = some (.int .u8))
    (h : aop fr s (hget C.H) (.cvB (opd x)) = some (v, ws)) : OpOk P C a o v ws := by
  simp only [aop] at h
  split at h
  · rename_i b hb
    simp only [Option.some.injEq, Prod.mk.injEq] at h
    obtain ⟨rfl, rfl⟩ := h
    obtain ⟨k1, k2⟩ := world_ok hR (w' := Lib.bytesWorld C.w e b) rfl rfl rfl (by rw [Lib.bytesWorld_size]; omega) (fun k hk => Lib.bytesWorld_at_old C.w e b k hk)
    have hrun := Lib.run_convert_string_bytes (P := P) C.w src dst e b h1 h2 h3
    have hg := grownCap_ge C.w b.size 0 e
    refine ⟨.slice (some ⟨C.w.heap.size, 0, none⟩) b.size (grownCap C.w b.size 0 e), Lib.bytesWorld C.w e b, C.m, .inl (by simp [execOp, ho, hS.lit hb, hrun]), k1, k2, ?_⟩
    simp only [Conc, List.length_map]
    have hlen : b.data.toList.length = b.size := by rw [Array.length_toList]; rfl
    refine .inr (.inl ⟨trivial, C.w.heap.size, 0, grownCap C.w b.size 0 e, by rw [hlen], by rw [hlen]; exact hg, fun _ => ⟨?_, _, _, _, Lib.bytesWorld_at_new C.w e b⟩, ?_⟩)
    · exact new_notbad (C := C) hR (Nat.le_refl _)
    · refine RowsAt.of fun i r hr => ?_
      rw [List.getElem?_map] at hr
      simp only [Option.map_eq_some_iff] at hr
      obtain ⟨c, hc, rfl⟩ := hr
      have hi := (List.getElem?_eq_some_iff.1 hc).1
      refine ⟨rfl, ⟨.int .u8 c.toNat, ?_, rfl, rfl, by simp [Conc]⟩, trivial⟩
      have := Lib.bytesWorld_cell C.w e b i (by omega)
      rw [List.getD_eq_getElem?_getD, hc] at this
      simpa using this
  · simp at h
theorem run_eqErr {t ms : _} {w : World} (ht : P.underlying t = some (.interface ms)) (u : Value) (b : Bool) (hu : (u = .nilIface ∧ b = true) ∨ ((∃ d x, u = .iface d x) ∧ b = false)) :
    (binOp .eql t u .nilIface).run P w = .ok (.bool b) w ∧ (binOp .neq t u .nilIface).run P w = .ok (.bool (!b)) w := by
  have h0 : ∀ (n : Nat) (w : World), (Op.equalIn (n + 1) t u .nilIface).run P w = .ok b w := by
    intro n w
    rcases hu with ⟨rfl, rfl⟩ | ⟨⟨d, x, rfl⟩, rfl⟩ <;> simp [Op.equalIn, run_underlying ht]
  have h : ∀ w : World, (Op.equal t u .nilIface).run P w = .ok b w := fun w => h0 9999 w
  rcases hu with ⟨rfl, rfl⟩ | ⟨⟨d, x, rfl⟩, rfl⟩ <;> constructor <;> simp only [binOp] <;> simp only [Sem.run_bind, h _, Result.andThen_ok, Sem.run_pure]
theorem ok_eqErr (hR : HeapRel C) (hS : Slots C s a) {neq : Bool} {t ty : TypeId} {ms : _} {x y : Operand} (ho : o.op = .binOp (if neq then .neq else .eql) t x y ty) (ht : P.underlying t = some (.interface ms)) (hy : y = .const .nilIface)
    (h : aop fr s (hget C.H) (.eqErr neq (opd x)) = some (v, ws)) : OpOk P C a o v ws := by
  subst hy
  have key : ∀ b : Bool, ((a.eval x = .nilIface ∧ b = true) ∨ ((∃ d u, a.eval x = .iface d u) ∧ b = false)) → OpOk P C a o (boolV (if neq then !b else b)) [] := by
    intro b hb
    refine OpOk.same hR (u := .bool (if neq then !b else b)) ?_ (by simp [Conc, boolV])
    have e1 := run_eqErr (P := P) (w := C.w) ht (a.eval x) b hb
    have hg : ∀ op, (eqGuard op t x (.const .nilIface) (a.eval x) .nilIface).run P C.w = .ok () C.w := by
      intro op
      rcases hb with ⟨hx, _⟩ | ⟨⟨d, u, hx⟩, _⟩
      · rw [hx, eqGuard_nil_constR]; rfl
      · rw [hx, eqGuard_at_iface]; rfl
    cases neq
    · simp [execOp, ho, show a.eval (.const .nilIface) = .nilIface from rfl, hg .eql, e1.1]
    · simp [execOp, ho, show a.eval (.const .nilIface) = .nilIface from rfl, hg .neq, e1.2]
  have hx := hS.ev x
  simp only [aop] at h
  split at h
  · rename_i hc
    simp only [Option.some.injEq, Prod.mk.injEq] at h
    obtain ⟨rfl, rfl⟩ := h
    have := key true (.inl ⟨hS.lit hc, rfl⟩)
    cases neq <;> simpa using this
  · rename_i hc
    simp only [Option.some.injEq, Prod.mk.injEq] at h
    obtain ⟨rfl, rfl⟩ := h
    rw [hc] at hx
    simp only [Conc] at hx
    have := key false (.inr ⟨hx, rfl⟩)
    cases neq <;> simpa using this
  · simp at h
theorem bytesA_spec : ∀ {els : List (List AV)} {xs : List Int}, bytesA els = some xs → els.flatten = xs.map fun n => .lit (.int .u8 n)
  | [], xs, h => by simp [bytesA] at h; subst h; rfl
  | r :: els, xs, h => by
    match r, h with
    | [.lit (.int .u8 n)], h =>
      simp only [bytesA, Option.map_eq_some_iff] at h
      obtain ⟨ys, hy, rfl⟩ := h
      simp [bytesA_spec hy]
theorem concL_ints {C : Ctx} {k : IntKind} : ∀ {xs : List Int} {us : List Value}, ConcL C (xs.map fun n => .lit (.int k n)) us → us = xs.map (Value.int k)
  | [], _, h => h
  | x :: xs, us, h => by
    simp only [List.map_cons, ConcL, Conc] at h
    obtain ⟨u, us', rfl, rfl, h2⟩ := h
    rw [concL_ints h2]; rfl
theorem ok_cvS (hR : HeapRel C) (hS : Slots C s a) {src dst e : TypeId} {x : Operand} (ho : o.op = .convert src dst x) (h1 : P.underlying src = some (.slice e)) (h2 : P.underlying dst = some .string) (h3 : P.underlying e = some (.int .u8))
    (h : aop fr s (hget C.H) (.cvS (opd x)) = some (v, ws)) : OpOk P C a o v ws := by
  simp only [aop] at h
  split at h
  · rename_i nl z els hels
    split at h
    · rename_i hc
      obtain ⟨rfl, hne⟩ := hc
      simp only [Option.map_eq_some_iff, Prod.mk.injEq] at h
      obtain ⟨xs, hxs, rfl, rfl⟩ := h
      obtain ⟨A, cap, us, hy, -, hA1, hulen, -, hus, -, -, hA2⟩ := els_at hR hS hels (by simp [szOk])
      obtain ⟨b, off, rfl⟩ := hA2 hne
      rw [bytesA_spec hxs] at hus
      obtain rfl := concL_ints hus
      have hl : xs.length = els.length := by simpa using hulen
      refine OpOk.same hR (u := .string (strOfNums xs)) ?_ (by simp [Conc, strOfNums])
      have := run_convert_bytes_arg (P := P) (w := C.w) src e h1 h3 b off els.length cap xs hl (fun i hi => by
        have := hA1 _ rfl i (.int .u8 (xs.getD i 0)) (by rw [List.getElem?_map, List.getElem?_eq_getElem (by omega)]; simp [List.getD, List.getElem?_eq_getElem (show i < xs.length by omega)])
        rwa [add_none] at this) dst h2
      simp [execOp, ho, hy, this]
    · simp at h
  · simp at h
end
end Go.Abs
