/- What an abstract state says of a world. -/
import Derived.Test.YtodheeifecoebaaAbs1
import Derived.Deep.AppendSrc
import Derived.Laws.MakeOwn
import Derived.Laws.Tables
import Derived.Great.BuildSlice
set_option linter.all false
set_option linter.unusedVariables false
set_option linter.unusedSimpArgs false
set_option linter.unusedSectionVars false
namespace Go.Abs
open Go.RowKit

structure Ctx where
  H : List Blk
  m : List (Option (Nat × Nat))
  w : World
  prot : Nat → Prop

/-- what a block of another make holds -/
def Ob.is : Ob → Obj → Prop
  | .smap kd es, .map es' _ => es'.toList.map (fun e => (e.key, e.val)) = es ∧ ∀ e ∈ es'.toList, keyIs kd e.key = true
  | .lp r _, .loop r' => r' = r
  | .lpx, .loop _ => True
  | _, _ => False
/-- what of it never turns -/
def Ob.key : Ob → Option KD
  | .smap kd _ => some kd
  | .lp .. => none
  | .lpx => none
/-- the value that leads to it -/
def Ob.val (b : Nat) : Ob → Value
  | .smap .. => .map (some b)
  | .lp .. => .func (.yield b) #[] #[]
  | .lpx => .func (.yield b) #[] #[]
theorem Ob.val_key {b : Nat} {o o' : Ob} (h : o'.key = o.key) : o'.val b = o.val b := by
  cases o <;> cases o' <;> simp [Ob.key] at h <;> rfl
theorem Ob.not_cells {o : Ob} {c : Array Value} {e : TypeId} {f : Nat × Nat} : ¬ o.is (.cells c e f) := by cases o <;> exact id

def Ctx.ownC (C : Ctx) (b : Nat) : Prop := ∃ (id : Nat) (nil : Bool) (sz : Nat) (els : List (List AV)) (base : Nat), C.H[id]? = some (Blk.cells true nil sz els) ∧ C.m[id]? = some (some (b, base))
def Ctx.ownO (C : Ctx) (b : Nat) : Prop := ∃ (id : Nat) (o : Ob), C.H[id]? = some (Blk.obj o) ∧ o ≠ .lpx ∧ C.m[id]? = some (some (b, 0))
def Ctx.own (C : Ctx) (b : Nat) : Prop := C.ownC b ∨ C.ownO b
def Ctx.bad (C : Ctx) (b : Nat) : Prop := C.own b ∨ C.prot b

/-- a block of cells lies there -/
def IsCells (w : World) (b : Nat) : Prop := ∃ c e f, w.heap[b]? = some (Obj.cells c e f)
theorem IsCells.lt {w : World} {b : Nat} (h : IsCells w b) : b < w.heap.size := by
  obtain ⟨c, e, f, h⟩ := h; exact (Array.getElem?_eq_some_iff.1 h).1

mutual
def Conc (C : Ctx) : AV → Value → Prop
  | .lit v, u => u = v
  | .sl nil sz els, u => (nil = true ∧ els.length = 0 ∧ u = .slice none 0 0) ∨
      (nil = false ∧ ∃ b base cap, u = .slice (some ⟨b, base, none⟩) els.length cap ∧ els.length ≤ cap ∧ (els.length ≠ 0 → ¬ C.bad b ∧ IsCells C.w b) ∧ RowsAt C b base sz els)
  | .emp, u => ∃ b o, u = .slice (some ⟨b, o, none⟩) 0 0
  | .adr sz els i off, u => ∃ b base, u = .pointer (some ⟨b, base + i * sz + off, none⟩) ∧ i < els.length ∧ ¬ C.bad b ∧ IsCells C.w b ∧ RowsAt C b base sz els
  | .agg cs, u => ∃ us, u = .agg us ∧ ConcL C cs us.toList
  | .tup vs, u => ∃ us, u = .tuple us ∧ ConcL C vs us.toList
  | .loc id i off, u => match C.H[id]? with
      | some .dead => u.oneCell' = true
      | some (.cells _ _ sz _) => ∃ b base, C.m[id]? = some (some (b, base)) ∧ u = .pointer (some ⟨b, base + i * sz + off, none⟩)
      | _ => False
  | .lsl id i len, u => match C.H[id]? with
      | some .dead => u.oneCell' = true
      | some (.cells _ nil sz els) =>
        (nil = true ∧ els.length = 0 ∧ i = 0 ∧ len = 0 ∧ u = .slice none 0 0) ∨ (nil = false ∧ len = 0 ∧ i ≤ els.length ∧ ∃ b o, u = .slice (some ⟨b, o, none⟩) 0 0) ∨
        (nil = false ∧ ∃ b base cap c e f, C.m[id]? = some (some (b, base)) ∧ C.w.heap[b]? = some (.cells c e f) ∧ u = .slice (some ⟨b, base + i * sz, none⟩) len cap ∧
          i + len ≤ els.length ∧ len ≤ cap ∧ base + (i + cap) * sz ≤ c.size)
      | _ => False
  | .clo fn first cap, u => ∃ f c, u = .func fn f c ∧ ConcL C first f.toList ∧ ConcL C cap c.toList
  | .mp id, u => match C.H[id]? with
      | some (.obj o) => ∃ b, C.m[id]? = some (some (b, 0)) ∧ u = o.val b
      | _ => False
  | .top, _ => True
  | .top1, u => u.oneCell' = true
def ConcL (C : Ctx) : List AV → List Value → Prop
  | [], us => us = []
  | a :: l, us => ∃ u us', us = u :: us' ∧ Conc C a u ∧ ConcL C l us'
def CellsAt (C : Ctx) (b : Nat) : Nat → List AV → Prop
  | _, [] => True
  | off, c :: cs => (∃ u, C.w.cell? ⟨b, off, none⟩ = some u ∧ u.oneCell' = true ∧ isOne c = true ∧ Conc C c u) ∧ CellsAt C b (off + 1) cs
def RowsAt (C : Ctx) (b : Nat) : Nat → Nat → List (List AV) → Prop
  | _, _, [] => True
  | base, sz, r :: rs => r.length = sz ∧ CellsAt C b base r ∧ RowsAt C b (base + sz) sz rs
end

structure HeapRel (C : Ctx) : Prop where
  len : C.m.length = C.H.length
  blk : ∀ (id : Nat) own nil sz els, C.H[id]? = some (Blk.cells own nil sz els) →
    (C.m[id]? = some none ∧ els.length = 0) ∨
    (nil = false ∧ ∃ b base c e, C.m[id]? = some (some (b, base)) ∧ ¬ C.prot b ∧ C.w.heap[b]? = some (.cells c e (0, 0)) ∧ RowsAt C b base sz els)
  inj : ∀ (id id' : Nat) nil sz els own' nil' sz' els' b base base', id ≠ id' → C.H[id]? = some (Blk.cells true nil sz els) → C.H[id']? = some (Blk.cells own' nil' sz' els') →
    C.m[id]? = some (some (b, base)) → C.m[id']? = some (some (b, base')) → False
  prot : ∀ b, C.prot b → b < C.w.heap.size
  obj : ∀ (id : Nat) o, C.H[id]? = some (Blk.obj o) → o ≠ .lpx → ∃ b x, C.m[id]? = some (some (b, 0)) ∧ ¬ C.prot b ∧ C.w.heap[b]? = some x ∧ o.is x
  oinj : ∀ (id id' : Nat) o o' b base base', id ≠ id' → o ≠ .lpx → o' ≠ .lpx → C.H[id]? = some (Blk.obj o) → C.H[id']? = some (Blk.obj o') → C.m[id]? = some (some (b, base)) → C.m[id']? = some (some (b, base')) → False
  lps : ∀ (id : Nat) r s, C.H[id]? = some (Blk.obj (.lp r s)) → ∀ t, Conc C (look s t) (r.tmps.getD t undef)

structure Step (C C' : Ctx) : Prop where
  os : C'.w.os = C.w.os
  tape : C'.w.tape = C.w.tape
  output : C'.w.output = C.w.output
  prot : C'.prot = C.prot
  size : C.w.heap.size ≤ C'.w.heap.size
  hlen : C.H.length ≤ C'.H.length
  blk : ∀ b, b < C.w.heap.size → ¬ C.own b → C'.w.heap[b]? = C.w.heap[b]?
  grow : ∀ (b : Nat) c e f, C.w.heap[b]? = some (Obj.cells c e f) → ∃ c' f', C'.w.heap[b]? = some (Obj.cells c' e f') ∧ c'.size = c.size
  own : ∀ b, C'.own b → C.own b ∨ C.w.heap.size ≤ b
  ids : ∀ (id : Nat) (B : Blk), C.H[id]? = some B → B ≠ Blk.resv → (∃ B', C'.H[id]? = some B' ∧ B' ≠ Blk.resv) ∧
    ∀ own' nil' sz' els', C'.H[id]? = some (Blk.cells own' nil' sz' els') → ∃ own els, B = Blk.cells own nil' sz' els ∧ els.length = els'.length ∧ (own' = true → own = true) ∧ C'.m[id]? = C.m[id]?
  objs : ∀ (id : Nat) o, C.H[id]? = some (Blk.obj o) → ∃ o', C'.H[id]? = some (Blk.obj o') ∧ C'.m[id]? = C.m[id]? ∧ o'.key = o.key
  objr : ∀ (id : Nat) o B, C'.H[id]? = some (Blk.obj o) → C.H[id]? = some B → B ≠ Blk.resv → ∃ o', B = Blk.obj o'

theorem Step.refl (C : Ctx) : Step C C :=
  ⟨rfl, rfl, rfl, rfl, Nat.le_refl _, Nat.le_refl _, fun _ _ _ => rfl, fun _ c _ f h => ⟨c, f, h, rfl⟩, fun _ h => .inl h,
   fun _ B hB hr => ⟨⟨B, hB, hr⟩, fun own' _ _ els' h => ⟨own', els', by rw [hB] at h; exact Option.some.inj h, rfl, fun h => h, rfl⟩⟩, fun _ o h => ⟨o, h, rfl, rfl⟩,
   fun _ o B h h' _ => ⟨o, by rw [h] at h'; exact (Option.some.inj h').symm⟩⟩

theorem Step.trans {A B C : Ctx} (h : Step A B) (k : Step B C) : Step A C where
  os := k.os.trans h.os
  tape := k.tape.trans h.tape
  output := k.output.trans h.output
  prot := k.prot.trans h.prot
  size := Nat.le_trans h.size k.size
  hlen := Nat.le_trans h.hlen k.hlen
  blk := fun b hb hn => by
    rw [k.blk b (Nat.lt_of_lt_of_le hb h.size) (fun ho => by rcases h.own b ho with h1 | h1; exact hn h1; omega), h.blk b hb hn]
  grow := fun b c e f hc => by
    obtain ⟨c1, f1, h1, l1⟩ := h.grow b c e f hc
    obtain ⟨c2, f2, h2, l2⟩ := k.grow b c1 e f1 h1
    exact ⟨c2, f2, h2, l2.trans l1⟩
  own := fun b hb => by
    rcases k.own b hb with h1 | h1
    · exact h.own b h1
    · exact .inr (Nat.le_trans h.size h1)
  ids := fun id X hX hr => by
    obtain ⟨⟨Y, hY, hYr⟩, h1⟩ := h.ids id X hX hr
    obtain ⟨hZ, h2⟩ := k.ids id Y hY hYr
    refine ⟨hZ, fun own' nil' sz' els' hc => ?_⟩
    obtain ⟨own1, els1, rfl, hl, ho, hm⟩ := h2 _ _ _ _ hc
    obtain ⟨own0, els0, rfl, hl0, ho0, hm0⟩ := h1 _ _ _ _ hY
    exact ⟨own0, els0, rfl, hl0.trans hl, fun h => ho0 (ho h), hm.trans hm0⟩
  objs := fun id o ho => by
    obtain ⟨o1, h1, h2, h3⟩ := h.objs id o ho
    obtain ⟨o2, h4, h5, h6⟩ := k.objs id o1 h1
    exact ⟨o2, h4, h5.trans h2, h6.trans h3⟩
  objr := fun id o X ho hX hr => by
    obtain ⟨⟨Y, hY, hYr⟩, _⟩ := h.ids id X hX hr
    obtain ⟨o', rfl⟩ := k.objr id o Y ho hY hYr
    exact h.objr id o' X hY hX hr

section mono
variable {C C' : Ctx}

/-- what values lean on -/
structure StepW (C C' : Ctx) : Prop where
  prot : C'.prot = C.prot
  size : C.w.heap.size ≤ C'.w.heap.size
  cell : ∀ b o, b < C.w.heap.size → ¬ C.own b → C'.w.cell? ⟨b, o, none⟩ = C.w.cell? ⟨b, o, none⟩
  grow : ∀ (b : Nat) c e f, C.w.heap[b]? = some (Obj.cells c e f) → ∃ c' f', C'.w.heap[b]? = some (Obj.cells c' e f') ∧ c'.size = c.size
  own : ∀ b, IsCells C.w b → C'.own b → C.own b
  ids : ∀ (id : Nat) (B : Blk), C.H[id]? = some B → B ≠ Blk.resv → (∃ B', C'.H[id]? = some B' ∧ B' ≠ Blk.resv) ∧
    ∀ own' nil' sz' els', C'.H[id]? = some (Blk.cells own' nil' sz' els') → ∃ own els, B = Blk.cells own nil' sz' els ∧ els.length = els'.length ∧ (own' = true → own = true) ∧ C'.m[id]? = C.m[id]?
  objs : ∀ (id : Nat) o, C.H[id]? = some (Blk.obj o) → ∃ o', C'.H[id]? = some (Blk.obj o') ∧ C'.m[id]? = C.m[id]? ∧ o'.key = o.key
  objr : ∀ (id : Nat) o B, C'.H[id]? = some (Blk.obj o) → C.H[id]? = some B → B ≠ Blk.resv → ∃ o', B = Blk.obj o'
theorem Step.toW (h : Step C C') : StepW C C' :=
  ⟨h.prot, h.size, fun b o hb hn => World.cell?_of_block (w := C.w) (h.blk b hb hn), h.grow, fun b hb ho => (h.own b ho).resolve_right (Nat.not_le.2 hb.lt), h.ids, h.objs, h.objr⟩

theorem StepW.bad_ (hs : StepW C C') {b : Nat} (hb : IsCells C.w b) (h : ¬ C.bad b) : ¬ C'.bad b := by
  rintro (h1 | h1)
  · exact h (.inl (hs.own b hb h1))
  · rw [hs.prot] at h1; exact h (.inr h1)
theorem StepW.isCells (hs : StepW C C') {b : Nat} (hb : IsCells C.w b) : IsCells C'.w b := by
  obtain ⟨c, e, f, h⟩ := hb
  obtain ⟨c', f', h', _⟩ := hs.grow b c e f h
  exact ⟨c', e, f', h'⟩
theorem Step.bad_ (hs : Step C C') {b : Nat} (hb : IsCells C.w b) (h : ¬ C.bad b) : ¬ C'.bad b := hs.toW.bad_ hb h
theorem StepW.cell_ (hs : StepW C C') {b o : Nat} (hb : IsCells C.w b) (h : ¬ C.bad b) : C'.w.cell? ⟨b, o, none⟩ = C.w.cell? ⟨b, o, none⟩ :=
  hs.cell b o hb.lt (fun h1 => h (.inl h1))
theorem Step.cell (hs : Step C C') {b o : Nat} (hb : IsCells C.w b) (h : ¬ C.bad b) : C'.w.cell? ⟨b, o, none⟩ = C.w.cell? ⟨b, o, none⟩ := hs.toW.cell_ hb h

mutual
theorem Conc.monoW (hs : StepW C C') : ∀ (v : AV) (u : Value), Conc C v u → Conc C' v u
  | .lit _, _, h => h
  | .top, _, _ => trivial
  | .top1, _, h => h
  | .emp, _, h => h
  | .sl nil sz els, u, h => by
    simp only [Conc] at h ⊢
    rcases h with h | ⟨hn, b, base, cap, hu, hc, hb, hr⟩
    · exact .inl h
    · refine .inr ⟨hn, b, base, cap, hu, hc, fun hl => ⟨StepW.bad_ hs (hb hl).2 (hb hl).1, hs.isCells (hb hl).2⟩, ?_⟩
      by_cases hl : els.length = 0
      · have : els = [] := List.eq_nil_of_length_eq_zero hl
        subst this; trivial
      · exact RowsAt.monoW hs els b base sz (hb hl).2 (hb hl).1 hr
  | .adr sz els i off, u, h => by
    simp only [Conc] at h ⊢
    obtain ⟨b, base, hu, hi, hb, hlt, hr⟩ := h
    exact ⟨b, base, hu, hi, StepW.bad_ hs hlt hb, hs.isCells hlt, RowsAt.monoW hs els b base sz hlt hb hr⟩
  | .agg cs, u, h => by
    simp only [Conc] at h ⊢
    obtain ⟨us, hu, hl⟩ := h
    exact ⟨us, hu, ConcL.monoW hs cs _ hl⟩
  | .tup cs, u, h => by
    simp only [Conc] at h ⊢
    obtain ⟨us, hu, hl⟩ := h
    exact ⟨us, hu, ConcL.monoW hs cs _ hl⟩
  | .clo fn f c, u, h => by
    simp only [Conc] at h ⊢
    obtain ⟨uf, uc, hu, h1, h2⟩ := h
    exact ⟨uf, uc, hu, ConcL.monoW hs f _ h1, ConcL.monoW hs c _ h2⟩
  | .loc id i off, u, h => by
    simp only [Conc] at h ⊢
    cases hB : C.H[id]? with
    | none => rw [hB] at h; exact h.elim
    | some B =>
      rw [hB] at h
      have hr : B ≠ .resv := by rintro rfl; exact h
      obtain ⟨⟨B', hB', hr'⟩, h2⟩ := hs.ids id B hB hr
      rw [hB']
      cases B' with
      | dead =>
        cases B with
        | dead => exact h
        | resv => exact h.elim
        | obj o => exact h.elim
        | cells o1 n1 s1 e1 => obtain ⟨b, base, _, rfl⟩ := h; rfl
      | resv => exact (hr' rfl).elim
      | obj o =>
        obtain ⟨o', rfl⟩ := hs.objr id o B hB' hB hr
        exact h.elim
      | cells own' nil' sz' els' =>
        obtain ⟨own0, els0, rfl, _, _, hm⟩ := h2 _ _ _ _ hB'
        obtain ⟨b, base, h3, h4⟩ := h
        exact ⟨b, base, hm.trans h3, h4⟩
  | .lsl id i len, u, h => by
    simp only [Conc] at h ⊢
    cases hB : C.H[id]? with
    | none => rw [hB] at h; exact h.elim
    | some B =>
      rw [hB] at h
      have hr : B ≠ .resv := by rintro rfl; exact h
      obtain ⟨⟨B', hB', hr'⟩, h2⟩ := hs.ids id B hB hr
      rw [hB']
      cases B' with
      | dead =>
        cases B with
        | dead => exact h
        | resv => exact h.elim
        | obj o => exact h.elim
        | cells o1 n1 s1 e1 =>
          rcases h with ⟨_, _, _, _, rfl⟩ | ⟨_, _, _, a, o, rfl⟩ | ⟨_, b, base, cap, c, e, f, _, _, rfl, _⟩ <;> rfl
      | resv => exact (hr' rfl).elim
      | obj o =>
        obtain ⟨o', rfl⟩ := hs.objr id o B hB' hB hr
        exact h.elim
      | cells own' nil' sz' els' =>
        obtain ⟨own0, els0, rfl, hl, _, hm⟩ := h2 _ _ _ _ hB'
        rcases h with ⟨h1, h3, h4⟩ | ⟨h1, h3, h4, h5⟩ | ⟨hn, b, base, cap, c, e, f, h3, h4, h5, h6, h7, h8⟩
        · exact .inl ⟨h1, by omega, h4⟩
        · exact .inr (.inl ⟨h1, h3, by omega, h5⟩)
        · obtain ⟨c', f', hc', hsz⟩ := hs.grow b c e f h4
          refine .inr (.inr ?_)
          exact ⟨hn, b, base, cap, c', e, f', hm.trans h3, hc', h5, by omega, h7, by omega⟩
  | .mp id, u, h => by
    simp only [Conc] at h ⊢
    cases hB : C.H[id]? with
    | none => rw [hB] at h; exact h.elim
    | some B =>
      rw [hB] at h
      cases B with
      | obj o =>
        obtain ⟨o', h1, h2, h3⟩ := hs.objs id o hB
        rw [h1, h2]
        obtain ⟨b, h4, h5⟩ := h
        exact ⟨b, h4, h5.trans (Ob.val_key h3).symm⟩
      | _ => exact h.elim
theorem ConcL.monoW (hs : StepW C C') : ∀ (l : List AV) (us : List Value), ConcL C l us → ConcL C' l us
  | [], _, h => h
  | a :: l, us, h => by
    simp only [ConcL] at h ⊢
    obtain ⟨u, us', hu, h1, h2⟩ := h
    exact ⟨u, us', hu, Conc.monoW hs a u h1, ConcL.monoW hs l us' h2⟩
theorem CellsAt.monoW (hs : StepW C C') : ∀ (l : List AV) (b off : Nat), IsCells C.w b → ¬ C.bad b → CellsAt C b off l → CellsAt C' b off l
  | [], _, _, _, _, _ => trivial
  | c :: cs, b, off, hb, hn, h => by
    simp only [CellsAt] at h ⊢
    obtain ⟨⟨u, hu, h1, h2, h3⟩, h4⟩ := h
    exact ⟨⟨u, (StepW.cell_ hs hb hn).trans hu, h1, h2, Conc.monoW hs c u h3⟩, CellsAt.monoW hs cs b (off + 1) hb hn h4⟩
theorem RowsAt.monoW (hs : StepW C C') : ∀ (l : List (List AV)) (b base sz : Nat), IsCells C.w b → ¬ C.bad b → RowsAt C b base sz l → RowsAt C' b base sz l
  | [], _, _, _, _, _, _ => trivial
  | r :: rs, b, base, sz, hb, hn, h => by
    simp only [RowsAt] at h ⊢
    exact ⟨h.1, CellsAt.monoW hs r b base hb hn h.2.1, RowsAt.monoW hs rs b (base + sz) sz hb hn h.2.2⟩
end
theorem Conc.mono (hs : Step C C') (v : AV) (u : Value) (h : Conc C v u) : Conc C' v u := Conc.monoW hs.toW v u h
theorem ConcL.mono (hs : Step C C') (l : List AV) (us : List Value) (h : ConcL C l us) : ConcL C' l us := ConcL.monoW hs.toW l us h
end mono

/-- rows in a block that is kept as it was, whatever the block -/
theorem CellsAt.keepW {C C' : Ctx} (hs : StepW C C') : ∀ (l : List AV) (b off : Nat), (∀ o, off ≤ o → o < off + l.length → C'.w.cell? ⟨b, o, none⟩ = C.w.cell? ⟨b, o, none⟩) → CellsAt C b off l → CellsAt C' b off l
  | [], _, _, _, _ => trivial
  | c :: cs, b, off, hk, h => by
    simp only [CellsAt] at h ⊢
    obtain ⟨⟨u, hu, h1, h2, h3⟩, h4⟩ := h
    exact ⟨⟨u, (hk off (Nat.le_refl _) (by simp)).trans hu, h1, h2, Conc.monoW hs c u h3⟩, CellsAt.keepW hs cs b (off + 1) (fun o ho hl => hk o (by omega) (by simp at hl ⊢; omega)) h4⟩
theorem RowsAt.keepW {C C' : Ctx} (hs : StepW C C') : ∀ (l : List (List AV)) (b base sz : Nat), (∀ o, base ≤ o → o < base + l.length * sz → C'.w.cell? ⟨b, o, none⟩ = C.w.cell? ⟨b, o, none⟩) → RowsAt C b base sz l → RowsAt C' b base sz l
  | [], _, _, _, _, _ => trivial
  | r :: rs, b, base, sz, hk, h => by
    simp only [RowsAt] at h ⊢
    have hl : (r :: rs).length * sz = rs.length * sz + sz := by simp [Nat.add_mul]
    refine ⟨h.1, CellsAt.keepW hs r b base (fun o h1 h2 => hk o h1 (by rw [hl]; omega)) h.2.1, RowsAt.keepW hs rs b (base + sz) sz (fun o h1 h2 => hk o (by omega) (by rw [hl]; omega)) h.2.2⟩

theorem CellsAt.keep {C C' : Ctx} (hs : Step C C') (l : List AV) (b off : Nat) (h : ∀ o, off ≤ o → o < off + l.length → C'.w.cell? ⟨b, o, none⟩ = C.w.cell? ⟨b, o, none⟩) (hc : CellsAt C b off l) : CellsAt C' b off l := CellsAt.keepW hs.toW l b off h hc
theorem RowsAt.keep {C C' : Ctx} (hs : Step C C') (l : List (List AV)) (b base sz : Nat) (h : ∀ o, base ≤ o → o < base + l.length * sz → C'.w.cell? ⟨b, o, none⟩ = C.w.cell? ⟨b, o, none⟩) (hc : RowsAt C b base sz l) : RowsAt C' b base sz l := RowsAt.keepW hs.toW l b base sz h hc

/-! lists -/
theorem ConcL.length {C : Ctx} : ∀ {l : List AV} {us : List Value}, ConcL C l us → us.length = l.length
  | [], _, h => by simp only [ConcL] at h; subst h; rfl
  | a :: l, us, h => by
    simp only [ConcL] at h
    obtain ⟨u, us', rfl, _, h2⟩ := h
    simp [ConcL.length h2]
theorem ConcL.get {C : Ctx} : ∀ {l : List AV} {us : List Value}, ConcL C l us → ∀ {i : Nat} {v : AV}, l[i]? = some v → ∃ u, us[i]? = some u ∧ Conc C v u
  | [], _, _, i, v, hv => by simp at hv
  | a :: l, us, h, i, v, hv => by
    simp only [ConcL] at h
    obtain ⟨u, us', rfl, h1, h2⟩ := h
    cases i with
    | zero => simp at hv; subst hv; exact ⟨u, by simp, h1⟩
    | succ i => simp at hv ⊢; exact ConcL.get h2 hv
theorem ConcL.take {C : Ctx} : ∀ {l : List AV} {us : List Value}, ConcL C l us → ∀ n, ConcL C (l.take n) (us.take n)
  | [], _, h, n => by simp only [ConcL] at h; subst h; simp [ConcL]
  | a :: l, us, h, n => by
    simp only [ConcL] at h
    obtain ⟨u, us', rfl, h1, h2⟩ := h
    cases n with
    | zero => simp [ConcL]
    | succ n => simp only [List.take_succ_cons, ConcL]; exact ⟨u, _, rfl, h1, ConcL.take h2 n⟩
theorem ConcL.drop {C : Ctx} : ∀ {l : List AV} {us : List Value}, ConcL C l us → ∀ n, ConcL C (l.drop n) (us.drop n)
  | [], _, h, n => by simp only [ConcL] at h; subst h; simp [ConcL]
  | a :: l, us, h, n => by
    have h' := h
    simp only [ConcL] at h
    obtain ⟨u, us', rfl, h1, h2⟩ := h
    cases n with
    | zero => exact h'
    | succ n => simp only [List.drop_succ_cons]; exact ConcL.drop h2 n
theorem ConcL.append {C : Ctx} : ∀ {l l' : List AV} {us us' : List Value}, ConcL C l us → ConcL C l' us' → ConcL C (l ++ l') (us ++ us')
  | [], _, us, us', h, k => by simp only [ConcL] at h; subst h; simpa using k
  | a :: l, l', us, us', h, k => by
    simp only [ConcL] at h
    obtain ⟨u, us1, rfl, h1, h2⟩ := h
    simp only [List.cons_append, ConcL]
    exact ⟨u, _, rfl, h1, ConcL.append h2 k⟩
theorem ConcL.map {C : Ctx} {α : Type} (f : α → AV) (g : α → Value) : ∀ (l : List α), (∀ x ∈ l, Conc C (f x) (g x)) → ConcL C (l.map f) (l.map g)
  | [], _ => by simp [ConcL]
  | a :: l, h => by
    simp only [List.map_cons, ConcL]
    exact ⟨g a, _, rfl, h a (by simp), ConcL.map f g l (fun x hx => h x (by simp [hx]))⟩

theorem conc_ofValue (C : Ctx) (v : Value) : Conc C (ofValue v) v := by
  unfold ofValue
  split
  · simp [Conc]
  · simp [Conc]
theorem concL_ofValue (C : Ctx) : ∀ l : List Value, ConcL C (l.map ofValue) l
  | [] => by simp [ConcL]
  | a :: l => by simp only [List.map_cons, ConcL]; exact ⟨a, l, rfl, conc_ofValue C a, concL_ofValue C l⟩
theorem toLits_spec {C : Ctx} : ∀ {cs : List AV} {vs us : List Value}, toLits cs = some vs → ConcL C cs us → us = vs
  | [], vs, us, h, k => by simp only [toLits, Option.some.injEq] at h; simp only [ConcL] at k; rw [← h, k]
  | .lit v :: r, vs, us, h, k => by
    simp only [toLits, Option.map_eq_some_iff] at h
    obtain ⟨vs', h1, rfl⟩ := h
    simp only [ConcL, Conc] at k
    obtain ⟨u, us', rfl, rfl, k2⟩ := k
    rw [toLits_spec h1 k2]
  | .sl .. :: r, vs, us, h, k => by simp [toLits] at h
  | .emp :: r, vs, us, h, k => by simp [toLits] at h
  | .adr .. :: r, vs, us, h, k => by simp [toLits] at h
  | .agg .. :: r, vs, us, h, k => by simp [toLits] at h
  | .tup .. :: r, vs, us, h, k => by simp [toLits] at h
  | .loc .. :: r, vs, us, h, k => by simp [toLits] at h
  | .lsl .. :: r, vs, us, h, k => by simp [toLits] at h
  | .clo .. :: r, vs, us, h, k => by simp [toLits] at h
  | .mp .. :: r, vs, us, h, k => by simp [toLits] at h
  | .top :: r, vs, us, h, k => by simp [toLits] at h
  | .top1 :: r, vs, us, h, k => by simp [toLits] at h
theorem conc_mkAgg {C : Ctx} {cs : List AV} {us : List Value} (h : ConcL C cs us) : Conc C (mkAgg cs) (.agg us.toArray) := by
  unfold mkAgg
  split
  · rename_i vs hv
    have := toLits_spec hv h
    subst this
    simp [Conc]
  · simp only [Conc]; exact ⟨us.toArray, rfl, by simpa using h⟩

theorem cells_of_one {u : Value} (h : u.oneCell' = true) : u.cells.toList = [u] := by
  cases u <;> first | (simp [Value.oneCell'] at h; done) | rfl
theorem Conc.one_loc {C : Ctx} {id i off : Nat} {u : Value} (h : Conc C (.loc id i off) u) : u.oneCell' = true := by
  simp only [Conc] at h
  split at h
  · exact h
  · obtain ⟨b, base, _, rfl⟩ := h; rfl
  · exact h.elim
theorem Conc.one_lsl {C : Ctx} {id i len : Nat} {u : Value} (h : Conc C (.lsl id i len) u) : u.oneCell' = true := by
  simp only [Conc] at h
  split at h
  · exact h
  · rcases h with ⟨_, _, _, _, rfl⟩ | ⟨_, _, _, a, o, rfl⟩ | ⟨_, b, base, cap, c, e, f, _, _, rfl, _⟩ <;> rfl
  · exact h.elim
theorem Conc.one_mp {C : Ctx} {id : Nat} {u : Value} (h : Conc C (.mp id) u) : u.oneCell' = true := by
  simp only [Conc] at h
  split at h
  · rename_i o _
    obtain ⟨b, _, rfl⟩ := h
    cases o <;> rfl
  · exact h.elim
theorem Conc.one {C : Ctx} : ∀ {v : AV} {u : Value}, Conc C v u → isOne v = true → u.oneCell' = true
  | .lit x, u, h, h1 => by simp only [Conc] at h; subst h; cases u <;> first | rfl | (simp [isOne] at h1)
  | .sl .., u, h, _ => by simp only [Conc] at h; rcases h with ⟨_, _, rfl⟩ | ⟨_, b, base, cap, rfl, _⟩ <;> rfl
  | .emp, u, h, _ => by simp only [Conc] at h; obtain ⟨a, ao, rfl⟩ := h; rfl
  | .adr .., u, h, _ => by simp only [Conc] at h; obtain ⟨b, base, rfl, _⟩ := h; rfl
  | .loc .., u, h, _ => Conc.one_loc h
  | .lsl .., u, h, _ => Conc.one_lsl h
  | .mp .., u, h, _ => Conc.one_mp h
  | .clo .., u, h, _ => by simp only [Conc] at h; obtain ⟨f, c, rfl, _⟩ := h; rfl
  | .agg .., _, _, h1 => by simp [isOne] at h1
  | .tup .., _, _, h1 => by simp [isOne] at h1
  | .top, _, _, h1 => by simp [isOne] at h1
  | .top1, _, h, _ => h

/-- the cells of a value -/
theorem conc_parts {C : Ctx} {v : AV} {u : Value} (h : Conc C v u) (h1 : v.parts.all isOne = true) : ConcL C v.parts u.cells.toList := by
  cases v with
  | agg cs => simp only [Conc] at h; obtain ⟨us, rfl, hl⟩ := h; exact hl
  | lit x =>
    simp only [Conc] at h
    subst h
    cases u with
    | agg a => simp only [AV.parts, Value.cells]; exact concL_ofValue C _
    | _ => simp [AV.parts, Value.cells, ConcL, Conc]
  | tup _ => simp [AV.parts, isOne] at h1
  | top => simp [AV.parts, isOne] at h1
  | top1 => simp only [AV.parts, ConcL]; exact ⟨u, [], by rw [cells_of_one h], h, rfl⟩
  | sl nil sz els =>
    have h' := h
    simp only [Conc] at h
    simp only [AV.parts, ConcL]
    rcases h with ⟨_, _, rfl⟩ | ⟨_, b, base, cap, rfl, _⟩
    · exact ⟨_, [], by simp [Value.cells], h', rfl⟩
    · exact ⟨_, [], by simp [Value.cells], h', rfl⟩
  | emp => have h' := h; simp only [Conc] at h; obtain ⟨a, ao, rfl⟩ := h; simp only [AV.parts, ConcL]; exact ⟨_, [], by simp [Value.cells], h', rfl⟩
  | adr sz els i off => have h' := h; simp only [Conc] at h; obtain ⟨b, base, rfl, _⟩ := h; simp only [AV.parts, ConcL]; exact ⟨_, [], by simp [Value.cells], h', rfl⟩
  | clo fn f c => have h' := h; simp only [Conc] at h; obtain ⟨uf, uc, rfl, _⟩ := h; simp only [AV.parts, ConcL]; exact ⟨_, [], by simp [Value.cells], h', rfl⟩
  | loc id i off =>
    have h' := h
    have : u.oneCell' = true := Conc.one_loc h
    simp only [AV.parts, ConcL]
    exact ⟨u, [], by rw [cells_of_one this], h', rfl⟩
  | lsl id i len =>
    have h' := h
    have : u.oneCell' = true := Conc.one_lsl h
    simp only [AV.parts, ConcL]
    exact ⟨u, [], by rw [cells_of_one this], h', rfl⟩
  | mp id =>
    have h' := h
    have : u.oneCell' = true := Conc.one_mp h
    simp only [AV.parts, ConcL]
    exact ⟨u, [], by rw [cells_of_one this], h', rfl⟩

end Go.Abs
