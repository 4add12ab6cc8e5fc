/- Regions, and what code does to an abstract state. -/
import Derived.Test.YtodheeifecoebaaAbs10
set_option linter.all false
set_option linter.unusedVariables false
set_option linter.unusedSimpArgs false
set_option linter.unusedSectionVars false
namespace Go.Abs
open Go.RowKit

theorem own_holds {C : Ctx} (hR : HeapRel C) {b : Nat} (h : C.own b) : ∃ x, C.w.heap[b]? = some x ∧ ((∃ c e f, x = Obj.cells c e f) ∨ ∃ o : Ob, o.is x) := by
  rcases h with ⟨id, nil, sz, els, base, h1, h2⟩ | ⟨id, o, h1, h0, h2⟩
  · rcases hR.blk id true nil sz els h1 with ⟨h3, _⟩ | ⟨_, b', base', c, e, h3, _, h4, _⟩
    · rw [h2] at h3; simp at h3
    · rw [h2] at h3; simp at h3; obtain ⟨rfl, rfl⟩ := h3; exact ⟨_, h4, .inl ⟨_, _, _, rfl⟩⟩
  · obtain ⟨b', x, h3, _, h4, h5⟩ := hR.obj id o h1 h0
    rw [h2] at h3; simp at h3; subst h3
    exact ⟨x, h4, .inr ⟨o, h5⟩⟩
/-- what is deferred: marks of ranges over functions alone -/
def Marks (C0 C : Ctx) (ds : List Deferred) : Prop :=
  ∃ bs : List Nat, ds = bs.map (fun b => { target := .collected b, args := #[] }) ∧ bs.Nodup ∧ ∀ b ∈ bs, C0.w.heap.size ≤ b ∧ C.w.heap[b]? = some (.deferred (some []))
theorem Marks.nil (C0 C : Ctx) : Marks C0 C [] := ⟨[], rfl, .nil, by simp⟩
theorem Marks.not_own {C : Ctx} (hR : HeapRel C) {b : Nat} {ds : Option (List Deferred)} (h : C.w.heap[b]? = some (.deferred ds)) : ¬ C.own b := fun ho => by
  obtain ⟨x, h1, h2⟩ := own_holds hR ho
  rw [h] at h1
  obtain rfl := Option.some.inj h1
  rcases h2 with ⟨_, _, _, h2⟩ | ⟨o, h2⟩
  · simp at h2
  · cases o <;> exact h2
theorem Marks.mono {C0 C C' : Ctx} {ds : List Deferred} (h : Marks C0 C ds) (hR : HeapRel C) (hs : Step C C') : Marks C0 C' ds := by
  obtain ⟨bs, h1, h2, h3⟩ := h
  refine ⟨bs, h1, h2, fun b hb => ?_⟩
  obtain ⟨h4, h5⟩ := h3 b hb
  exact ⟨h4, (hs.blk b (lt_of_heap h5) (Marks.not_own hR h5)).trans h5⟩
theorem Marks.same {C0 C C' : Ctx} {ds : List Deferred} (h : Marks C0 C ds) (hw : C'.w.heap = C.w.heap) : Marks C0 C' ds := by
  obtain ⟨bs, h1, h2, h3⟩ := h
  exact ⟨bs, h1, h2, fun b hb => by rw [hw]; exact h3 b hb⟩

structure Rel (N : Nat) (C0 : Ctx) (σ : St) (C : Ctx) (a : Act) : Prop where
  heap : C.H = σ.heap
  rel : HeapRel C
  step : Step C0 C
  slots : Slots C σ.get a
  defers : Marks C0 C a.defers
  size : N ≤ a.tmps.size

/-- a call, whatever the memory: what comes back, and what has become of our blocks -/
def ACall (P : Program) (g : FuncId) (args : List AV) (H : List Blk) (Q : AV → List Blk → Prop) : Prop :=
  (∀ cargs w, (callFunc g cargs).run P w = .ok (.enter g cargs) w) ∧
  ∀ (C : Ctx) (cargs : List Value), C.H = H → HeapRel C → ConcL C args cargs → Calls P g cargs.toArray C.w fun e w' =>
    ∃ u r H' m', e = .returned u ∧ Q r H' ∧ Step C ⟨H', m', w', C.prot⟩ ∧ HeapRel ⟨H', m', w', C.prot⟩ ∧ Conc ⟨H', m', w', C.prot⟩ r u

theorem ACall.mono {P : Program} {g : FuncId} {args : List AV} {H : List Blk} {Q Q' : AV → List Blk → Prop} (h : ACall P g args H Q) (hq : ∀ r H', Q r H' → Q' r H') : ACall P g args H Q' :=
  ⟨h.1, fun C cargs h1 h2 h3 => (h.2 C cargs h1 h2 h3).mono fun _ _ ⟨u, r, H', m', e1, e2, e3⟩ => ⟨u, r, H', m', e1, hq _ _ e2, e3⟩⟩

/-! values without blocks of ours -/
mutual
def plain : AV → Bool
  | .lit _ | .emp => true
  | .sl _ _ els | .adr _ els _ _ => plainR els
  | .agg cs | .tup cs => plainL cs
  | .clo _ f c => plainL f && plainL c
  | .loc .. | .lsl .. | .mp _ | .top | .top1 => false
def plainL : List AV → Bool
  | [] => true
  | a :: l => plain a && plainL l
def plainR : List (List AV) → Bool
  | [] => true
  | r :: l => plainL r && plainR l
end

section
variable {C C' : Ctx}
mutual
theorem Conc.plain (hw : C'.w = C.w) (hb : ∀ b, ¬ C.bad b → ¬ C'.bad b) : ∀ (v : AV) (u : Value), plain v = true → Conc C v u → Conc C' v u
  | .lit _, _, _, h => h
  | .emp, _, _, h => h
  | .sl nil sz els, u, hp, h => by
    simp only [Abs.plain] at hp
    simp only [Conc] at h ⊢
    rcases h with h | ⟨hn, b, base, cap, hu, hc, hbad, hr⟩
    · exact .inl h
    · exact .inr ⟨hn, b, base, cap, hu, hc, fun hl => ⟨hb b (hbad hl).1, by rw [hw]; exact (hbad hl).2⟩, RowsAt.plain hw hb els b base sz hp hr⟩
  | .adr sz els i off, u, hp, h => by
    simp only [Abs.plain] at hp
    simp only [Conc] at h ⊢
    obtain ⟨b, base, hu, hi, hbad, hlt, hr⟩ := h
    exact ⟨b, base, hu, hi, hb b hbad, by rw [hw]; exact hlt, RowsAt.plain hw hb els b base sz hp hr⟩
  | .agg cs, u, hp, h => by
    simp only [Abs.plain] at hp
    simp only [Conc] at h ⊢
    obtain ⟨us, hu, hl⟩ := h
    exact ⟨us, hu, ConcL.plain hw hb cs _ hp hl⟩
  | .tup cs, u, hp, h => by
    simp only [Abs.plain] at hp
    simp only [Conc] at h ⊢
    obtain ⟨us, hu, hl⟩ := h
    exact ⟨us, hu, ConcL.plain hw hb cs _ hp hl⟩
  | .clo fn f c, u, hp, h => by
    simp only [Abs.plain, Bool.and_eq_true] at hp
    simp only [Conc] at h ⊢
    obtain ⟨uf, uc, hu, h1, h2⟩ := h
    exact ⟨uf, uc, hu, ConcL.plain hw hb f _ hp.1 h1, ConcL.plain hw hb c _ hp.2 h2⟩
  | .loc .., _, hp, _ => by simp [Abs.plain] at hp
  | .lsl .., _, hp, _ => by simp [Abs.plain] at hp
  | .mp .., _, hp, _ => by simp [Abs.plain] at hp
  | .top, _, hp, _ => by simp [Abs.plain] at hp
  | .top1, _, hp, _ => by simp [Abs.plain] at hp
theorem ConcL.plain (hw : C'.w = C.w) (hb : ∀ b, ¬ C.bad b → ¬ C'.bad b) : ∀ (l : List AV) (us : List Value), plainL l = true → ConcL C l us → ConcL C' l us
  | [], _, _, h => h
  | a :: l, us, hp, h => by
    simp only [plainL, Bool.and_eq_true] at hp
    simp only [ConcL] at h ⊢
    obtain ⟨u, us', hu, h1, h2⟩ := h
    exact ⟨u, us', hu, Conc.plain hw hb a u hp.1 h1, ConcL.plain hw hb l us' hp.2 h2⟩
theorem CellsAt.plain (hw : C'.w = C.w) (hb : ∀ b, ¬ C.bad b → ¬ C'.bad b) : ∀ (l : List AV) (b off : Nat), plainL l = true → CellsAt C b off l → CellsAt C' b off l
  | [], _, _, _, _ => trivial
  | c :: cs, b, off, hp, h => by
    simp only [plainL, Bool.and_eq_true] at hp
    simp only [CellsAt] at h ⊢
    obtain ⟨⟨u, hu, h1, h2, h3⟩, h4⟩ := h
    exact ⟨⟨u, by rw [hw]; exact hu, h1, h2, Conc.plain hw hb c u hp.1 h3⟩, CellsAt.plain hw hb cs b (off + 1) hp.2 h4⟩
theorem RowsAt.plain (hw : C'.w = C.w) (hb : ∀ b, ¬ C.bad b → ¬ C'.bad b) : ∀ (l : List (List AV)) (b base sz : Nat), plainR l = true → RowsAt C b base sz l → RowsAt C' b base sz l
  | [], _, _, _, _, _ => trivial
  | r :: rs, b, base, sz, hp, h => by
    simp only [plainR, Bool.and_eq_true] at hp
    simp only [RowsAt] at h ⊢
    exact ⟨h.1, CellsAt.plain hw hb r b base hp.1 h.2.1, RowsAt.plain hw hb rs b (base + sz) sz hp.2 h.2.2⟩
end
end

/-! block numbers turned -/
mutual
def ren (ρ : Nat → Option Nat) : AV → AV
  | .lit v => .lit v
  | .emp => .emp
  | .top => .top
  | .top1 => .top1
  | .sl b sz els => .sl b sz (renR ρ els)
  | .adr sz els i o => .adr sz (renR ρ els) i o
  | .agg cs => .agg (renL ρ cs)
  | .tup cs => .tup (renL ρ cs)
  | .clo fn f c => .clo fn (renL ρ f) (renL ρ c)
  | .loc id i o => match ρ id with
    | some k => .loc k i o
    | none => .top1
  | .lsl id i n => match ρ id with
    | some k => .lsl k i n
    | none => .top1
  | .mp id => match ρ id with
    | some k => .mp k
    | none => .top1
def renL (ρ : Nat → Option Nat) : List AV → List AV
  | [] => []
  | a :: l => ren ρ a :: renL ρ l
def renR (ρ : Nat → Option Nat) : List (List AV) → List (List AV)
  | [] => []
  | r :: l => renL ρ r :: renR ρ l
end
def renO (ρ : Nat → Option Nat) : Ob → Ob
  | .lp r s => .lp r (s.map fun p => (p.1, ren ρ p.2))
  | o => o
theorem renO_nx (ρ : Nat → Option Nat) {o : Ob} (h : renO ρ o ≠ .lpx) : o ≠ .lpx := by rintro rfl; exact h rfl
theorem renO_key (ρ : Nat → Option Nat) (o : Ob) : (renO ρ o).key = o.key := by cases o <;> rfl
theorem renO_is (ρ : Nat → Option Nat) (o : Ob) (x : Obj) : (renO ρ o).is x ↔ o.is x := by cases o <;> cases x <;> exact Iff.rfl
theorem look_ren (ρ : Nat → Option Nat) : ∀ (s : List (Nat × AV)) (t : Nat), look (s.map fun p => (p.1, ren ρ p.2)) t = ren ρ (look s t)
  | [], t => rfl
  | (i, v) :: s, t => by
    simp only [List.map_cons, look]
    split
    · rfl
    · exact look_ren ρ s t
def renB (ρ : Nat → Option Nat) : Blk → Blk
  | .cells own nil sz els => .cells own nil sz (renR ρ els)
  | .obj o => .obj (renO ρ o)
  | b => b

theorem renL_len (ρ : Nat → Option Nat) : ∀ l : List AV, (renL ρ l).length = l.length
  | [] => rfl
  | _ :: l => by simp [renL, renL_len ρ l]
theorem renR_len (ρ : Nat → Option Nat) : ∀ l : List (List AV), (renR ρ l).length = l.length
  | [] => rfl
  | _ :: l => by simp [renR, renR_len ρ l]
theorem isOne_ren (ρ : Nat → Option Nat) : ∀ v : AV, isOne v = true → isOne (ren ρ v) = true
  | .lit v, h => by simpa [ren] using h
  | .emp, _ => rfl
  | .top, h => by simp [isOne] at h
  | .top1, _ => rfl
  | .sl .., _ => by simp [ren, isOne]
  | .adr .., _ => by simp [ren, isOne]
  | .agg .., h => by simp [isOne] at h
  | .tup .., h => by simp [isOne] at h
  | .clo .., _ => by simp [ren, isOne]
  | .loc id i o, _ => by simp only [ren]; split <;> rfl
  | .lsl id i o, _ => by simp only [ren]; split <;> rfl
  | .mp id, _ => by simp only [ren]; split <;> rfl

/-- C' has our blocks by other numbers -/
structure Renamed (ρ : Nat → Option Nat) (C C' : Ctx) : Prop where
  w : C'.w = C.w
  bad : ∀ b, ¬ C.bad b → ¬ C'.bad b
  blk : ∀ id k, ρ id = some k → ∀ B, C.H[id]? = some B → C'.H[k]? = some (renB ρ B) ∧ C'.m[k]? = C.m[id]?

section
variable {C C' : Ctx} {ρ : Nat → Option Nat}
mutual
theorem Conc.ren (hr : Renamed ρ C C') : ∀ (v : AV) (u : Value), Conc C v u → Conc C' (Abs.ren ρ v) u
  | .lit _, _, h => h
  | .emp, _, h => h
  | .top, _, _ => trivial
  | .top1, _, h => h
  | .sl nil sz els, u, h => by
    simp only [Conc, Abs.ren, renR_len] at h ⊢
    rcases h with h | ⟨hn, b, base, cap, hu, hc, hbad, hrows⟩
    · exact .inl h
    · exact .inr ⟨hn, b, base, cap, hu, hc, fun hl => ⟨hr.bad b (hbad hl).1, by rw [hr.w]; exact (hbad hl).2⟩, RowsAt.ren hr els b base sz hrows⟩
  | .adr sz els i off, u, h => by
    simp only [Conc, Abs.ren, renR_len] at h ⊢
    obtain ⟨b, base, hu, hi, hbad, hlt, hrows⟩ := h
    exact ⟨b, base, hu, hi, hr.bad b hbad, by rw [hr.w]; exact hlt, RowsAt.ren hr els b base sz hrows⟩
  | .agg cs, u, h => by
    simp only [Conc, Abs.ren] at h ⊢
    obtain ⟨us, hu, hl⟩ := h
    exact ⟨us, hu, ConcL.ren hr cs _ hl⟩
  | .tup cs, u, h => by
    simp only [Conc, Abs.ren] at h ⊢
    obtain ⟨us, hu, hl⟩ := h
    exact ⟨us, hu, ConcL.ren hr cs _ hl⟩
  | .clo fn f c, u, h => by
    simp only [Conc, Abs.ren] at h ⊢
    obtain ⟨uf, uc, hu, h1, h2⟩ := h
    exact ⟨uf, uc, hu, ConcL.ren hr f _ h1, ConcL.ren hr c _ h2⟩
  | .loc id i off, u, h => by
    have h1 := Conc.one_loc h
    simp only [Abs.ren]
    split
    · rename_i k hk
      simp only [Conc] at h ⊢
      cases hB : C.H[id]? with
      | none => rw [hB] at h; exact h.elim
      | some B =>
        obtain ⟨h2, h3⟩ := hr.blk id k hk B hB
        rw [hB] at h
        rw [h2, h3]
        cases B <;> exact h
    · exact h1
  | .lsl id i len, u, h => by
    have h1 := Conc.one_lsl h
    simp only [Abs.ren]
    split
    · rename_i k hk
      simp only [Conc] at h ⊢
      cases hB : C.H[id]? with
      | none => rw [hB] at h; exact h.elim
      | some B =>
        obtain ⟨h2, h3⟩ := hr.blk id k hk B hB
        rw [hB] at h
        rw [h2, h3]
        cases B with
        | cells own nil sz els => simp only [renB, renR_len, hr.w] at h ⊢; exact h
        | _ => exact h
    · exact h1
  | .mp id, u, h => by
    have h1 := Conc.one_mp h
    simp only [Abs.ren]
    split
    · rename_i k hk
      simp only [Conc] at h ⊢
      cases hB : C.H[id]? with
      | none => rw [hB] at h; exact h.elim
      | some B =>
        obtain ⟨h2, h3⟩ := hr.blk id k hk B hB
        rw [hB] at h
        rw [h2, h3]
        cases B with
        | obj o =>
          obtain ⟨b, h4, h5⟩ := h
          exact ⟨b, h4, h5.trans (Ob.val_key (renO_key ρ o)).symm⟩
        | _ => exact h.elim
    · exact h1
theorem ConcL.ren (hr : Renamed ρ C C') : ∀ (l : List AV) (us : List Value), ConcL C l us → ConcL C' (renL ρ l) us
  | [], _, h => h
  | a :: l, us, h => by
    simp only [ConcL, renL] at h ⊢
    obtain ⟨u, us', hu, h1, h2⟩ := h
    exact ⟨u, us', hu, Conc.ren hr a u h1, ConcL.ren hr l us' h2⟩
theorem CellsAt.ren (hr : Renamed ρ C C') : ∀ (l : List AV) (b off : Nat), CellsAt C b off l → CellsAt C' b off (renL ρ l)
  | [], _, _, _ => trivial
  | c :: cs, b, off, h => by
    simp only [CellsAt, renL] at h ⊢
    obtain ⟨⟨u, hu, h1, h2, h3⟩, h4⟩ := h
    exact ⟨⟨u, by rw [hr.w]; exact hu, h1, isOne_ren ρ c h2, Conc.ren hr c u h3⟩, CellsAt.ren hr cs b (off + 1) h4⟩
theorem RowsAt.ren (hr : Renamed ρ C C') : ∀ (l : List (List AV)) (b base sz : Nat), RowsAt C b base sz l → RowsAt C' b base sz (renR ρ l)
  | [], _, _, _, _ => trivial
  | r :: rs, b, base, sz, h => by
    simp only [RowsAt, renR] at h ⊢
    exact ⟨by rw [renL_len]; exact h.1, CellsAt.ren hr r b base h.2.1, RowsAt.ren hr rs b (base + sz) sz h.2.2⟩
end
end

/-! a call that gets values without blocks of ours: what it makes is put behind our blocks -/
def shiftρ (n : Nat) (id : Nat) : Option Nat := some (id + n)

theorem frame_call {C : Ctx} (hR : HeapRel C) {new : List Blk} {m2 : List (Option (Nat × Nat))} {w' : World}
    (hs : Step ⟨[], [], C.w, C.bad⟩ ⟨new, m2, w', C.bad⟩) (hR2 : HeapRel ⟨new, m2, w', C.bad⟩) :
    Step C ⟨C.H ++ new.map (renB (shiftρ C.H.length)), C.m ++ m2, w', C.prot⟩ ∧ HeapRel ⟨C.H ++ new.map (renB (shiftρ C.H.length)), C.m ++ m2, w', C.prot⟩ ∧
    ∀ r u, Conc ⟨new, m2, w', C.bad⟩ r u → Conc ⟨C.H ++ new.map (renB (shiftρ C.H.length)), C.m ++ m2, w', C.prot⟩ (ren (shiftρ C.H.length) r) u := by
  have hall : ∀ b, b < C.w.heap.size → w'.heap[b]? = C.w.heap[b]? := fun b hb => hs.blk b hb (by rintro (⟨id, _, _, _, _, h, _⟩ | ⟨id, _, h, _, _⟩) <;> simp at h)
  have hno : ∀ b, ¬ Ctx.own ⟨[], [], C.w, C.bad⟩ b := by
    rintro b (⟨id, _, _, _, _, h, _⟩ | ⟨id, _, h, _, _⟩) <;> simp at h
  have hfresh : ∀ b, Ctx.own ⟨new, m2, w', C.bad⟩ b → C.w.heap.size ≤ b := fun b hb => (hs.own b hb).resolve_left (hno b)
  have hlenm : m2.length = new.length := hR2.len
  have hH1 : ∀ id, id < C.H.length → (C.H ++ new.map (renB (shiftρ C.H.length)))[id]? = C.H[id]? := fun id h => List.getElem?_append_left h
  have hm1 : ∀ id, id < C.H.length → (C.m ++ m2)[id]? = C.m[id]? := fun id h => List.getElem?_append_left (by rw [hR.len]; exact h)
  have hH2 : ∀ id, C.H.length ≤ id → (C.H ++ new.map (renB (shiftρ C.H.length)))[id]? = (new[id - C.H.length]?).map (renB (shiftρ C.H.length)) := fun id h => by rw [List.getElem?_append_right h, List.getElem?_map]
  have hm2 : ∀ id, C.H.length ≤ id → (C.m ++ m2)[id]? = m2[id - C.H.length]? := fun id h => by rw [List.getElem?_append_right (by rw [hR.len]; exact h), hR.len]
  have hcells : ∀ id own nil sz els, C.H.length ≤ id → (C.H ++ new.map (renB (shiftρ C.H.length)))[id]? = some (Blk.cells own nil sz els) → ∃ els0, new[id - C.H.length]? = some (Blk.cells own nil sz els0) ∧ els = renR (shiftρ C.H.length) els0 := by
    intro id own nil sz els hid h
    rw [hH2 id hid, Option.map_eq_some_iff] at h
    obtain ⟨B, hB, h⟩ := h
    cases B with
    | cells o n s e => simp only [renB, Blk.cells.injEq] at h; obtain ⟨rfl, rfl, rfl, rfl⟩ := h; exact ⟨e, hB, rfl⟩
    | _ => simp [renB] at h
  have hobjs : ∀ (id : Nat) (o : Ob), C.H.length ≤ id → (C.H ++ new.map (renB (shiftρ C.H.length)))[id]? = some (Blk.obj o) → ∃ o0, new[id - C.H.length]? = some (Blk.obj o0) ∧ o = renO (shiftρ C.H.length) o0 := by
    intro id o hid h
    rw [hH2 id hid, Option.map_eq_some_iff] at h
    obtain ⟨B, hB, h⟩ := h
    cases B with
    | obj o' => simp only [renB, Blk.obj.injEq] at h; subst h; exact ⟨o', hB, rfl⟩
    | _ => simp [renB] at h
  have hstep : Step C ⟨C.H ++ new.map (renB (shiftρ C.H.length)), C.m ++ m2, w', C.prot⟩ := by
    refine ⟨hs.os, hs.tape, hs.output, rfl, hs.size, by simp, fun b hb _ => hall b hb, fun b c e f hb => ⟨c, f, (hall b (lt_of_heap hb)).trans hb, rfl⟩, ?_, ?_, ?_, ?_⟩
    · rintro b (⟨id, nil, sz, els, base, h1, h2⟩ | ⟨id, o, h1, h0, h2⟩)
      · by_cases hid : id < C.H.length
        · dsimp only at h1 h2; rw [hH1 id hid] at h1; rw [hm1 id hid] at h2; exact .inl (.inl ⟨id, nil, sz, els, base, h1, h2⟩)
        · dsimp only at h1 h2
          obtain ⟨els0, h3, _⟩ := hcells id true nil sz els (by omega) h1
          rw [hm2 id (by omega)] at h2
          exact .inr (hfresh b (.inl ⟨_, nil, sz, els0, base, h3, h2⟩))
      · by_cases hid : id < C.H.length
        · dsimp only at h1 h2; rw [hH1 id hid] at h1; rw [hm1 id hid] at h2; exact .inl (.inr ⟨id, o, h1, h0, h2⟩)
        · dsimp only at h1 h2
          obtain ⟨o0, h3, e3⟩ := hobjs id o (by omega) h1
          rw [hm2 id (by omega)] at h2
          exact .inr (hfresh b (.inr ⟨_, o0, h3, renO_nx _ (e3 ▸ h0), h2⟩))
    · intro id B hB hr
      have hid := lt_of_get hB
      refine ⟨⟨B, (hH1 id hid).trans hB, hr⟩, fun own' nil' sz' els' h => ?_⟩
      dsimp only at h ⊢
      rw [hH1 id hid] at h
      exact ⟨own', els', by rw [hB] at h; exact Option.some.inj h, rfl, fun h => h, hm1 id hid⟩
    · intro id o ho
      have hid := lt_of_get ho
      exact ⟨o, (hH1 id hid).trans ho, hm1 id hid, rfl⟩
    · intro id o B ho hB hr
      have hid := lt_of_get hB
      dsimp only at ho
      rw [hH1 id hid, hB] at ho
      exact ⟨o, Option.some.inj ho⟩
  have hbad : ∀ b, ¬ Ctx.bad ⟨new, m2, w', C.bad⟩ b → ¬ Ctx.bad ⟨C.H ++ new.map (renB (shiftρ C.H.length)), C.m ++ m2, w', C.prot⟩ b := by
    rintro b hb ((⟨id, nil, sz, els, base, h1, h2⟩ | ⟨id, o, h1, h0, h2⟩) | h)
    · by_cases hid : id < C.H.length
      · dsimp only at h1 h2; rw [hH1 id hid] at h1; rw [hm1 id hid] at h2
        exact hb (.inr (.inl (.inl ⟨id, nil, sz, els, base, h1, h2⟩)))
      · dsimp only at h1 h2
        obtain ⟨els0, h3, _⟩ := hcells id true nil sz els (by omega) h1
        rw [hm2 id (by omega)] at h2
        exact hb (.inl (.inl ⟨_, nil, sz, els0, base, h3, h2⟩))
    · by_cases hid : id < C.H.length
      · dsimp only at h1 h2; rw [hH1 id hid] at h1; rw [hm1 id hid] at h2
        exact hb (.inr (.inl (.inr ⟨id, o, h1, h0, h2⟩)))
      · dsimp only at h1 h2
        obtain ⟨o0, h3, e3⟩ := hobjs id o (by omega) h1
        rw [hm2 id (by omega)] at h2
        exact hb (.inl (.inr ⟨_, o0, h3, renO_nx _ (e3 ▸ h0), h2⟩))
    · exact hb (.inr (.inr h))
  have hren : Renamed (shiftρ C.H.length) ⟨new, m2, w', C.bad⟩ ⟨C.H ++ new.map (renB (shiftρ C.H.length)), C.m ++ m2, w', C.prot⟩ := by
    refine ⟨rfl, hbad, fun id k hk B hB => ?_⟩
    simp only [shiftρ, Option.some.injEq] at hk
    subst hk
    dsimp only at hB ⊢
    rw [hH2 _ (by omega), hm2 _ (by omega), Nat.add_sub_cancel, hB]
    exact ⟨rfl, rfl⟩
  refine ⟨hstep, ⟨by simp [hR.len, hlenm], ?_, ?_, fun b hb => Nat.lt_of_lt_of_le (hR.prot b hb) hs.size, ?_, ?_, ?_⟩, fun r u h => Conc.ren hren r u h⟩
  · intro id own nil sz els h
    dsimp only at h ⊢
    by_cases hid : id < C.H.length
    · rw [hH1 id hid] at h
      rw [hm1 id hid]
      rcases hR.blk id own nil sz els h with h1 | ⟨hn, b, base, c, e, h1, h2, h3, h4⟩
      · exact .inl h1
      · have hlt := lt_of_heap h3
        exact .inr ⟨hn, b, base, c, e, h1, h2, (hall b hlt).trans h3, RowsAt.keep hstep els b base sz (fun o _ _ => World.cell?_of_block (w := C.w) (hall b hlt)) h4⟩
    · obtain ⟨els0, h3, rfl⟩ := hcells id own nil sz els (by omega) h
      rw [hm2 id (by omega), renR_len]
      rcases hR2.blk _ own nil sz els0 h3 with h1 | ⟨hn, b, base, c, e, h1, h2, h4, h5⟩
      · exact .inl h1
      · exact .inr ⟨hn, b, base, c, e, h1, fun hp => h2 (.inr hp), h4, RowsAt.ren hren els0 b base sz h5⟩
  · intro id id' nil sz1 els1 own' nil' sz2 els2 b base base' hne h1 h2 h3 h4
    dsimp only at h1 h2 h3 h4
    by_cases hid : id < C.H.length
    · rw [hH1 id hid] at h1
      rw [hm1 id hid] at h3
      by_cases hid' : id' < C.H.length
      · rw [hH1 id' hid'] at h2
        rw [hm1 id' hid'] at h4
        exact hR.inj id id' nil sz1 els1 own' nil' sz2 els2 b base base' hne h1 h2 h3 h4
      · obtain ⟨els0, h5, rfl⟩ := hcells id' own' nil' sz2 els2 (by omega) h2
        rw [hm2 id' (by omega)] at h4
        rcases hR2.blk _ own' nil' sz2 els0 h5 with h6 | ⟨_, b2, base2, c, e, h6, h7, _⟩
        · dsimp only at h6; rw [h4] at h6; simp at h6
        · dsimp only at h6; rw [h4] at h6; simp at h6; obtain ⟨rfl, rfl⟩ := h6
          exact h7 (.inl (.inl ⟨id, nil, sz1, els1, base, h1, h3⟩))
    · obtain ⟨els0, h5, rfl⟩ := hcells id true nil sz1 els1 (by omega) h1
      rw [hm2 id (by omega)] at h3
      by_cases hid' : id' < C.H.length
      · rw [hH1 id' hid'] at h2
        rw [hm1 id' hid'] at h4
        have hfb := hfresh b (.inl ⟨_, nil, sz1, els0, base, h5, h3⟩)
        rcases hR.blk id' own' nil' sz2 els2 h2 with h6 | ⟨_, b2, base2, c, e, h6, _, h7, _⟩
        · rw [h4] at h6; simp at h6
        · rw [h4] at h6; simp at h6; obtain ⟨rfl, rfl⟩ := h6
          have := lt_of_heap h7
          omega
      · obtain ⟨els0', h5', rfl⟩ := hcells id' own' nil' sz2 els2 (by omega) h2
        rw [hm2 id' (by omega)] at h4
        exact hR2.inj _ _ nil sz1 els0 own' nil' sz2 els0' b base base' (by omega) h5 h5' h3 h4
  · intro id o ho hx0
    dsimp only at ho ⊢
    by_cases hid : id < C.H.length
    · rw [hH1 id hid] at ho
      rw [hm1 id hid]
      obtain ⟨b, x, h1, h2, h3, h4⟩ := hR.obj id o ho hx0
      exact ⟨b, x, h1, h2, (hall b (lt_of_heap h3)).trans h3, h4⟩
    · obtain ⟨o0, h, rfl⟩ := hobjs id o (by omega) ho
      rw [hm2 id (by omega)]
      obtain ⟨b, x, h1, h2, h3, h4⟩ := hR2.obj _ o0 h (renO_nx _ hx0)
      exact ⟨b, x, h1, fun hp => h2 (.inr hp), h3, (renO_is _ _ _).2 h4⟩
  · intro id id' o o' b base base' hne hx1 hx2 h1 h2 h3 h4
    dsimp only at h1 h2 h3 h4
    have hold : ∀ k o base, o ≠ .lpx → C.H[k]? = some (Blk.obj o) → C.m[k]? = some (some (b, base)) → b < C.w.heap.size := fun k o base hx h1 h2 => by
      obtain ⟨b', x, h5, _, h6, _⟩ := hR.obj k o h1 hx
      rw [h2] at h5; simp at h5; obtain ⟨rfl, rfl⟩ := h5
      exact lt_of_heap h6
    have hnewb : ∀ k o base, o ≠ .lpx → new[k]? = some (Blk.obj o) → m2[k]? = some (some (b, base)) → C.w.heap.size ≤ b := fun k o base hx h1 h2 => by
      obtain ⟨b', x, h5, _, h6, _⟩ := hR2.obj k o h1 hx
      dsimp only at h5
      rw [h2] at h5; simp at h5; obtain ⟨rfl, rfl⟩ := h5
      exact hfresh b (.inr ⟨k, o, h1, hx, h2⟩)
    by_cases hid : id < C.H.length
    · rw [hH1 id hid] at h1
      rw [hm1 id hid] at h3
      by_cases hid' : id' < C.H.length
      · rw [hH1 id' hid'] at h2
        rw [hm1 id' hid'] at h4
        exact hR.oinj id id' o o' b base base' hne hx1 hx2 h1 h2 h3 h4
      · obtain ⟨o0, h5, e5⟩ := hobjs id' o' (by omega) h2
        rw [hm2 id' (by omega)] at h4
        have := hold id o base hx1 h1 h3
        have := hnewb _ o0 base' (renO_nx _ (e5 ▸ hx2)) h5 h4
        omega
    · obtain ⟨o0, h5, e5⟩ := hobjs id o (by omega) h1
      rw [hm2 id (by omega)] at h3
      by_cases hid' : id' < C.H.length
      · rw [hH1 id' hid'] at h2
        rw [hm1 id' hid'] at h4
        have := hold id' o' base' hx2 h2 h4
        have := hnewb _ o0 base (renO_nx _ (e5 ▸ hx1)) h5 h3
        omega
      · obtain ⟨o1, h6, e6⟩ := hobjs id' o' (by omega) h2
        rw [hm2 id' (by omega)] at h4
        exact hR2.oinj _ _ o0 o1 b base base' (by omega) (renO_nx _ (e5 ▸ hx1)) (renO_nx _ (e6 ▸ hx2)) h5 h6 h3 h4
  · intro id r s ho t
    dsimp only at ho
    by_cases hid : id < C.H.length
    · rw [hH1 id hid] at ho
      exact Conc.mono hstep _ _ (hR.lps id r s ho t)
    · obtain ⟨o0, h, h6⟩ := hobjs id _ (by omega) ho
      cases o0 with
      | smap kd es => simp [renO] at h6
      | lpx => simp [renO] at h6
      | lp r0 s0 =>
        simp only [renO, Ob.lp.injEq] at h6
        obtain ⟨rfl, rfl⟩ := h6
        rw [look_ren]
        exact Conc.ren hren _ _ (hR2.lps _ _ _ h t)
end Go.Abs
