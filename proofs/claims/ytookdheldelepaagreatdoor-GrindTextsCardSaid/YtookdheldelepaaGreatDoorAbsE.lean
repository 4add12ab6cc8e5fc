import Derived.Test.YtookdheldelepaaGreatDoorAbsD
import Derived.Laws.BitsLemmas
set_option linter.all false
set_option linter.unusedVariables false
set_option linter.unusedSimpArgs false
set_option linter.unusedSectionVars false
/- A range over a function. -/
namespace Go.Abs
open Go.RowKit

/-- an iterator that makes no blocks: what it hands to yield, one after the other; what it needs of the blocks -/
def IterOk (P : Program) (gf : FuncId) (first cap : List AV) (n : Nat) (E : Nat → List Blk → List AV → Prop) (Bc : List Blk → Prop) : Prop :=
  ∀ (hl : Nat) (J : Nat → List Blk → Prop) (Jx : List Blk → Prop) (H : List Blk),
    (∀ k H', J k H' → (∃ r s, H'[hl]? = some (.obj (.lp r s))) ∧ Bc H') →
    (∀ k H' args, k < n → J k H' → E k H' args → AYield P hl args H' fun r H'' => (r = boolV true ∧ J (k + 1) H'') ∨ (r = boolV false ∧ Jx H'')) →
    J 0 H → ACall P gf (first ++ [.mp hl] ++ cap) H fun _ H' => J n H' ∨ Jx H'

/-- how a round is left -/
def roundK (hl : Nat) (I1 : List Blk → Prop) (X : Exit → List Blk → Prop) : Exit → St → Prop
  | .normal, τ => τ.heap[hl]? = some (.obj .lpx) ∧ I1 τ.heap
  | .ret, τ => τ.heap[hl]? = some (.obj .lpx) ∧ X .ret τ.heap
  | .exit id, τ => τ.heap[hl]? = some (.obj .lpx) ∧ X (.exit id) τ.heap
  | _, _ => False
def jumpOf : Exit → Option Code
  | .ret => some .ret
  | .exit id => some (.exit id)
  | _ => none
/-- an assignment to the loop's variables: slots alone -/
def asgOps : List AOper → List (Nat × AV) → Option (List (Nat × AV))
  | [], s => some s
  | ⟨some d, .mv (.tmp t), none, _⟩ :: r, s => asgOps r ((d, look s t) :: s)
  | _, _ => none
def asg1 : ACode → List (Nat × AV) → Option (List (Nat × AV))
  | .reg 0 ops, s => asgOps ops s
  | .skip, s => some s
  | _, _ => none
def asgRun : ACode → List (Nat × AV) → Option (List (Nat × AV))
  | .seq x y, s => (asg1 x s).bind (asg1 y)
  | x, s => asg1 x s

section
variable {P : Program} {N b : Nat} {C0 C : Ctx} {σ : St} {a : Act}

/-- a block that is no one's is made -/
theorem extra_ok (h : Rel N C0 σ C a) (x : Obj) : Rel N C0 σ ⟨C.H, C.m, C.w.alloc x, C.prot⟩ a := by
  have hheap : ∀ k, k < C.w.heap.size → (C.w.alloc x).heap[k]? = C.w.heap[k]? := fun k hk => Below.heap_alloc _ _ _ hk
  have hs : Step C ⟨C.H, C.m, C.w.alloc x, C.prot⟩ :=
    ⟨rfl, rfl, rfl, rfl, by simp, Nat.le_refl _, fun k hk _ => hheap k hk, fun k c e f hx => ⟨c, f, (hheap k (lt_of_heap hx)).trans hx, rfl⟩, fun _ h => .inl h,
      fun _ B hB hr => ⟨⟨B, hB, hr⟩, fun own' _ _ els' h => ⟨own', els', by dsimp only at h; rw [hB] at h; exact Option.some.inj h, rfl, fun h => h, rfl⟩⟩, fun _ o h => ⟨o, h, rfl, rfl⟩, fun _ o B h h' _ => ⟨o, by dsimp only at h; rw [h] at h'; exact (Option.some.inj h').symm⟩⟩
  refine ⟨h.heap, ⟨h.rel.len, ?_, h.rel.inj, fun k hk => by have := h.rel.prot k hk; simp; omega, ?_, h.rel.oinj, fun id r s ho t => Conc.mono hs _ _ (h.rel.lps id r s ho t), h.rel.glS hs⟩, h.step.trans hs, ⟨fun t => Conc.mono hs _ _ (h.slots.at_ t)⟩, h.defers.mono h.rel hs, h.size⟩
  · intro id own nil sz els h1
    rcases h.rel.blk id own nil sz els h1 with h3 | ⟨hn, b, base, c, e, h3, h4, h5, h6⟩
    · exact .inl h3
    · have hlt := lt_of_heap h5
      exact .inr ⟨hn, b, base, c, e, h3, h4, (hheap b hlt).trans h5, RowsAt.keep hs els b base sz (fun o _ _ => World.cell?_of_block (w := C.w) (hheap b hlt)) h6⟩
  · intro id o ho hx
    obtain ⟨b, y, h1, h2, h3, h4⟩ := h.rel.obj id o ho hx
    exact ⟨b, y, h1, h2, (hheap b (lt_of_heap h3)).trans h3, h4⟩

/-- the record is turned -/
theorem rel_setO (h : Rel N C0 σ C a) {hl l : Nat} {r r' : Loop} {s : List (Nat × AV)} (hH : σ.heap[hl]? = some (.obj (.lp r s))) (hm : C.m[hl]? = some (some (l, 0))) (ht : r'.tmps = r.tmps) :
    C.w.heap[l]? = some (.loop r) ∧ Step C ⟨σ.heap.set hl (.obj (.lp r' s)), C.m, C.w.putObj l (.loop r'), C.prot⟩ ∧ Rel N C0 ⟨σ.slots, σ.heap.set hl (.obj (.lp r' s))⟩ ⟨σ.heap.set hl (.obj (.lp r' s)), C.m, C.w.putObj l (.loop r'), C.prot⟩ a := by
  rw [← h.heap] at hH
  obtain ⟨b, x, h1, h2, h3, h4⟩ := h.rel.obj hl _ hH (by simp)
  rw [hm] at h1
  simp at h1
  subst h1
  have hx : x = .loop r := by
    cases x <;> try exact h4.elim
    rename_i q
    have : q = r := h4
    rw [this]
  subst hx
  refine ⟨h3, ?_⟩
  obtain ⟨g1, g2⟩ := setO_ok h.rel (hnx := by simp) (hnx' := by simp) (ob' := .lp r' s) (x' := .loop r') (w' := C.w.putObj l (.loop r')) hH hm h3 rfl rfl rfl (fun r2 s2 he t => by
    simp only [Ob.lp.injEq] at he
    obtain ⟨rfl, rfl⟩ := he
    rw [ht]
    exact h.rel.lps hl r _ hH t) rfl rfl rfl rfl
  rw [h.heap] at g1 g2
  exact ⟨g1, rfl, g2, h.step.trans g1, ⟨fun t => Conc.mono g1 _ _ (h.slots.at_ t)⟩, h.defers.mono h.rel g1, h.size⟩

/-- the record is put out of sight -/
theorem seal_ok (hR : HeapRel C) {hl : Nat} {r : Loop} {s : List (Nat × AV)} (hH : C.H[hl]? = some (.obj (.lp r s))) :
    Step C ⟨C.H.set hl (.obj .lpx), C.m, C.w, C.prot⟩ ∧ HeapRel ⟨C.H.set hl (.obj .lpx), C.m, C.w, C.prot⟩ := by
  have hl' := lt_of_get hH
  have hget : ∀ (k : Nat) B, B ≠ Blk.obj .lpx → (C.H.set hl (.obj .lpx))[k]? = some B → C.H[k]? = some B := fun k B hB h => by
    by_cases hk : k = hl
    · subst hk; rw [set_get_eq hl'] at h; exact (hB (Option.some.inj h).symm).elim
    · rw [set_get_ne (Ne.symm hk)] at h; exact h
  have hs : Step C ⟨C.H.set hl (.obj .lpx), C.m, C.w, C.prot⟩ := by
    refine ⟨rfl, rfl, rfl, rfl, Nat.le_refl _, by simp, fun _ _ _ => rfl, fun _ c _ f h => ⟨c, f, h, rfl⟩, ?_, ?_, ?_, ?_⟩
    · rintro b (⟨id, nil, sz, els, base, h1, h2⟩ | ⟨id, o, h1, h0, h2⟩)
      · exact .inl (.inl ⟨id, nil, sz, els, base, hget id _ (by simp) h1, h2⟩)
      · exact .inl (.inr ⟨id, o, hget id _ (by simpa using h0) h1, h0, h2⟩)
    · intro id B hB hr
      by_cases hk : id = hl
      · subst hk
        refine ⟨⟨_, set_get_eq hl', by simp⟩, fun own' nil' sz' els' h => ?_⟩
        dsimp only at h
        rw [set_get_eq hl'] at h
        simp at h
      · refine ⟨⟨B, by dsimp only; rw [set_get_ne (Ne.symm hk)]; exact hB, hr⟩, fun own' nil' sz' els' h => ?_⟩
        dsimp only at h
        rw [set_get_ne (Ne.symm hk), hB] at h
        exact ⟨own', els', Option.some.inj h, rfl, fun h => h, rfl⟩
    · intro id o ho
      by_cases hk : id = hl
      · subst hk
        rw [hH] at ho
        simp at ho
        subst ho
        exact ⟨.lpx, set_get_eq hl', rfl, rfl⟩
      · exact ⟨o, by dsimp only; rw [set_get_ne (Ne.symm hk)]; exact ho, rfl, rfl⟩
    · intro id o B ho hB hr
      by_cases hk : id = hl
      · subst hk; rw [hH] at hB; exact ⟨_, (Option.some.inj hB).symm⟩
      · dsimp only at ho
        rw [set_get_ne (Ne.symm hk), hB] at ho
        exact ⟨o, Option.some.inj ho⟩
  refine ⟨hs, ⟨by simp [hR.len], ?_, ?_, hR.prot, ?_, ?_, ?_, hR.glS hs⟩⟩
  · intro id own nil sz els h
    rcases hR.blk id own nil sz els (hget id _ (by simp) h) with h1 | ⟨hn, b, base, c, e, h1, h2, h3, h4⟩
    · exact .inl h1
    · exact .inr ⟨hn, b, base, c, e, h1, h2, h3, RowsAt.keep hs els b base sz (fun _ _ _ => rfl) h4⟩
  · intro id id' nil sz1 els1 own' nil' sz2 els2 b base base' hne h1 h2 h3 h4
    exact hR.inj id id' nil sz1 els1 own' nil' sz2 els2 b base base' hne (hget id _ (by simp) h1) (hget id' _ (by simp) h2) h3 h4
  · intro id o ho hx
    exact hR.obj id o (hget id _ (by simpa using hx) ho) hx
  · intro id id' o o' b base base' hne hx hx' h1 h2 h3 h4
    exact hR.oinj id id' o o' b base base' hne hx hx' (hget id _ (by simpa using hx) h1) (hget id' _ (by simpa using hx') h2) h3 h4
  · intro id r s ho t
    exact Conc.mono hs _ _ (hR.lps id r s (hget id _ (by simp) ho) t)

/-- and back in sight -/
theorem unseal_ok {C4 C5 : Ctx} (hR4 : HeapRel C4) {hl l : Nat} {r : Loop} {s : List (Nat × AV)} (hH : C4.H[hl]? = some (.obj (.lp r s))) (hm : C4.m[hl]? = some (some (l, 0))) (hst : Step ⟨C4.H.set hl (.obj .lpx), C4.m, C4.w, C4.prot⟩ C5) (hR5 : HeapRel C5) (hx5 : C5.H[hl]? = some (.obj .lpx)) :
    Step C4 ⟨C5.H.set hl (.obj (.lp r s)), C5.m, C5.w, C5.prot⟩ ∧ HeapRel ⟨C5.H.set hl (.obj (.lp r s)), C5.m, C5.w, C5.prot⟩ := by
  have hl4 := lt_of_get hH
  have hl5 := lt_of_get hx5
  obtain ⟨b, x, hb1, hb2, hb3, hb4⟩ := hR4.obj hl _ hH (by simp)
  rw [hm] at hb1
  simp at hb1
  subst hb1
  have hno : ¬ Ctx.own ⟨C4.H.set hl (.obj .lpx), C4.m, C4.w, C4.prot⟩ l := by
    rintro (⟨id, nil, sz, els, base, h1, h2⟩ | ⟨id, o, h1, h0, h2⟩)
    · have hk : id ≠ hl := by rintro rfl; dsimp only at h1; rw [set_get_eq hl4] at h1; simp at h1
      dsimp only at h1 h2
      rw [set_get_ne (Ne.symm hk)] at h1
      rcases hR4.blk id true nil sz els h1 with ⟨h3, _⟩ | ⟨_, b', base', c, e, h3, _, h4, _⟩
      · rw [h2] at h3; simp at h3
      · rw [h2] at h3; simp at h3; obtain ⟨rfl, rfl⟩ := h3
        rw [hb3] at h4
        obtain rfl := Option.some.inj h4
        exact Ob.not_cells hb4
    · have hk : id ≠ hl := by rintro rfl; dsimp only at h1; rw [set_get_eq hl4] at h1; simp at h1; exact h0 h1.symm
      dsimp only at h1 h2
      rw [set_get_ne (Ne.symm hk)] at h1
      exact hR4.oinj id hl o _ l 0 0 hk h0 (by simp) h1 hH h2 hm
  have hheap : C5.w.heap[l]? = some x := (hst.blk l (lt_of_heap hb3) hno).trans hb3
  have hm5 : C5.m[hl]? = some (some (l, 0)) := by
    obtain ⟨_, _, h2, _⟩ := hst.objs hl .lpx (set_get_eq hl4)
    exact h2.trans hm
  have hno5 : ¬ C5.own l := fun h => by
    rcases hst.own l h with h | h
    · exact hno h
    · have := lt_of_heap hb3; dsimp only at h; omega
  have hsub : ∀ k, Ctx.own ⟨C4.H.set hl (.obj .lpx), C4.m, C4.w, C4.prot⟩ k → C4.own k := by
    obtain ⟨hs, _⟩ := seal_ok hR4 hH
    intro k hk
    rcases hs.own k hk with h | h
    · exact h
    · obtain ⟨y, hy, _⟩ := own_holds (seal_ok hR4 hH).2 hk
      have := lt_of_heap hy
      dsimp only at this
      omega
  have hget : ∀ (k : Nat) B, (∀ o, B ≠ Blk.obj o) → (C5.H.set hl (.obj (.lp r s)))[k]? = some B → C5.H[k]? = some B := fun k B hB h => by
    by_cases hk : k = hl
    · subst hk; rw [set_get_eq hl5] at h; exact (hB _ (Option.some.inj h).symm).elim
    · rw [set_get_ne (Ne.symm hk)] at h; exact h
  have hw : StepW C5 ⟨C5.H.set hl (.obj (.lp r s)), C5.m, C5.w, C5.prot⟩ := by
    refine ⟨rfl, Nat.le_refl _, fun _ _ _ _ => rfl, fun _ c _ f h => ⟨c, f, h, rfl⟩, ?_, ?_, ?_, ?_⟩
    · rintro b hc (⟨id, nil, sz, els, base, h1, h2⟩ | ⟨id, o, h1, h0, h2⟩)
      · exact .inl ⟨id, nil, sz, els, base, hget id _ (by simp) h1, h2⟩
      · by_cases hk : id = hl
        · subst hk
          dsimp only at h2
          rw [hm5] at h2
          simp at h2
          subst h2
          obtain ⟨c, e, f, hc⟩ := hc
          rw [hheap] at hc
          obtain rfl := Option.some.inj hc
          exact (Ob.not_cells hb4).elim
        · dsimp only at h1
          rw [set_get_ne (Ne.symm hk)] at h1
          exact .inr ⟨id, o, h1, h0, h2⟩
    · intro id B hB hr
      by_cases hk : id = hl
      · subst hk
        refine ⟨⟨_, set_get_eq hl5, by simp⟩, fun own' nil' sz' els' h => ?_⟩
        dsimp only at h
        rw [set_get_eq hl5] at h
        simp at h
      · refine ⟨⟨B, by dsimp only; rw [set_get_ne (Ne.symm hk)]; exact hB, hr⟩, fun own' nil' sz' els' h => ?_⟩
        dsimp only at h
        rw [set_get_ne (Ne.symm hk), hB] at h
        exact ⟨own', els', Option.some.inj h, rfl, fun h => h, rfl⟩
    · intro id o ho
      by_cases hk : id = hl
      · subst hk
        rw [hx5] at ho
        simp at ho
        subst ho
        exact ⟨_, set_get_eq hl5, rfl, rfl⟩
      · exact ⟨o, by dsimp only; rw [set_get_ne (Ne.symm hk)]; exact ho, rfl, rfl⟩
    · intro id o B ho hB hr
      by_cases hk : id = hl
      · subst hk; rw [hx5] at hB; exact ⟨_, (Option.some.inj hB).symm⟩
      · dsimp only at ho
        rw [set_get_ne (Ne.symm hk), hB] at ho
        exact ⟨o, Option.some.inj ho⟩
  have hstep : Step C4 ⟨C5.H.set hl (.obj (.lp r s)), C5.m, C5.w, C5.prot⟩ := by
    refine ⟨hst.os, hst.tape, hst.output, hst.prot, hst.size, by have := hst.hlen; simpa using this, fun b hb hn => hst.blk b hb (fun h => hn (hsub b h)), hst.grow, ?_, ?_, ?_, ?_⟩
    · rintro b (⟨id, nil, sz, els, base, h1, h2⟩ | ⟨id, o, h1, h0, h2⟩)
      · rcases hst.own b (.inl ⟨id, nil, sz, els, base, hget id _ (by simp) h1, h2⟩) with h | h
        · exact .inl (hsub b h)
        · exact .inr h
      · by_cases hk : id = hl
        · subst hk
          dsimp only at h2
          rw [hm5] at h2
          simp at h2
          subst h2
          exact .inl (.inr ⟨id, _, hH, by simp, hm⟩)
        · dsimp only at h1
          rw [set_get_ne (Ne.symm hk)] at h1
          rcases hst.own b (.inr ⟨id, o, h1, h0, h2⟩) with h | h
          · exact .inl (hsub b h)
          · exact .inr h
    · intro id B hB hr
      by_cases hk : id = hl
      · subst hk
        refine ⟨⟨_, set_get_eq hl5, by simp⟩, fun own' nil' sz' els' h => ?_⟩
        dsimp only at h
        rw [set_get_eq hl5] at h
        simp at h
      · have hB' : (C4.H.set hl (.obj .lpx))[id]? = some B := by rw [set_get_ne (Ne.symm hk)]; exact hB
        obtain ⟨⟨B', h1, h2⟩, h3⟩ := hst.ids id B hB' hr
        refine ⟨⟨B', by dsimp only; rw [set_get_ne (Ne.symm hk)]; exact h1, h2⟩, fun own' nil' sz' els' h => ?_⟩
        dsimp only at h
        rw [set_get_ne (Ne.symm hk)] at h
        exact h3 own' nil' sz' els' h
    · intro id o ho
      by_cases hk : id = hl
      · subst hk
        rw [hH] at ho
        simp at ho
        subst ho
        exact ⟨_, set_get_eq hl5, hm5.trans hm.symm, rfl⟩
      · have ho' : (C4.H.set hl (.obj .lpx))[id]? = some (.obj o) := by rw [set_get_ne (Ne.symm hk)]; exact ho
        obtain ⟨o', h1, h2, h3⟩ := hst.objs id o ho'
        exact ⟨o', by dsimp only; rw [set_get_ne (Ne.symm hk)]; exact h1, h2, h3⟩
    · intro id o B ho hB hr
      by_cases hk : id = hl
      · subst hk; rw [hH] at hB; exact ⟨_, (Option.some.inj hB).symm⟩
      · dsimp only at ho
        rw [set_get_ne (Ne.symm hk)] at ho
        exact hst.objr id o B ho (by dsimp only; rw [set_get_ne (Ne.symm hk)]; exact hB) hr
  refine ⟨hstep, ⟨by simp [hR5.len], ?_, ?_, hR5.prot, ?_, ?_, ?_, hR5.gl⟩⟩
  · intro id own nil sz els h
    rcases hR5.blk id own nil sz els (hget id _ (by simp) h) with h1 | ⟨hn, b, base, c, e, h1, h2, h3, h4⟩
    · exact .inl h1
    · exact .inr ⟨hn, b, base, c, e, h1, h2, h3, RowsAt.keepW hw els b base sz (fun _ _ _ => rfl) h4⟩
  · intro id id' nil sz1 els1 own' nil' sz2 els2 b base base' hne h1 h2 h3 h4
    exact hR5.inj id id' nil sz1 els1 own' nil' sz2 els2 b base base' hne (hget id _ (by simp) h1) (hget id' _ (by simp) h2) h3 h4
  · intro id o ho hx
    by_cases hk : id = hl
    · subst hk
      dsimp only at ho
      rw [set_get_eq hl5] at ho
      simp at ho
      subst ho
      exact ⟨l, x, hm5, by rw [hst.prot]; exact hb2, hheap, hb4⟩
    · dsimp only at ho
      rw [set_get_ne (Ne.symm hk)] at ho
      exact hR5.obj id o ho hx
  · intro id id' o o' b base base' hne hx hx' h1 h2 h3 h4
    dsimp only at h1 h2 h3 h4
    have hcross : ∀ k o base b, k ≠ hl → o ≠ .lpx → C5.H[k]? = some (.obj o) → C5.m[k]? = some (some (b, base)) → b ≠ l := by
      rintro k o base b hk hox hko hkm rfl
      obtain ⟨b', _, h5, _⟩ := hR5.obj k o hko hox
      rw [hkm] at h5; simp at h5
      exact hno5 (.inr ⟨k, o, hko, hox, by rw [hkm, h5.2]⟩)
    by_cases hk : id = hl
    · subst hk
      rw [hm5] at h3
      simp at h3
      obtain ⟨rfl, rfl⟩ := h3
      rw [set_get_ne hne] at h2
      exact hcross id' o' base' l (Ne.symm hne) hx' h2 h4 rfl
    · rw [set_get_ne (Ne.symm hk)] at h1
      by_cases hk' : id' = hl
      · subst hk'
        rw [hm5] at h4
        simp at h4
        obtain ⟨rfl, rfl⟩ := h4
        exact hcross id o base l hk hx h1 h3 rfl
      · rw [set_get_ne (Ne.symm hk')] at h2
        exact hR5.oinj id id' o o' b base base' hne hx hx' h1 h2 h3 h4
  · intro id r2 s2 ho t
    by_cases hk : id = hl
    · subst hk
      dsimp only at ho
      rw [set_get_eq hl5] at ho
      simp at ho
      obtain ⟨rfl, rfl⟩ := ho
      exact Conc.mono hstep _ _ (hR4.lps id r s hH t)
    · dsimp only at ho
      rw [set_get_ne (Ne.symm hk)] at ho
      exact Conc.monoW hw _ _ (hR5.lps id r2 s2 ho t)

theorem zip_get {C : Ctx} : ∀ (ps : List Nat) (args : List AV) (cargs : List Value) (slots : List (Nat × AV)) (tmps : Array Value), args.length = ps.length → (∀ t ∈ ps, t < tmps.size) → ConcL C args cargs → (∀ t, Conc C (look slots t) (tmps.getD t undef)) →
    (∀ t, Conc C (look ((ps.zip args).reverse ++ slots) t) (((ps.zip cargs).foldl (fun tmps (p : Nat × Value) => tmps.setIfInBounds p.1 p.2) tmps).getD t undef)) ∧ ((ps.zip cargs).foldl (fun tmps (p : Nat × Value) => tmps.setIfInBounds p.1 p.2) tmps).size = tmps.size
  | [], args, cargs, slots, tmps, _, _, _, h => ⟨by simpa using h, rfl⟩
  | p :: ps, [], cargs, slots, tmps, hl, _, _, _ => by simp at hl
  | p :: ps, v :: args, cargs, slots, tmps, hl, hp, hc, h => by
    simp only [ConcL] at hc
    obtain ⟨u, us, rfl, h1, h2⟩ := hc
    have hpl : p < tmps.size := hp p (by simp)
    obtain ⟨g1, g2⟩ := zip_get ps args us ((p, v) :: slots) (tmps.setIfInBounds p u) (by simpa using hl) (fun t ht => by simp; exact hp t (by simp [ht])) h2 (fun t => by
      simp only [look]
      by_cases hpt : p = t
      · subst hpt
        have : (tmps.setIfInBounds p u).getD p undef = u := by simp [Array.getD, hpl]
        rw [if_pos rfl, this]; exact h1
      · have : (tmps.setIfInBounds p u).getD t undef = tmps.getD t undef := by simp only [Array.getD_eq_getD_getElem?, Array.getElem?_setIfInBounds, if_neg hpt]
        rw [if_neg hpt, this]; exact h t)
    refine ⟨fun t => ?_, by simp only [List.zip_cons_cons, List.foldl_cons]; rw [g2]; simp⟩
    simp only [List.zip_cons_cons, List.reverse_cons, List.append_assoc, List.singleton_append, List.foldl_cons]
    exact g1 t


theorem trOp_mv {muts : List FuncId} {op : Op} {z : Opd} (h : trOp1 P muts op = .mv z) : ∃ x, (op = .move x ∨ op = .assign x) ∧ z = opd x := by
  unfold trOp1 at h
  cases op with
  | move x => exact ⟨x, .inl rfl, by simpa [trOp] using h.symm⟩
  | assign x => exact ⟨x, .inr rfl, by simpa [trOp] using h.symm⟩
  | call c =>
    exfalso
    simp only [trOp, opC] at h
    repeat' split at h
    all_goals simp at h
  | binOp op t x y ty =>
    exfalso
    simp only [trOp, opB] at h
    repeat' split at h
    all_goals first | (simp at h; done) | skip
    all_goals (simp only [Option.getD] at h; split at h <;> first | (simp at h; done) | skip)
    all_goals (rename_i he; simp only [Option.map_eq_some_iff] at he; obtain ⟨_, _, rfl⟩ := he; simp at h)
  | unOp op t x => exfalso; cases op <;> simp [trOp] at h
  | makeMap t r => exfalso; cases r <;> simp only [trOp, Option.getD] at h <;> (try split at h) <;> (try simp at h); rename_i he; simp only [Option.map_eq_some_iff] at he; obtain ⟨_, _, rfl⟩ := he; simp at h
  | _ =>
    exfalso
    simp only [trOp] at h
    repeat' split at h
    all_goals first | (simp at h; done) | skip
    all_goals (simp only [Option.getD] at h; split at h <;> first | (simp at h; done) | skip)
    all_goals (rename_i he; simp only [Option.map_eq_some_iff, Option.bind_eq_some_iff] at he; first | (obtain ⟨_, _, rfl⟩ := he; simp at h) | (obtain ⟨_, _, _, _, rfl⟩ := he; simp at h))

theorem asg_ops {md : Option Nat} {muts : List FuncId} {ops : Array Oper} {Q : Exit → Act → World → Prop} : ∀ (lst : List Oper) (k : Nat) (aos : List AOper) (k0 k1 : Nat) (s s' : List (Nat × AV)) (a : Act), (∀ j, lst[j]? = ops[k + j]?) → trOpers P muts N ops k0 lst = some (aos, k1) → asgOps aos s = some s' →
    (∀ t, Conc C (look s t) (a.tmps.getD t undef)) → N ≤ a.tmps.size → (∀ a', (∀ t, Conc C (look s' t) (a'.tmps.getD t undef)) → a'.defers = a.defers → N ≤ a'.tmps.size → Q .normal a' C.w) → wpOpsIn (FR md) 0 P ops Q (List.range' k lst.length) a C.w
  | [], k, aos, k0, k1, s, s', a, _, ht, he, hS, hsz, hQ => by
    simp only [trOpers, Option.some.injEq, Prod.mk.injEq] at ht
    obtain ⟨rfl, _⟩ := ht
    simp only [asgOps, Option.some.injEq] at he
    subst he
    exact hQ a hS rfl hsz
  | o :: l, k, aos, k0, k1, s, s', a, hl, ht, he, hS, hsz, hQ => by
    have h0 : ops[k]? = some o := by simpa using (hl 0).symm
    have hl' : ∀ j, l[j]? = ops[k + 1 + j]? := fun j => by have := hl (j + 1); simpa [Nat.add_assoc, Nat.add_comm 1 j] using this
    simp only [trOpers, Option.bind_eq_some_iff] at ht
    obtain ⟨g, hg, ht⟩ := ht
    split at ht
    · rename_i hd
      simp only [Option.map_eq_some_iff, Prod.mk.injEq] at ht
      obtain ⟨⟨aos', k'⟩, hrest, rfl, rfl⟩ := ht
      unfold asgOps at he
      split at he
      · rename_i h1; simp at h1
      · rename_i s0 la lb d t fr' r' h1
        simp only [List.cons.injEq, AOper.mk.injEq] at h1
        obtain ⟨⟨hdst, hop, hgn, rfl⟩, rfl⟩ := h1
        obtain ⟨x, hx, hxt⟩ := trOp_mv hop
        have hgd : o.guard = none := by
          cases hog : o.guard with
          | none => rfl
          | some p =>
            obtain ⟨j, w⟩ := p
            rw [hog] at hg
            simp only [trGuard, Option.map_eq_some_iff] at hg
            obtain ⟨_, _, hg⟩ := hg
            rw [hgn] at hg
            simp at hg
        have hev : Conc C (look s0 t) (a.eval x) := by
          have := (Slots.mk (C := C) (s := look s0) (a := a) hS).ev x
          rw [← hxt] at this
          exact this
        rw [List.length_cons, List.range'_succ]
        simp only [wpOpsIn, h0]
        rw [if_pos (by simp [Region.wanted, hgd])]
        refine oper_in (by rcases hx with hx | hx <;> (rw [hx]; intro c hc; cases hc)) ?_
        have hrun : (execOp a.eval o).run P C.w = .ok (.value (a.eval x)) C.w := by
          rcases hx with hx | hx <;> simp [execOp, hx]
        rw [hrun, Oper.uponIn_value, hdst]
        have hdl : d < N := by rw [hdst] at hd; simpa [dstOk] using hd
        refine asg_ops l (k + 1) _ _ k' _ s' _ hl' hrest he (fun u => ?_) (by simpa [Act.put] using hsz) (fun a' h1 h2 h3 => hQ a' h1 (by rw [h2]; rfl) h3)
        simp only [look, Act.put]
        by_cases hdu : d = u
        · subst hdu
          have : (a.tmps.setIfInBounds d (a.eval x)).getD d undef = a.eval x := by simp [Array.getD, Nat.lt_of_lt_of_le hdl hsz]
          rw [if_pos rfl, this]; exact hev
        · have : (a.tmps.setIfInBounds d (a.eval x)).getD u undef = a.tmps.getD u undef := by simp only [Array.getD_eq_getD_getElem?, Array.getElem?_setIfInBounds, if_neg hdu]
          rw [if_neg hdu, this]; exact hS u
      · simp at he
    · simp at ht

theorem asg1_wp {md : Option Nat} {muts : List FuncId} {x : Code} {asg : ACode} {s s' : List (Nat × AV)} {a : Act} {Q : Exit → Act → World → Prop} (hx : trCode P muts N x = some asg) (he : asg1 asg s = some s')
    (hS : ∀ t, Conc C (look s t) (a.tmps.getD t undef)) (hsz : N ≤ a.tmps.size) (hQ : ∀ a', (∀ t, Conc C (look s' t) (a'.tmps.getD t undef)) → a'.defers = a.defers → N ≤ a'.tmps.size → Q .normal a' C.w) : x.wpIn (FR md) 0 P Q a C.w := by
  unfold asg1 at he
  split at he
  · obtain ⟨id, ops, rfl, ht⟩ := tr_reg hx
    refine wpIn_region ?_
    have := asg_ops (md := md) (Q := Q) ops.toList 0 _ 0 0 s s' a (fun j => by simp) ht he hS hsz hQ
    rw [List.range_eq_range']
    simpa using this
  · simp only [Option.some.injEq] at he
    subst he
    rw [tr_skip hx]
    exact wpIn_skip (hQ a hS rfl hsz)
  · simp at he

theorem asg_wp {md : Option Nat} {muts : List FuncId} {x : Code} {asg : ACode} {s s' : List (Nat × AV)} {a : Act} {Q : Exit → Act → World → Prop} (hx : trCode P muts N x = some asg) (he : asgRun asg s = some s')
    (hS : ∀ t, Conc C (look s t) (a.tmps.getD t undef)) (hsz : N ≤ a.tmps.size) (hQ : ∀ a', (∀ t, Conc C (look s' t) (a'.tmps.getD t undef)) → a'.defers = a.defers → N ≤ a'.tmps.size → Q .normal a' C.w) : x.wpIn (FR md) 0 P Q a C.w := by
  unfold asgRun at he
  split at he
  · rename_i p q
    obtain ⟨s1, h1, h2⟩ := Option.bind_eq_some_iff.1 he
    obtain ⟨x, y, rfl, hx, hy⟩ := tr_seq hx
    refine wpIn_seq (asg1_wp hx h1 hS hsz fun a1 g1 g2 g3 => ?_)
    exact asg1_wp hy h2 g1 g3 fun a' f1 f2 f3 => hQ a' f1 (f2.trans g2) f3
  · exact asg1_wp hx he hS hsz hQ

/-- one round -/
theorem round_ok {muts : List FuncId} {hl : Nat} {asg body : ACode} {x y : Code} {psA : Array Tmp} {r0 : Loop} {slots s1 : List (Nat × AV)} {I1 : List Blk → Prop} {X : Exit → List Blk → Prop} {H' : List Blk} {args : List AV}
    (hps : ∀ t ∈ psA.toList, t < N) (hx : trCode P muts N x = some asg) (hy : trCode P muts N y = some body)
    (e1 : r0.params = psA) (e2 : r0.assign = x) (e3 : r0.body = y) (e4 : r0.state = .ready) (e5 : r0.pending = none) (hsz : N ≤ r0.tmps.size)
    (harg : args.length = psA.toList.length) (hl0 : H'[hl]? = some (.obj (.lp r0 slots))) (hasg : asgRun asg ((psA.toList.zip args).reverse ++ slots) = some s1)
    (hT : ∀ l, T (some l) P muts N H'.length body ⟨s1, H'.set hl (.obj .lpx)⟩ (roundK hl I1 X)) :
    AYield P hl args H' fun r H'' => (r = boolV true ∧ I1 (H''.set hl (.obj .lpx)) ∧ H''[hl]? = some (.obj (.lp r0 slots))) ∨
      (r = boolV false ∧ ∃ e r code, jumpOf e = some code ∧ H''[hl]? = some (.obj (.lp r slots)) ∧ r.state = .done ∧ r.pending = some code ∧ X e (H''.set hl (.obj .lpx))) := by
  rintro C2 cargs l rfl hRel hm hargs
  obtain ⟨bl, xo, hb1, hb2, hb3, hb4⟩ := hRel.obj _ _ hl0 (by simp)
  rw [hm] at hb1
  simp at hb1
  subst hb1
  have hxo : xo = .loop r0 := by
    cases xo <;> try exact hb4.elim
    rename_i q
    have : q = r0 := hb4
    rw [this]
  subst hxo
  have hcl : cargs.length = args.length := hargs.length
  refine ⟨_, _, _, _, run_yield hb3 (by simp [hcl, harg, e1]), ?_⟩
  rw [e2, e3]
  refine roundIn_of_wpIn (F := Fence.wide) (n := 0) trivial ?_
  obtain ⟨hz1, hz2⟩ := zip_get (C := C2) psA.toList args cargs slots r0.tmps harg (fun t ht => Nat.lt_of_lt_of_le (hps t ht) hsz) hargs (fun t => hRel.lps _ _ _ hl0 t)
  have hfold : (r0.params.zip cargs.toArray).foldl (fun tmps (t, a) => tmps.setIfInBounds t a) r0.tmps = (psA.toList.zip cargs).foldl (fun tmps (p : Nat × Value) => tmps.setIfInBounds p.1 p.2) r0.tmps := by
    rw [← Array.foldl_toList]; simp [e1]
  rw [hfold]
  refine asg_wp (C := C2) (s := (psA.toList.zip args).reverse ++ slots) hx hasg hz1 (by rw [hz2]; exact hsz) (fun a1 hS1 hd1 hsz1 => ?_)
  have hR3 : Rel N C2 ⟨s1, C2.H⟩ C2 a1 := ⟨rfl, hRel, Step.refl C2, ⟨hS1⟩, by rw [hd1]; exact Marks.nil _ _, hsz1⟩
  have hlt := lt_of_get hl0
  show ∃ w2, (Instr.beginRound l).run P C2.w = .ok () w2 ∧ _
  have hm3 := hm
  obtain ⟨hw3, _, hR4⟩ := rel_setO hR3 (r' := { r0 with state := .busy }) hl0 hm3 rfl
  refine ⟨_, run_beginRound hw3 e4, ?_⟩
  have hH4 : (C2.H.set hl (.obj (.lp { r0 with state := .busy } slots)))[hl]? = some (.obj (.lp { r0 with state := .busy } slots)) := set_get_eq hlt
  obtain ⟨hsS, hsR⟩ := seal_ok hR4.rel hH4
  have eS : (C2.H.set hl (Blk.obj (.lp { r0 with state := .busy } slots))).set hl (.obj .lpx) = C2.H.set hl (.obj .lpx) := by simp
  dsimp only at hsS hsR
  rw [eS] at hsS hsR
  have hRs : Rel N ⟨C2.H.set hl (.obj .lpx), C2.m, C2.w.putObj l (.loop { r0 with state := .busy }), C2.prot⟩ ⟨s1, C2.H.set hl (.obj .lpx)⟩ ⟨C2.H.set hl (.obj .lpx), C2.m, C2.w.putObj l (.loop { r0 with state := .busy }), C2.prot⟩ { tmps := a1.tmps, defers := [] } :=
    ⟨rfl, hsR, Step.refl _, ⟨fun t => Conc.mono hsS _ _ (hR4.slots.at_ t)⟩, Marks.nil _ _, hR4.size⟩
  have ea : ({ tmps := a1.tmps, defers := [] } : Act) = a1 := by cases a1; simp only at hd1; subst hd1; rfl
  rw [ea] at hRs
  refine wpIn_mono (hT _ y hy _ _ _ (by simp) hRs) ?_
  rintro e2 a2 w2 ⟨σ2, C5, rfl, hK2, hR5⟩
  have hst5 := hR5.step
  have hp : C5.prot = C2.prot := hst5.prot
  have hback : σ2.heap[hl]? = some (.obj .lpx) → ∀ r' : Loop, r'.tmps = r0.tmps → Step C2 ⟨σ2.heap.set hl (.obj (.lp r' slots)), C5.m, C5.w.putObj l (.loop r'), C2.prot⟩ ∧ HeapRel ⟨σ2.heap.set hl (.obj (.lp r' slots)), C5.m, C5.w.putObj l (.loop r'), C2.prot⟩ ∧ C5.w.heap[l]? = some (.loop { r0 with state := .busy }) := by
    intro hx5 r' hr'
    rw [← hR5.heap] at hx5
    have hst5' : Step ⟨(C2.H.set hl (Blk.obj (.lp { r0 with state := .busy } slots))).set hl (.obj .lpx), C2.m, C2.w.putObj l (.loop { r0 with state := .busy }), C2.prot⟩ C5 := by rw [eS]; exact hst5
    obtain ⟨g1, g2⟩ := unseal_ok hR4.rel hH4 hm3 hst5' hR5.rel hx5
    have hm5 : C5.m[hl]? = some (some (l, 0)) := by
      obtain ⟨_, _, h2, _⟩ := hst5.objs hl .lpx (set_get_eq hlt)
      exact h2.trans hm3
    have hRu : Rel 0 C2 ⟨[], C5.H.set hl (.obj (.lp { r0 with state := .busy } slots))⟩ ⟨C5.H.set hl (.obj (.lp { r0 with state := .busy } slots)), C5.m, C5.w, C5.prot⟩ { tmps := #[], defers := [] } :=
      ⟨rfl, g2, hR4.step.trans g1, ⟨fun t => trivial⟩, Marks.nil _ _, Nat.zero_le _⟩
    obtain ⟨q1, q2, q3⟩ := rel_setO hRu (r := { r0 with state := .busy }) (r' := r') (set_get_eq (lt_of_get hx5)) hm5 hr'
    have h7 := q3.step
    have h8 := q3.rel
    have eS2 : (C5.H.set hl (Blk.obj (.lp { r0 with state := .busy } slots))).set hl (.obj (.lp r' slots)) = C5.H.set hl (.obj (.lp r' slots)) := by simp
    dsimp only at h7 h8
    rw [eS2, hR5.heap, hp] at h7 h8
    exact ⟨h7, h8, q1⟩
  have eset : σ2.heap[hl]? = some (.obj .lpx) → ∀ r' : Loop, (σ2.heap.set hl (.obj (.lp r' slots))).set hl (.obj .lpx) = σ2.heap := by
    intro hx5 r'
    rw [List.set_set]
    apply List.ext_getElem?
    intro i
    by_cases hi : i = hl
    · subst hi; rw [set_get_eq (lt_of_get hx5), hx5]
    · rw [set_get_ne (Ne.symm hi)]
  have fin : ∀ (e2 : Exit) (code : Code), jumpOf e2 = some code → σ2.heap[hl]? = some (.obj .lpx) → X e2 σ2.heap → ∃ v w', (Instr.endRound l (some code)).run P C5.w = .ok v w' ∧
      ∃ u r H' m', Ending.returned v = .returned u ∧ ((r = boolV true ∧ I1 (H'.set hl (.obj .lpx)) ∧ H'[hl]? = some (.obj (.lp r0 slots))) ∨ (r = boolV false ∧ ∃ e r code, jumpOf e = some code ∧ H'[hl]? = some (.obj (.lp r slots)) ∧ r.state = .done ∧ r.pending = some code ∧ X e (H'.set hl (.obj .lpx)))) ∧ Step C2 ⟨H', m', w', C2.prot⟩ ∧ HeapRel ⟨H', m', w', C2.prot⟩ ∧ Conc ⟨H', m', w', C2.prot⟩ r u := by
    intro e2 code hj hl5 hX5
    obtain ⟨h7, h8, hw5⟩ := hback hl5 { r0 with state := .done, pending := some code } rfl
    exact ⟨_, _, run_endRound (some code) hw5, _, boolV false, _, C5.m, rfl, .inr ⟨rfl, e2, { r0 with state := .done, pending := some code }, code, hj, set_get_eq (lt_of_get hl5), rfl, rfl, by rw [eset hl5]; exact hX5⟩, h7, h8, by simp [boolV, Conc]⟩
  cases e2 with
  | normal =>
    obtain ⟨hl5, hI5⟩ := hK2
    obtain ⟨h7, h8, hw5⟩ := hback hl5 r0 rfl
    have h9 := run_endRound (P := P) none hw5
    simp only [Option.isNone_none, if_true] at h9
    have h10 : ({ r0 with state := .ready, pending := none } : Loop) = r0 := by cases r0; simp only at e4 e5; subst e4 e5; rfl
    rw [h10] at h9
    exact ⟨_, _, h9, _, boolV true, _, C5.m, rfl, .inl ⟨rfl, by rw [eset hl5]; exact hI5, set_get_eq (lt_of_get hl5)⟩, h7, h8, by simp [boolV, Conc]⟩
  | ret => exact fin .ret .ret rfl hK2.1 hK2.2
  | exit id => exact fin (.exit id) (.exit id) rfl hK2.1 hK2.2
  | goto t => exact hK2.elim
  | panic ch => exact hK2.elim
  | outgrown => exact hK2.elim

/-- the record is made -/
theorem enter_ok {σ : St} {C0' : Ctx} {a a' : Act} {r : Loop} (hR : Rel N C0 σ C a) (hRa : Rel N C0' σ ⟨C.H, C.m, C.w.alloc (.deferred (some [])), C.prot⟩ a') (ha : a'.tmps = r.tmps) :
    Rel N C0' ⟨σ.slots, σ.heap ++ [.obj (.lp r σ.slots)]⟩ ⟨σ.heap ++ [.obj (.lp r σ.slots)], (C.m ++ List.replicate 1 none).set σ.heap.length (some (C.w.heap.size + 1, 0)), (C.w.alloc (.deferred (some []))).alloc (.loop r), C.prot⟩ a' := by
  have hlen : C.m.length = C.H.length := hR.rel.len
  have hHl : C.H.length = σ.heap.length := by rw [hR.heap]
  have hH1 : (C.H ++ List.replicate 1 Blk.resv).set σ.heap.length (.obj (.lp r σ.slots)) = σ.heap ++ [.obj (.lp r σ.slots)] := by
    rw [hR.heap]; simp
  have hR1 := resv_ok hRa 1
  have hfr : (C.H ++ List.replicate 1 Blk.resv)[σ.heap.length]? = some .resv := by rw [← hHl]; simp
  obtain ⟨hs2, hR2⟩ := allocO_ok hR1.rel (fr := σ.heap.length) hfr (ob := .lp r σ.slots) (x := .loop r) rfl (fun r' s he t => by
    simp only [Ob.lp.injEq] at he
    obtain ⟨rfl, rfl⟩ := he
    have := hR1.slots.at_ t
    rw [ha] at this
    exact this)
  dsimp only at hs2 hR2
  rw [hH1] at hs2 hR2
  simp only [World.size_alloc] at hs2 hR2
  exact ⟨rfl, hR2, hR1.step.trans hs2, ⟨fun t => Conc.mono hs2 _ _ (hR1.slots.at_ t)⟩, hR1.defers.mono hR1.rel hs2, hR1.size⟩

theorem mark_ok {σ : St} {a : Act} (hR : Rel N C0 σ C a) : Rel N C0 σ ⟨C.H, C.m, C.w.alloc (.deferred (some [])), C.prot⟩ { tmps := a.tmps, defers := { target := .collected C.w.heap.size, args := #[] } :: a.defers } := by
  have q := extra_ok hR (.deferred (some []))
  refine ⟨q.heap, q.rel, q.step, ⟨q.slots.at_⟩, ?_, q.size⟩
  obtain ⟨bs, h1, h2, h3⟩ := hR.defers
  refine ⟨C.w.heap.size :: bs, by simp [h1], List.nodup_cons.2 ⟨fun hin => ?_, h2⟩, fun k hk => ?_⟩
  · have := lt_of_heap (h3 _ hin).2; omega
  · rcases List.mem_cons.1 hk with rfl | hk
    · exact ⟨hR.step.size, World.alloc_heap_new _ _⟩
    · obtain ⟨h5, h6⟩ := h3 k hk
      exact ⟨h5, (Below.heap_alloc _ _ _ (lt_of_heap h6)).trans h6⟩

theorem T_range {muts : List FuncId} {K : Exit → St → Prop} {f : Opd} {ps : List Nat} {asg body : ACode} {gf : FuncId} {first cap : List AV} {n : Nat} {E : Nat → List Blk → List AV → Prop} {Bc : List Blk → Prop}
    (I : Nat → List Blk → Prop) (X : Exit → List Blk → Prop)
    (htar : target (ev σ.get f) = some (gf, first, cap)) (hit : IterOk P gf first cap n E Bc)
    (hBc : ∀ k H, I k H → Bc H) (hBs : ∀ H r s, Bc (H.set σ.heap.length (.obj .lpx)) → H[σ.heap.length]? = some (.obj (.lp r s)) → Bc H)
    (hEs : ∀ k H r s args, E k H args → H[σ.heap.length]? = some (.obj (.lp r s)) → E k (H.set σ.heap.length (.obj .lpx)) args)
    (h0 : I 0 (σ.heap ++ [.obj .lpx]))
    (hbody : ∀ k H args, k < n → I k H → H[σ.heap.length]? = some (.obj .lpx) → E k H args → args.length = ps.length ∧ ∃ s1, asgRun asg ((ps.zip args).reverse ++ σ.slots) = some s1 ∧
      ∀ l, T (some l) P muts N H.length body ⟨s1, H⟩ (roundK σ.heap.length (I (k + 1)) X))
    (hdone : ∀ H, I n H → K .normal ⟨σ.slots, H⟩) (hstop : ∀ e H, X e H → K e ⟨σ.slots, H⟩) : T none P muts N b (.range f ps asg body) σ K := by
  intro c hc C0 C a hb0 hR
  obtain ⟨g, psA, x, y, rfl, rfl, rfl, hps, hx, hy⟩ := tr_range hc
  refine wpIn_rangeFunc (F := FR none) (n := 0) (fun fn _ => ?_)
  obtain ⟨uf, uc, hu, hfirst, hcap⟩ := target_spec htar (hR.slots.ev g)
  have henter := run_enterLoop_outer (P := P) (w := C.w) fn a.tmps psA x y
  generalize hr0 : ({ state := .ready, pending := none, fn, tmps := a.tmps, params := psA, assign := x, body := y, defers := C.w.heap.size } : Loop) = r0 at henter
  have e1 : r0.params = psA := by rw [← hr0]
  have e2 : r0.assign = x := by rw [← hr0]
  have e3 : r0.body = y := by rw [← hr0]
  have e4 : r0.state = .ready := by rw [← hr0]
  have e5 : r0.pending = none := by rw [← hr0]
  have e6 : a.tmps = r0.tmps := by rw [← hr0]
  clear hr0
  have hlen : C.m.length = C.H.length := hR.rel.len
  have hHl : C.H.length = σ.heap.length := by rw [hR.heap]
  have hm1 : ((C.m ++ List.replicate 1 none).set σ.heap.length (some (C.w.heap.size + 1, 0)))[σ.heap.length]? = some (some (C.w.heap.size + 1, 0)) := set_get_eq (by simp [hlen, hHl])
  have hst := (enter_ok (r := r0) hR (C0' := C) (a' := { tmps := a.tmps, defers := [] }) (extra_ok (a := { tmps := a.tmps, defers := [] }) ⟨hR.heap, hR.rel, Step.refl C, ⟨hR.slots.at_⟩, Marks.nil _ _, hR.size⟩ (.deferred (some []))) e6).step
  have hR1 := enter_ok (r := r0) hR (mark_ok hR) e6
  -- the iterator
  have hcall : ACall P gf (first ++ [.mp σ.heap.length] ++ cap) (σ.heap ++ [.obj (.lp r0 σ.slots)]) fun _ H' =>
      (I n (H'.set σ.heap.length (.obj .lpx)) ∧ H'[σ.heap.length]? = some (.obj (.lp r0 σ.slots))) ∨ ∃ e r code, jumpOf e = some code ∧ H'[σ.heap.length]? = some (.obj (.lp r σ.slots)) ∧ r.state = .done ∧ r.pending = some code ∧ X e (H'.set σ.heap.length (.obj .lpx)) := by
    refine hit σ.heap.length (fun k H' => I k (H'.set σ.heap.length (.obj .lpx)) ∧ H'[σ.heap.length]? = some (.obj (.lp r0 σ.slots))) (fun H' => ∃ e r code, jumpOf e = some code ∧ H'[σ.heap.length]? = some (.obj (.lp r σ.slots)) ∧ r.state = .done ∧ r.pending = some code ∧ X e (H'.set σ.heap.length (.obj .lpx))) _
      (fun k H' h => ⟨⟨_, _, h.2⟩, hBs _ _ _ (hBc k _ h.1) h.2⟩) ?_ ⟨by simpa using h0, by simp⟩
    rintro k H' args hk ⟨hI, hl⟩ hE
    obtain ⟨harg, s1, hs1, hT⟩ := hbody k _ args hk hI (set_get_eq (lt_of_get hl)) (hEs _ _ _ _ _ hE hl)
    exact round_ok hps hx hy e1 e2 e3 e4 e5 (by rw [← e6]; exact hR.size) harg hl hs1 (fun l => by simpa using hT l)
  -- the call
  have hargs1 := ((ConcL.mono hst _ _ hfirst).append (l' := [.mp σ.heap.length]) (us' := [.func (.yield (C.w.heap.size + 1)) #[] #[]]) (by
    simp only [ConcL, Conc]
    refine ⟨_, [], rfl, ?_, rfl⟩
    simp only [List.getElem?_append_right (Nat.le_refl _), Nat.sub_self, List.getElem?_cons_zero]
    exact ⟨_, hm1, rfl⟩)).append (ConcL.mono hst _ _ hcap)
  have harr : (uf.toList ++ [Value.func (.yield (C.w.heap.size + 1)) #[] #[]] ++ uc.toList).toArray = uf ++ #[.func (.yield (C.w.heap.size + 1)) #[] #[]] ++ uc := by
    rw [← Array.toList_inj]; simp
  have hrun := hcall.2 _ _ rfl hR1.rel hargs1
  rw [harr] at hrun
  have hres : (resolve a.eval (rangeCall g (C.w.heap.size + 1)) 0).run P ((C.w.alloc (.deferred (some []))).alloc (.loop r0)) = .ok { target := .fn (.func gf) uc, args := uf ++ #[.func (.yield (C.w.heap.size + 1)) #[] #[]] } ((C.w.alloc (.deferred (some []))).alloc (.loop r0)) := by
    have hu' : (Act.eval a g) = .func (.func gf) uf uc := hu
    have hc' : ∀ v, Act.eval a (.const v) = v := fun _ => rfl
    simp [resolve, rangeCall, hu', Deferred.ofValue, hc']
  have hinv : (invoke (.fn (.func gf) uc) (uf ++ #[.func (.yield (C.w.heap.size + 1)) #[] #[]])).run P ((C.w.alloc (.deferred (some []))).alloc (.loop r0)) = .ok (.enter gf (uf ++ #[.func (.yield (C.w.heap.size + 1)) #[] #[]] ++ uc)) ((C.w.alloc (.deferred (some []))).alloc (.loop r0)) := hcall.1 _ _
  have hin : CallsIn (FR none) 0 P gf (uf ++ #[.func (.yield (C.w.heap.size + 1)) #[] #[]] ++ uc) ((C.w.alloc (.deferred (some []))).alloc (.loop r0))
      (rangePost (FR none) 0 P (C.w.heap.size + 1) (fun e a' w' => Goes N C0 (K e) a' w') { tmps := a.tmps, defers := { target := .collected C.w.heap.size, args := #[] } :: a.defers }) := by
    refine calls_in (Calls.mono hrun ?_)
    rintro e w3 ⟨u, r, H3, m3, rfl, hQ, hs3, hR3, _⟩
    have hRel3 : Rel N C0 ⟨σ.slots, H3⟩ ⟨H3, m3, w3, C.prot⟩ { tmps := a.tmps, defers := { target := .collected C.w.heap.size, args := #[] } :: a.defers } :=
      ⟨rfl, hR3, hR1.step.trans hs3, ⟨fun t => Conc.mono hs3 _ _ (hR1.slots.at_ t)⟩, hR1.defers.mono hR1.rel hs3, hR1.size⟩
    have hm3 : m3[σ.heap.length]? = some (some (C.w.heap.size + 1, 0)) := by
      obtain ⟨_, _, h2, _⟩ := hs3.objs σ.heap.length (.lp r0 σ.slots) (by simp)
      exact h2.trans hm1
    have hsx : ∀ r : Loop, H3[σ.heap.length]? = some (.obj (.lp r σ.slots)) → r.state ≠ .busy → ∃ C4, C4.w = w3.putObj (C.w.heap.size + 1) (.loop { r with state := .exhausted }) ∧ Rel N C0 ⟨σ.slots, H3.set σ.heap.length (.obj .lpx)⟩ C4 { tmps := a.tmps, defers := { target := .collected C.w.heap.size, args := #[] } :: a.defers } ∧
        w3.heap[C.w.heap.size + 1]? = some (.loop r) := by
      intro r hl _
      obtain ⟨hw, _, hR4⟩ := rel_setO hRel3 (r' := { r with state := .exhausted }) hl hm3 rfl
      obtain ⟨g1, g2⟩ := seal_ok hR4.rel (hl := σ.heap.length) (r := { r with state := .exhausted }) (s := σ.slots) (set_get_eq (lt_of_get hl))
      have eS : ((H3.set σ.heap.length (Blk.obj (.lp { r with state := .exhausted } σ.slots))).set σ.heap.length (.obj .lpx)) = H3.set σ.heap.length (.obj .lpx) := by simp
      dsimp only at g1 g2
      rw [eS] at g1 g2
      exact ⟨_, rfl, ⟨rfl, g2, hR4.step.trans g1, ⟨fun t => Conc.mono g1 _ _ (hR4.slots.at_ t)⟩, hR4.defers.mono hR4.rel g1, hR4.size⟩, hw⟩
    rcases hQ with ⟨hI, hl⟩ | ⟨e, r, code, hj, hl, hst', hpend, hX⟩
    · obtain ⟨C4, hw4, hR4, hw⟩ := hsx r0 hl (by rw [e4]; simp)
      refine ⟨none, _, by rw [← e5]; exact run_endLoop hw (by simp [e4]), ?_⟩
      exact ⟨_, C4, hw4, hdone _ hI, hR4⟩
    · obtain ⟨C4, hw4, hR4, hw⟩ := hsx r hl (by rw [hst']; simp)
      refine ⟨some code, _, by rw [← hpend]; exact run_endLoop hw (by rw [hst']; simp), ?_⟩
      rw [← hw4]
      have hK := hstop e _ hX
      cases e with
      | ret => simp only [jumpOf, Option.some.injEq] at hj; subst hj; exact wpIn_ret ⟨_, C4, rfl, hK, hR4⟩
      | exit id => simp only [jumpOf, Option.some.injEq] at hj; subst hj; exact wpIn_exit ⟨_, C4, rfl, hK, hR4⟩
      | _ => simp [jumpOf] at hj
  exact ⟨_, _, _, _, _, gf, _, _, henter, hres, fun _ _ => trivial, hinv, fun h => (by cases h), hin⟩
end
end Go.Abs
/- The abstract machine as a function: what a run with its numbers known comes to. -/
namespace Go.Abs
open Go.RowKit

def compatB (F G : Foot) : Bool :=
  F.wr.all (fun x => !G.wr.contains x && !G.rd.contains x) && G.wr.all (fun x => !F.rd.contains x) &&
  (match F.call with | some n => (G.rd ++ G.wr).all fun x => decide (x < n) | none => true) && (match G.call with | some n => (F.rd ++ F.wr).all fun x => decide (x < n) | none => true) && !F.raw && !G.raw
theorem compatB_ok {F G : Foot} (h : compatB F G = true) : compat F G := by
  simp only [compatB, Bool.and_eq_true, List.all_eq_true, Bool.not_eq_true'] at h
  obtain ⟨⟨⟨⟨⟨h1, h2⟩, h3⟩, h4⟩, h5⟩, h6⟩ := h
  refine ⟨fun x hx => ?_, fun x hx => ?_, fun n hn x hx => ?_, fun n hn x hx => ?_, h5, h6⟩
  · have := h1 x hx; simp at this; exact this
  · have := h2 x hx; simp at this; exact this
  · rw [hn] at h3; simp only [List.all_eq_true, decide_eq_true_eq, List.mem_append] at h3; exact h3 x hx
  · rw [hn] at h4; simp only [List.all_eq_true, decide_eq_true_eq, List.mem_append] at h4; exact h4 x hx

def envOf (P : Program) (muts : List FuncId) (g : FuncId) : Option (Nat × ACode × List ARes) := match P.funcs[g]? with
  | some fn => match fn.body with
    | some c => if fn.name == "runtime.NumGoroutine" then none else (trCode P muts fn.ntmps c).bind fun ac => (trRes P fn.results.toList).map fun rs => (fn.ntmps, ac, rs)
    | none => none
  | none => none

mutual
def refs : AV → List Nat
  | .loc id _ _ | .lsl id _ _ | .mp id => [id]
  | .agg cs | .tup cs => refsL cs
  | .clo _ f c => refsL f ++ refsL c
  | .sl _ _ els | .adr _ els _ _ => refsR els
  | _ => []
def refsL : List AV → List Nat
  | [] => []
  | a :: l => refs a ++ refsL l
def refsR : List (List AV) → List Nat
  | [] => []
  | r :: l => refsL r ++ refsR l
end
def refsB : Blk → List Nat
  | .cells _ _ _ els => refsR els
  | _ => []
/-- blocks that a result leads to -/
def reach (H : List Blk) : Nat → List Nat → List Nat → List Nat
  | 0, _, acc => acc
  | n + 1, ids, acc =>
    let new := (ids.filter fun i => !acc.contains i).eraseDups
    if new.isEmpty then acc else reach H n (new.flatMap fun i => refsB (hget H i)) (acc ++ new)

abbrev Caller := FuncId → List AV → List Blk → Option (AV × List Blk)

def rstep (call : Caller) (base : Nat) (o : AOper) (σ : St) : Option St :=
  match nres base o σ with
  | some x => some (after σ o.dst x)
  | none => if wanted o σ then match o.op with
    | .call raw f args => match target (ev σ.get f) with
      | some (g, _, _) =>
        if raw then (call g (argsOf σ f args) σ.heap).map fun x => St.put ⟨σ.slots, x.2⟩ o.dst x.1
        else if plainL (rfyL (hget σ.heap) (argsOf σ f args)) then (call g (rfyL (hget σ.heap) (argsOf σ f args)) []).map fun x => landed σ (lidsL (hget σ.heap) (argsOf σ f args)) o.dst x.1 x.2
        else none
      | none => none
    | _ => none
    else none
def rops (call : Caller) (base : Nat) : List AOper → St → Option St
  | [], σ => some σ
  | o :: r, σ => match rstep call base o σ with
    | some σ' => rops call base r σ'
    | none => none
def rdops (call : Caller) (base : Nat) (bef : List (List Nat)) : List (Nat × AOper) → List (Nat × Foot) → St → Option St
  | [], _, σ => some σ
  | (n, o) :: r, past, σ =>
    if past.all (fun p => (bef.getD n []).contains p.1 || (bef.getD p.1 []).contains n || compatB p.2 (foot base o σ)) then
      match rstep call base o σ with
      | some σ' => rdops call base bef r ((n, foot base o σ) :: past) σ'
      | none => none
    else none
def inOrder (σ : St) (n : Nat) : St := ⟨(List.range n).map fun t => (t, σ.get t), σ.heap⟩
def topSlot : List (Nat × AV) → Nat → Nat
  | [], n => n
  | (i, _) :: r, n => topSlot r (if n ≤ i then i + 1 else n)
def rfin (rs : List ARes) (b : Nat) : Exit × St → Option (AV × List Blk)
  | (e, σ) => match e with
    | .normal | .ret => (resL σ rs).bind fun vs =>
      let ids := reach σ.heap 50 ((refsL vs ++ (σ.heap.take b).flatMap refsB).filter fun i => decide (b ≤ i)) []
      if decide (b ≤ σ.heap.length) && ids.all (fun i => decide (b ≤ i) && decide (i < σ.heap.length)) && decide ids.Nodup then some (ren (keepρ b ids) (tupOf vs), (σ.keep b [] ids).heap) else none
    | _ => none
/-- calls whose worth is known otherwise -/
abbrev Prim := FuncId → List AV → Option AV
def noPrim : Prim := fun _ _ => none
def pick (prim : Prim) (g : FuncId) (args : List AV) : List Blk → Option (AV × List Blk)
  | [] => (prim g args).map fun v => (v, [])
  | _ => none
def PrimOk (P : Program) (prim : Prim) : Prop := ∀ g args v, prim g args = some v → ACall P g args [] fun r H => r = v ∧ H = []
theorem noPrim_ok (P : Program) : PrimOk P noPrim := fun _ _ _ h => by simp [noPrim] at h
/-- what an iterator hands to yield, whole numbers, by the blocks as they are -/

abbrev Iters := FuncId → List AV → List AV → List Blk → Option (List Int × List Int)
def noIters : Iters := fun _ _ _ _ => none
def isLpx (H : List Blk) (hl : Nat) : Bool := match H[hl]? with
  | some (.obj .lpx) => true
  | _ => false
theorem isLpx_iff {H : List Blk} {hl : Nat} : isLpx H hl = true ↔ H[hl]? = some (.obj .lpx) := by
  unfold isLpx
  split
  · rename_i h; simp [h]
  · rename_i h; simp; exact h
def rrounds (run : ACode → St → Option (Exit × St)) (chk : List Blk → Bool) (hl : Nat) (p : Nat) (asg body : ACode) (slots : List (Nat × AV)) : List Int → List Blk → Option (Exit × List Blk)
  | [], H => if chk H then some (.normal, H) else none
  | x :: r, H => if chk H && isLpx H hl then match asgRun asg ((p, .lit (.int .i64 x)) :: slots) with
      | some s1 => match run body ⟨s1, H⟩ with
        | some (.normal, τ) => if isLpx τ.heap hl then rrounds run chk hl p asg body slots r τ.heap else none
        | some (.ret, τ) => if isLpx τ.heap hl then some (.ret, τ.heap) else none
        | some (.exit i, τ) => if isLpx τ.heap hl then some (.exit i, τ.heap) else none
        | _ => none
      | none => none
    else none
def ItOk (P : Program) (it : Iters) : Prop := ∀ gf first cap H0 xs, it gf first cap H0 = some xs →
  IterOk P gf first cap xs.1.length (fun k _ args => ∃ x, xs.1[k]? = some x ∧ args = [.lit (.int .i64 x)]) (fun H => it gf first cap H = some xs) ∧
  ∀ H hl r s, H[hl]? = some (.obj (.lp r s)) → it gf first cap (H.set hl (.obj .lpx)) = some xs → it gf first cap H = some xs
theorem noIters_ok (P : Program) : ItOk P noIters := fun _ _ _ _ _ h => by simp [noIters] at h
def rcode (P : Program) (muts : List FuncId) (prim : Prim) (it : Iters) (top : Bool) : Nat → ACode → St → Option (Exit × St)
  | 0, _, _ => none
  | f + 1, c, σ =>
    let call : Caller := fun g args H => match pick prim g args H with
      | some r => some r
      | none => match envOf P muts g with
        | some (_, ac, rs) => match rcode P muts prim it true f ac ⟨(args.zipIdx 0).map fun (x : AV × Nat) => (x.2, x.1), H⟩ with
          | some r => rfin rs H.length r
          | none => none
        | none => none
    match c with
    | .skip => some (.normal, σ)
    | .ret => some (.ret, σ)
    | .exit i => some (.exit i, σ)
    | .reg n ops => match rops call σ.heap.length ops ⟨σ.slots, σ.heap ++ List.replicate n .resv⟩ with
      | some σ' => some (.normal, σ')
      | none => none
    | .dreg n ops bef => match rdops call σ.heap.length bef ops [] ⟨σ.slots, σ.heap ++ List.replicate n .resv⟩ with
      | some σ' => some (.normal, σ')
      | none => none
    | .seq p q => match rcode P muts prim it top f p σ with
      | some (.normal, σ') => rcode P muts prim it top f q σ'
      | r => r
    | .cond o p q => match ev σ.get o with
      | .lit (.bool true) => rcode P muts prim it top f p σ
      | .lit (.bool false) => rcode P muts prim it top f q σ
      | _ => none
    | .block id p => match rcode P muts prim it top f p σ with
      | some (.exit i, σ') => if i = id then some (.normal, σ') else some (.exit i, σ')
      | r => r
    | .range fo ps asg body => if top then match target (ev σ.get fo), ps with
        | some (gf, first, cap), [p] => match it gf first cap σ.heap with
          | some xs => match rrounds (rcode P muts prim it false f) (fun H => decide (it gf first cap H = some xs)) σ.heap.length p asg body σ.slots xs.1 (σ.heap ++ [.obj .lpx]) with
            | some (e, H) => some (e, ⟨σ.slots, H⟩)
            | none => none
          | none => none
        | _, _ => none
      else none
    | .loop p => match rcode P muts prim it top f p σ with
      | some (.normal, σ') => rcode P muts prim it top f (.loop p) (inOrder σ' (topSlot σ'.slots 0))
      | r => r

theorem look_top (t : Nat) : ∀ (l : List (Nat × AV)) (n : Nat), topSlot l n ≤ t → n ≤ t ∧ look l t = .top
  | [], n, h => ⟨h, rfl⟩
  | (i, v) :: r, n, h => by
    simp only [topSlot] at h
    obtain ⟨h1, h2⟩ := look_top t r _ h
    split at h1
    · exact ⟨by omega, by simp only [look]; rw [if_neg (by omega)]; exact h2⟩
    · exact ⟨h1, by simp only [look]; rw [if_neg (by omega)]; exact h2⟩
theorem inOrder_eqv (σ : St) : Eqv (inOrder σ (topSlot σ.slots 0)) σ := by
  refine ⟨rfl, fun t => ?_⟩
  show look ((List.range _).map fun t => (t, σ.get t)) t = _
  rw [look_map (fun t => σ.get t)]
  split
  · rfl
  · rename_i h
    rw [List.mem_range] at h
    exact (look_top t σ.slots 0 (by omega)).2.symm

section
variable {P : Program} {muts : List FuncId}
def CallOk (P : Program) (call : Caller) : Prop := ∀ g args H r H', call g args H = some (r, H') → ACall P g args H fun r' H'' => r' = r ∧ H'' = H'

theorem rstep_ok {call : Caller} (hc : CallOk P call) {base : Nat} {o : AOper} {σ σ' : St} {K : St → Prop} (h : rstep call base o σ = some σ') (hK : K σ') :
    wstep P base o σ K ∧ wstepD P base o σ K := by
  unfold rstep at h
  split at h
  · rename_i x hx
    obtain rfl := Option.some.inj h
    exact ⟨wstep_of (.inl ⟨x, hx, hK⟩), .inl ⟨x, hx, hK⟩⟩
  · split at h
    · rename_i hw
      split at h
      · rename_i raw f args hop
        split at h
        · rename_i g first cap ht
          have ha : first ++ args.map (ev σ.get) ++ cap = argsOf σ f args := by unfold argsOf; rw [ht]
          split at h
          · rename_i hraw
            rw [Option.map_eq_some_iff] at h
            obtain ⟨⟨r, H'⟩, h1, rfl⟩ := h
            refine ⟨?_, .inr (.inr ⟨hw, f, args, by rw [hop, hraw], g, first, cap, ht, _, hc _ _ _ _ _ h1, ⟨r, H', rfl, rfl⟩, fun r' H'' ⟨e1, e2⟩ => by rw [e1, e2]; exact hK⟩)⟩
            have hr : wrun P base o σ K := by
              unfold wrun
              rw [hop]
              dsimp only
              unfold wcall
              rw [ht]
              dsimp only
              rw [if_pos hraw, ha]
              exact (hc _ _ _ _ _ h1).mono fun r' H'' ⟨e1, e2⟩ => by rw [e1, e2]; exact hK
            unfold wstep
            unfold wanted at hw
            cases hg : o.guard with
            | none => exact hr
            | some p =>
              obtain ⟨g', want⟩ := p
              rw [hg] at hw
              dsimp only at hw ⊢
              split at hw
              · rename_i b hb
                rw [hb]
                dsimp only
                rw [if_pos (by simpa using hw)]; exact hr
              · simp at hw
          · rename_i hraw
            split at h
            · rename_i hp
              rw [Option.map_eq_some_iff] at h
              obtain ⟨⟨r, new⟩, h1, rfl⟩ := h
              have hD : wstepD P base o σ K := .inr (.inl ⟨hw, f, args, by rw [hop]; simp at hraw; rw [hraw], g, first, cap, ht, hp, _, hc _ _ _ _ _ h1, ⟨r, new, rfl, rfl⟩, fun r' new' ⟨e1, e2⟩ => by rw [e1, e2]; exact hK⟩)
              exact ⟨wstep_of hD, hD⟩
            · simp at h
        · simp at h
      · simp at h
    · simp at h

theorem rops_ok {call : Caller} (hc : CallOk P call) {base : Nat} {K : St → Prop} : ∀ (l : List AOper) (σ σ' : St), rops call base l σ = some σ' → K σ' → wops P base l σ K
  | [], σ, σ', h, hK => by obtain rfl := Option.some.inj h; exact hK
  | o :: r, σ, σ', h, hK => by
    simp only [rops] at h
    split at h
    · rename_i τ hτ
      exact (rstep_ok hc hτ (rops_ok hc r τ σ' h hK)).1
    · simp at h
theorem rdops_ok {call : Caller} (hc : CallOk P call) {base : Nat} {bef : List (List Nat)} {K : St → Prop} : ∀ (l : List (Nat × AOper)) (past : List (Nat × Foot)) (σ σ' : St), rdops call base bef l past σ = some σ' → K σ' → wdops P base bef l past σ K
  | [], _, σ, σ', h, hK => by obtain rfl := Option.some.inj h; exact hK
  | (n, o) :: r, past, σ, σ', h, hK => by
    simp only [rdops] at h
    split at h
    · rename_i hcd
      split at h
      · rename_i τ hτ
        simp only [List.all_eq_true, Bool.or_eq_true, List.contains_iff_mem] at hcd
        refine ⟨fun p hp h1 h2 => ?_, (rstep_ok hc hτ (rdops_ok hc r _ τ σ' h hK)).2⟩
        rcases hcd p hp with (h3 | h3) | h3
        · exact (h1 h3).elim
        · exact (h2 h3).elim
        · exact compatB_ok h3
      · simp at h
    · simp at h

theorem envOf_ok {g : FuncId} {n : Nat} {ac : ACode} {rs : List ARes} (h : envOf P muts g = some (n, ac, rs)) {args : List AV} {H : List Blk} {Q : AV → List Blk → Prop}
    (hT : T none P muts n H.length ac ⟨(args.zipIdx 0).map fun (x : AV × Nat) => (x.2, x.1), H⟩ (leave H.length rs Q)) : ACall P g args H Q := by
  unfold envOf at h
  split at h
  · rename_i fn hf
    split at h
    · rename_i c hb
      split at h
      · simp at h
      · rename_i hnm
        simp only [Option.bind_eq_some_iff, Option.map_eq_some_iff, Prod.mk.injEq] at h
        obtain ⟨ac', hc, rs', hr, rfl, rfl, rfl⟩ := h
        exact acall_of (fun cargs w => callFunc_ok hf (by simp [hb]) (by simpa using hnm) cargs w) hf hb hr rfl hc hT
    · simp at h
  · simp at h

theorem envOf_all {g : FuncId} {n : Nat} {ac : ACode} {rs : List ARes} (h : envOf P muts g = some (n, ac, rs)) {args : List AV} {H : List Blk} {Q : AV → List Blk → Prop}
    (hT : T none P muts n H.length ac ⟨(args.zipIdx 0).map fun (x : AV × Nat) => (x.2, x.1), H⟩ (leaveA rs Q)) : ACall P g args H Q := by
  unfold envOf at h
  split at h
  · rename_i fn hf
    split at h
    · rename_i c hb
      split at h
      · simp at h
      · rename_i hnm
        simp only [Option.bind_eq_some_iff, Option.map_eq_some_iff, Prod.mk.injEq] at h
        obtain ⟨ac', hc, rs', hr, rfl, rfl, rfl⟩ := h
        exact acall_all (fun cargs w => callFunc_ok hf (by simp [hb]) (by simpa using hnm) cargs w) hf hb hr rfl hc hT
    · simp at h
  · simp at h

theorem rfin_ok {rs : List ARes} {b : Nat} {e : Exit} {σ : St} {r : AV} {H' : List Blk} (h : rfin rs b (e, σ) = some (r, H')) : leave b rs (fun r' H'' => r' = r ∧ H'' = H') e σ := by
  unfold rfin at h
  have hh : (resL σ rs).bind (fun vs =>
      let ids := reach σ.heap 50 ((refsL vs ++ (σ.heap.take b).flatMap refsB).filter fun i => decide (b ≤ i)) []
      if decide (b ≤ σ.heap.length) && ids.all (fun i => decide (b ≤ i) && decide (i < σ.heap.length)) && decide ids.Nodup then some (ren (keepρ b ids) (tupOf vs), (σ.keep b [] ids).heap) else none) = some (r, H') →
      ∃ vs ids, resL σ rs = some vs ∧ b ≤ σ.heap.length ∧ (∀ id ∈ ids, b ≤ id ∧ id < σ.heap.length) ∧ ids.Nodup ∧ (ren (keepρ b ids) (tupOf vs) = r ∧ (σ.keep b [] ids).heap = H') := by
    intro h
    rw [Option.bind_eq_some_iff] at h
    obtain ⟨vs, hvs, h⟩ := h
    dsimp only at h
    split at h
    · rename_i hcd
      simp only [Bool.and_eq_true, List.all_eq_true, decide_eq_true_eq] at hcd
      simp only [Option.some.injEq, Prod.mk.injEq] at h
      exact ⟨vs, _, hvs, hcd.1.1, hcd.1.2, hcd.2, h⟩
    · simp at h
  cases e with
  | normal => exact hh h
  | ret => exact hh h
  | _ => simp at h

theorem rcode_ok {prim : Prim} (hprim : PrimOk P prim) {it : Iters} (hit : ItOk P it) (f : Nat) : ∀ (top : Bool) (c : ACode) (σ : St) (e : Exit) (σ' : St), rcode P muts prim it top f c σ = some (e, σ') → ∀ (md : Option Nat) (N b : Nat) (K : Exit → St → Prop), (top = true → md = none) → K e σ' → T md P muts N b c σ K := by
  induction f using Nat.strongRecOn with
  | _ f IH =>
  cases f with
  | zero => intro top c σ e σ' h; simp [rcode] at h
  | succ f =>
    intro top c σ e σ' h md N b K htop hK
    have ih' := IH f (Nat.lt_succ_self f)
    have ih := fun c σ e σ' (h : rcode P muts prim it top f c σ = some (e, σ')) => fun md N b K hK (hm : top = true → md = none) => ih' top c σ e σ' h md N b K hm hK
    have hcall : CallOk P (fun g args H => match pick prim g args H with
      | some r => some r
      | none => match envOf P muts g with
        | some (_, ac, rs) => match rcode P muts prim it true f ac ⟨(args.zipIdx 0).map fun (x : AV × Nat) => (x.2, x.1), H⟩ with
          | some r => rfin rs H.length r
          | none => none
        | none => none) := by
      intro g args H r H' hr
      dsimp only at hr
      split at hr
      · rename_i x hx
        obtain rfl := Option.some.inj hr
        cases H with
        | nil =>
          simp only [pick, Option.map_eq_some_iff, Prod.mk.injEq] at hx
          obtain ⟨v, hv, rfl, rfl⟩ := hx
          exact hprim _ _ _ hv
        | cons B H => simp [pick] at hx
      split at hr
      · rename_i n ac rs henv
        split at hr
        · rename_i x hx
          obtain ⟨e', τ⟩ := x
          exact envOf_ok henv (ih' true _ _ _ _ hx none _ _ _ (fun _ => rfl) (rfin_ok hr))
        · simp at hr
      · simp at hr
    cases c with
    | skip => simp only [rcode, Option.some.injEq, Prod.mk.injEq] at h; obtain ⟨rfl, rfl⟩ := h; exact T_skip hK
    | ret => simp only [rcode, Option.some.injEq, Prod.mk.injEq] at h; obtain ⟨rfl, rfl⟩ := h; exact T_ret hK
    | exit i => simp only [rcode, Option.some.injEq, Prod.mk.injEq] at h; obtain ⟨rfl, rfl⟩ := h; exact T_exit hK
    | reg n ops =>
      simp only [rcode] at h
      split at h
      · rename_i τ hτ
        simp only [Option.some.injEq, Prod.mk.injEq] at h; obtain ⟨rfl, rfl⟩ := h
        exact T_reg (rops_ok hcall _ _ _ hτ hK)
      · simp at h
    | dreg n ops bef =>
      simp only [rcode] at h
      split at h
      · rename_i τ hτ
        simp only [Option.some.injEq, Prod.mk.injEq] at h; obtain ⟨rfl, rfl⟩ := h
        exact T_dreg (rdops_ok hcall _ _ _ _ hτ hK)
      · simp at h
    | seq p q =>
      simp only [rcode] at h
      refine T_seq ?_
      split at h
      · rename_i τ hτ
        exact ih _ _ _ _ hτ _ _ _ _ (show thenK _ K .normal τ from ih _ _ _ _ h _ _ _ _ hK htop) htop
      · rename_i hne
        refine ih _ _ _ _ h _ _ _ _ ?_ htop
        cases e with
        | normal => exact (hne _ h).elim
        | _ => exact hK
    | cond o p q =>
      simp only [rcode] at h
      split at h
      · rename_i hv
        exact T_cond hv (fun _ => ih _ _ _ _ h _ _ _ _ hK htop) (fun h => by simp at h)
      · rename_i hv
        exact T_cond hv (fun h => by simp at h) (fun _ => ih _ _ _ _ h _ _ _ _ hK htop)
      · simp at h
    | block id p =>
      simp only [rcode] at h
      refine T_block ?_
      split at h
      · rename_i i τ hτ
        refine ih _ _ _ _ hτ _ _ _ _ ?_ htop
        simp only [blockK]
        split at h
        · rename_i hi
          simp only [Option.some.injEq, Prod.mk.injEq] at h; obtain ⟨rfl, rfl⟩ := h
          rw [if_pos hi]; exact hK
        · rename_i hi
          simp only [Option.some.injEq, Prod.mk.injEq] at h; obtain ⟨rfl, rfl⟩ := h
          rw [if_neg hi]; exact hK
      · rename_i hne
        refine ih _ _ _ _ h _ _ _ _ ?_ htop
        cases e with
        | exit i => exact (hne _ _ h).elim
        | _ => exact hK
    | range fo ps asg body =>
      simp only [rcode] at h
      split at h
      · rename_i htp
        obtain rfl := htop htp
        split at h
        · rename_i gf first cap p htar
          split at h
          · rename_i xs hxs
            split at h
            · rename_i e0 H0 hrr
              simp only [Option.some.injEq, Prod.mk.injEq] at h
              obtain ⟨rfl, rfl⟩ := h
              obtain ⟨hio, hins⟩ := hit _ _ _ _ _ hxs
              refine T_range (n := xs.1.length) (fun k H => it gf first cap H = some xs ∧ rrounds (rcode P muts prim it false f) (fun H => decide (it gf first cap H = some xs)) σ.heap.length p asg body σ.slots (xs.1.drop k) H = some (e0, H0)) (fun e H => e = e0 ∧ H = H0) htar hio (fun k H h => h.1) (fun H r s h1 h2 => hins H _ r s h2 h1) (fun k H r s args h1 _ => h1) ?_ ?_ ?_ ?_
              · have hc0 : it gf first cap (σ.heap ++ [.obj .lpx]) = some xs := by
                  obtain ⟨xs, key⟩ := xs
                  cases xs with
                  | nil => simp only [rrounds] at hrr; split at hrr; rename_i hc; simpa using hc; simp at hrr
                  | cons x r => simp only [rrounds] at hrr; split at hrr; rename_i hc; simp only [Bool.and_eq_true, decide_eq_true_eq] at hc; exact hc.1; simp at hrr
                exact ⟨hc0, by simpa using hrr⟩
              · rintro k H args hk ⟨h1, h2⟩ hl ⟨x, hx, rfl⟩
                refine ⟨rfl, ?_⟩
                have hd : xs.1.drop k = x :: xs.1.drop (k + 1) := by
                  rw [List.drop_eq_getElem_cons hk]
                  rw [List.getElem?_eq_getElem hk] at hx
                  rw [Option.some.inj hx]
                rw [hd] at h2
                simp only [rrounds] at h2
                split at h2
                · split at h2
                  · rename_i s1 hs1
                    refine ⟨s1, by simpa using hs1, fun l => ?_⟩
                    split at h2
                    · rename_i τ hτ
                      split at h2
                      · rename_i hlx
                        refine ih' false _ _ _ _ hτ _ _ _ _ (by simp) ⟨isLpx_iff.1 hlx, ?_, h2⟩
                        cases hxd : xs.1.drop (k + 1) with
                        | nil => rw [hxd] at h2; simp only [rrounds] at h2; split at h2; rename_i hc; simpa using hc; simp at h2
                        | cons y r => rw [hxd] at h2; simp only [rrounds] at h2; split at h2; rename_i hc; simp only [Bool.and_eq_true, decide_eq_true_eq] at hc; exact hc.1; simp at h2
                      · simp at h2
                    · rename_i τ hτ
                      split at h2
                      · rename_i hlx
                        simp only [Option.some.injEq, Prod.mk.injEq] at h2
                        exact ih' false _ _ _ _ hτ _ _ _ _ (by simp) ⟨isLpx_iff.1 hlx, h2⟩
                      · simp at h2
                    · rename_i i τ hτ
                      split at h2
                      · rename_i hlx
                        simp only [Option.some.injEq, Prod.mk.injEq] at h2
                        exact ih' false _ _ _ _ hτ _ _ _ _ (by simp) ⟨isLpx_iff.1 hlx, h2⟩
                      · simp at h2
                    · simp at h2
                  · simp at h2
                · simp at h2
              · rintro H ⟨h1, h2⟩
                rw [List.drop_of_length_le (Nat.le_refl _)] at h2
                simp only [rrounds] at h2
                split at h2
                · simp only [Option.some.injEq, Prod.mk.injEq] at h2
                  obtain ⟨rfl, rfl⟩ := h2
                  exact hK
                · simp at h2
              · rintro e H ⟨rfl, rfl⟩
                exact hK
            · simp at h
          · simp at h
        · simp at h
      · simp at h
    | loop p =>
      refine T_loop (fun k s => k ≤ f + 1 ∧ ∃ e' s', rcode P muts prim it top k (.loop p) s = some (e', s') ∧ K e' s') (f + 1) ⟨Nat.le_refl _, e, σ', h, hK⟩ ?_
      rintro k s ⟨hk, e', s', h', hK'⟩
      cases k with
      | zero => simp [rcode] at h'
      | succ m =>
        have ihm := fun c σ e σ' (h : rcode P muts prim it top m c σ = some (e, σ')) => fun md N b K hK (hm : top = true → md = none) => IH m (by omega) top c σ e σ' h md N b K hm hK
        simp only [rcode] at h'
        split at h'
        · rename_i τ hτ
          refine ihm _ _ _ _ hτ _ _ _ _ ?_ htop
          show ∃ n', n' < m + 1 ∧ ∃ s'', Weak N b τ s'' ∧ _
          exact ⟨m, Nat.lt_succ_self m, inOrder τ (topSlot τ.slots 0), fun C0 C a _ hR => ⟨C, rfl, eqv_rel (inOrder_eqv τ) hR⟩, by omega, e', s', h', hK'⟩
        · rename_i hne
          refine ihm _ _ _ _ h' _ _ _ _ ?_ htop
          cases e' with
          | normal => exact (hne _ h').elim
          | _ => exact hK'

/-- a call, run -/
def rcall (P : Program) (muts : List FuncId) (prim : Prim) (it : Iters) (f : Nat) (g : FuncId) (args : List AV) (H : List Blk) : Option (AV × List Blk) :=
  match envOf P muts g with
  | some (_, ac, rs) => match rcode P muts prim it true f ac ⟨(args.zipIdx 0).map fun (x : AV × Nat) => (x.2, x.1), H⟩ with
    | some r => rfin rs H.length r
    | none => none
  | none => none
theorem rcall_ok {prim : Prim} (hprim : PrimOk P prim) {it : Iters} (hit : ItOk P it) {f : Nat} {g : FuncId} {args : List AV} {H H' : List Blk} {r : AV} (h : rcall P muts prim it f g args H = some (r, H')) : ACall P g args H fun r' H'' => r' = r ∧ H'' = H' := by
  unfold rcall at h
  split at h
  · rename_i n ac rs henv
    split at h
    · rename_i x hx
      obtain ⟨e', τ⟩ := x
      exact envOf_ok henv (rcode_ok hprim hit f true _ _ _ _ hx none _ _ _ (fun _ => rfl) (rfin_ok h))
    · simp at h
  · simp at h
end
end Go.Abs
/- Rules for walks by hand. -/
namespace Go.Abs
open Go.RowKit

theorem wrapI {n : Int} (h : -9223372036854775808 ≤ n) (h2 : n ≤ 9223372036854775807) : IntKind.i64.wrap n = n := by rw [IntKind.wrap_i64]; omega

/-- a call that gets values without blocks of ours, with blocks about -/
theorem acall_frame {P : Program} {g : FuncId} {args : List AV} {H : List Blk} {Q : AV → List Blk → Prop} (hp : plainL args = true) (h : ACall P g args [] Q) :
    ACall P g args H fun r H' => ∃ r0 new, Q r0 new ∧ r = ren (shiftρ H.length) r0 ∧ H' = H ++ new.map (renB (shiftρ H.length)) := by
  refine ⟨h.1, fun C cargs hH hR hl => ?_⟩
  subst hH
  have hiso := ConcL.plain (C' := ⟨[], [], C.w, C.bad⟩) (C := C) rfl (fun b hb => by rintro ((⟨id, _, _, _, _, h1, _⟩ | ⟨id, _, h1, _, _⟩) | h1); simp at h1; simp at h1; exact hb h1) _ _ hp hl
  have hRiso : HeapRel ⟨[], [], C.w, C.bad⟩ := by
    refine ⟨rfl, fun id _ _ _ _ h1 => by simp at h1, fun id id' _ _ _ _ _ _ _ _ _ _ _ h1 => by simp at h1, ?_, fun id _ h1 => by simp at h1, fun id _ _ _ _ _ _ _ _ _ h1 => by simp at h1, fun id _ _ h1 => by simp at h1, fun p hp => ⟨.inr (hR.gl p hp).1, (hR.gl p hp).2⟩⟩
    rintro b (h1 | h1)
    · obtain ⟨x, h2, _⟩ := own_holds hR h1
      exact lt_of_heap h2
    · exact hR.prot b h1
  refine (h.2 _ _ rfl hRiso hiso).mono ?_
  rintro e w' ⟨u, r, new, m', rfl, hK, hs, hR2, hc⟩
  obtain ⟨h5, h6, h7⟩ := frame_call hR hs hR2
  exact ⟨u, _, _, _, rfl, ⟨r, new, hK, rfl, rfl⟩, h5, h6, h7 r u hc⟩

section
variable {P : Program} {base : Nat} {σ : St} {K : St → Prop}
theorem wstepD_of {o : AOper} (hc : o.op.isCall = false) (h : wstep P base o σ K) : wstepD P base o σ K := by
  have hrun : wrun P base o σ K → ∃ x, (if o.op.makes = true → fresh? σ.heap (base + o.fr) = true then aop (base + o.fr) σ.get (hget σ.heap) o.op else none) = some x ∧ K (after σ o.dst x) := fun h => by
    unfold wrun at h
    split at h
    · rename_i hop; rw [hop] at hc; simp [AOp.isCall] at hc
    · obtain ⟨h1, h2⟩ := h
      rw [if_pos fun hm => fresh?_iff.2 (h1 hm)]
      split at h2
      · rename_i v ws hv; exact ⟨(v, ws), hv, h2⟩
      · exact h2.elim
  unfold wstep at h
  left
  unfold nres
  cases hg : o.guard with
  | none => rw [hg] at h; exact hrun h
  | some p =>
    obtain ⟨g, want⟩ := p
    rw [hg] at h
    dsimp only at h ⊢
    split at h
    · rename_i b hb
      rw [hb]
      dsimp only
      split at h
      · rename_i hbw; rw [if_pos hbw]; exact hrun h
      · rename_i hbw; rw [if_neg hbw]; exact ⟨_, rfl, h⟩
    · rename_i xs hb; rw [hb]; exact ⟨_, rfl, h⟩
    · exact h.elim

/-- no operation writes or calls -/
def calm (l : List (Nat × AOper)) : Bool := l.all fun p => decide (kind p.2.op = .S) || decide (kind p.2.op = .R)
theorem kind_call {op : AOp} (h : op.isCall = true) : kind op = .C := by cases op <;> simp [AOp.isCall] at h; rfl
theorem wdops_calm {bef : List (List Nat)} : ∀ (l : List (Nat × AOper)) (past : List (Nat × Foot)) (σ : St), calm l = true → (∀ p ∈ past, p.2.wr = [] ∧ p.2.call = none ∧ p.2.raw = false) → wops P base (l.map (·.2)) σ K → wdops P base bef l past σ K
  | [], _, _, _, _, h => h
  | (n, o) :: r, past, σ, hc, hp, h => by
    simp only [calm, List.all_cons, Bool.and_eq_true, Bool.or_eq_true, decide_eq_true_eq] at hc
    have hnc : o.op.isCall = false := by
      cases hcc : o.op.isCall with
      | false => rfl
      | true => rw [kind_call hcc] at hc; simp at hc
    have hf : (foot base o σ).wr = [] ∧ (foot base o σ).call = none ∧ (foot base o σ).raw = false := by
      unfold foot wids
      refine ⟨?_, ?_, ?_⟩
      · rcases hc.1 with h | h <;> simp [h]
      · cases hop : o.op <;> simp only [] <;> rw [hop] at hnc; simp [AOp.isCall] at hnc
      · cases hop : o.op <;> simp only [AOp.isRaw] <;> rw [hop] at hnc; simp [AOp.isCall] at hnc
    refine ⟨fun p hpp _ _ => ?_, wstepD_mono (fun s hs => wdops_calm r _ s hc.2 (fun p hpp => ?_) hs) (wstepD_of hnc h)⟩
    · obtain ⟨h1, h2, h3⟩ := hp p hpp
      refine ⟨fun x hx => ?_, fun x hx => ?_, fun n hn => ?_, fun n hn => ?_, h3, hf.2.2⟩
      · rw [h1] at hx; simp at hx
      · rw [hf.1] at hx; simp at hx
      · rw [h2] at hn; simp at hn
      · rw [hf.2.1] at hn; simp at hn
    · rcases List.mem_cons.1 hpp with rfl | hpp
      · exact hf
      · exact hp p hpp
end

section
variable {P : Program} {muts : List FuncId} {N b : Nat} {σ : St} {K : Exit → St → Prop} {md : Option Nat}
theorem T_calm {n : Nat} {l : List (Nat × AOper)} {bef : List (List Nat)} (hc : calm l = true) (h : wops P σ.heap.length (l.map (·.2)) ⟨σ.slots, σ.heap ++ List.replicate n .resv⟩ (K .normal)) : T md P muts N b (.dreg n l bef) σ K :=
  T_dreg (wdops_calm l [] _ hc (by simp) h)

/-- some slots alone -/
def St.only (σ : St) (ts : List Nat) : St := ⟨ts.map fun t => (t, σ.get t), σ.heap⟩
theorem weak_only (ts : List Nat) : Weak N b σ (σ.only ts) := fun C0 C a _ hR => ⟨C, rfl, hR.heap, hR.rel, hR.step, ⟨fun t => by
  show Conc C (look (ts.map fun t => (t, σ.get t)) t) _
  rw [look_map (fun t => σ.get t)]
  split
  · exact hR.slots.at_ t
  · trivial⟩, hR.defers, hR.size⟩
theorem T_loop_only {p : ACode} (ts : List Nat) (I : Nat → St → Prop) (n : Nat) (h0 : I n (σ.only ts)) (h : ∀ n s, I n s → T md P muts N b p s (thenK (fun s' => ∃ n', n' < n ∧ I n' (s'.only ts)) K)) : T md P muts N b (.loop p) σ K :=
  T_weak (weak_only ts) (T_loop I n h0 fun n s hI => T_mono (h n s hI) fun e s' hk => by
    cases e with
    | normal => obtain ⟨n', h1, h2⟩ := hk; exact ⟨n', h1, _, weak_only ts, h2⟩
    | _ => exact hk)
end
end Go.Abs
