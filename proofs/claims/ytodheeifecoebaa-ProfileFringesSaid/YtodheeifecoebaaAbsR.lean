/- A range over a function. -/
import Derived.Test.YtodheeifecoebaaAbs18
set_option linter.all false
set_option linter.unusedVariables false
set_option linter.unusedSimpArgs false
set_option linter.unusedSectionVars false
namespace Go.Abs
open Go.RowKit

/-- an iterator that makes no blocks: what it hands to yield, one after the other; what it needs of the blocks -/
def IterOk (P : Program) (gf : FuncId) (first cap : List AV) (n : Nat) (E : Nat → List Blk → List AV → Prop) (Bc : List Blk → Prop) : Prop :=
  ∀ (hl : Nat) (J : Nat → List Blk → Prop) (Jx : List Blk → Prop) (H : List Blk),
    (∀ k H', J k H' → (∃ r s, H'[hl]? = some (.obj (.lp r s))) ∧ Bc H') →
    (∀ k H' args, k < n → J k H' → E k H' args → AYield P hl args H' fun r H'' => (r = boolV true ∧ J (k + 1) H'') ∨ (r = boolV false ∧ Jx H'')) →
    J 0 H → ACall P gf (first ++ [.mp hl] ++ cap) H fun _ H' => J n H' ∨ Jx H'

/-- how a round is left -/
def roundK (hl : Nat) (I1 : List Blk → Prop) (X : Exit → List Blk → Prop) : Exit → St → Prop
  | .normal, τ => τ.heap[hl]? = some (.obj .lpx) ∧ I1 τ.heap
  | .ret, τ => τ.heap[hl]? = some (.obj .lpx) ∧ X .ret τ.heap
  | .exit id, τ => τ.heap[hl]? = some (.obj .lpx) ∧ X (.exit id) τ.heap
  | _, _ => False
def jumpOf : Exit → Option Code
  | .ret => some .ret
  | .exit id => some (.exit id)
  | _ => none
/-- an assignment to the loop's variables: slots alone -/
def asgOps : List AOper → List (Nat × AV) → Option (List (Nat × AV))
  | [], s => some s
  | ⟨some d, .mv (.tmp t), none, _⟩ :: r, s => asgOps r ((d, look s t) :: s)
  | _, _ => none
def asgRun : ACode → List (Nat × AV) → Option (List (Nat × AV))
  | .reg 0 ops, s => asgOps ops s
  | .skip, s => some s
  | _, _ => none

section
variable {P : Program} {N b : Nat} {C0 C : Ctx} {σ : St} {a : Act}

/-- a block that is no one's is made -/
theorem extra_ok (h : Rel N C0 σ C a) (x : Obj) : Rel N C0 σ ⟨C.H, C.m, C.w.alloc x, C.prot⟩ a := by
  have hheap : ∀ k, k < C.w.heap.size → (C.w.alloc x).heap[k]? = C.w.heap[k]? := fun k hk => Below.heap_alloc _ _ _ hk
  have hs : Step C ⟨C.H, C.m, C.w.alloc x, C.prot⟩ :=
    ⟨rfl, rfl, rfl, rfl, by simp, Nat.le_refl _, fun k hk _ => hheap k hk, fun k c e f hx => ⟨c, f, (hheap k (lt_of_heap hx)).trans hx, rfl⟩, fun _ h => .inl h,
      fun _ B hB hr => ⟨⟨B, hB, hr⟩, fun own' _ _ els' h => ⟨own', els', by dsimp only at h; rw [hB] at h; exact Option.some.inj h, rfl, fun h => h, rfl⟩⟩, fun _ o h => ⟨o, h, rfl, rfl⟩, fun _ o B h h' _ => ⟨o, by dsimp only at h; rw [h] at h'; exact (Option.some.inj h').symm⟩⟩
  refine ⟨h.heap, ⟨h.rel.len, ?_, h.rel.inj, fun k hk => by have := h.rel.prot k hk; simp; omega, ?_, h.rel.oinj, fun id r s ho t => Conc.mono hs _ _ (h.rel.lps id r s ho t)⟩, h.step.trans hs, ⟨fun t => Conc.mono hs _ _ (h.slots.at_ t)⟩, h.defers.mono h.rel hs, h.size⟩
  · intro id own nil sz els h1
    rcases h.rel.blk id own nil sz els h1 with h3 | ⟨hn, b, base, c, e, h3, h4, h5, h6⟩
    · exact .inl h3
    · have hlt := lt_of_heap h5
      exact .inr ⟨hn, b, base, c, e, h3, h4, (hheap b hlt).trans h5, RowsAt.keep hs els b base sz (fun o _ _ => World.cell?_of_block (w := C.w) (hheap b hlt)) h6⟩
  · intro id o ho hx
    obtain ⟨b, y, h1, h2, h3, h4⟩ := h.rel.obj id o ho hx
    exact ⟨b, y, h1, h2, (hheap b (lt_of_heap h3)).trans h3, h4⟩

/-- the record is turned -/
theorem rel_setO (h : Rel N C0 σ C a) {hl l : Nat} {r r' : Loop} {s : List (Nat × AV)} (hH : σ.heap[hl]? = some (.obj (.lp r s))) (hm : C.m[hl]? = some (some (l, 0))) (ht : r'.tmps = r.tmps) :
    C.w.heap[l]? = some (.loop r) ∧ Step C ⟨σ.heap.set hl (.obj (.lp r' s)), C.m, C.w.putObj l (.loop r'), C.prot⟩ ∧ Rel N C0 ⟨σ.slots, σ.heap.set hl (.obj (.lp r' s))⟩ ⟨σ.heap.set hl (.obj (.lp r' s)), C.m, C.w.putObj l (.loop r'), C.prot⟩ a := by
  rw [← h.heap] at hH
  obtain ⟨b, x, h1, h2, h3, h4⟩ := h.rel.obj hl _ hH (by simp)
  rw [hm] at h1
  simp at h1
  subst h1
  have hx : x = .loop r := by
    cases x <;> try exact h4.elim
    rename_i q
    have : q = r := h4
    rw [this]
  subst hx
  refine ⟨h3, ?_⟩
  obtain ⟨g1, g2⟩ := setO_ok h.rel (hnx := by simp) (hnx' := by simp) (ob' := .lp r' s) (x' := .loop r') (w' := C.w.putObj l (.loop r')) hH hm h3 rfl rfl rfl (fun r2 s2 he t => by
    simp only [Ob.lp.injEq] at he
    obtain ⟨rfl, rfl⟩ := he
    rw [ht]
    exact h.rel.lps hl r _ hH t) rfl rfl rfl rfl
  rw [h.heap] at g1 g2
  exact ⟨g1, rfl, g2, h.step.trans g1, ⟨fun t => Conc.mono g1 _ _ (h.slots.at_ t)⟩, h.defers.mono h.rel g1, h.size⟩

/-- the record is put out of sight -/
theorem seal_ok (hR : HeapRel C) {hl : Nat} {r : Loop} {s : List (Nat × AV)} (hH : C.H[hl]? = some (.obj (.lp r s))) :
    Step C ⟨C.H.set hl (.obj .lpx), C.m, C.w, C.prot⟩ ∧ HeapRel ⟨C.H.set hl (.obj .lpx), C.m, C.w, C.prot⟩ := by
  have hl' := lt_of_get hH
  have hget : ∀ (k : Nat) B, B ≠ Blk.obj .lpx → (C.H.set hl (.obj .lpx))[k]? = some B → C.H[k]? = some B := fun k B hB h => by
    by_cases hk : k = hl
    · subst hk; rw [set_get_eq hl'] at h; exact (hB (Option.some.inj h).symm).elim
    · rw [set_get_ne (Ne.symm hk)] at h; exact h
  have hs : Step C ⟨C.H.set hl (.obj .lpx), C.m, C.w, C.prot⟩ := by
    refine ⟨rfl, rfl, rfl, rfl, Nat.le_refl _, by simp, fun _ _ _ => rfl, fun _ c _ f h => ⟨c, f, h, rfl⟩, ?_, ?_, ?_, ?_⟩
    · rintro b (⟨id, nil, sz, els, base, h1, h2⟩ | ⟨id, o, h1, h0, h2⟩)
      · exact .inl (.inl ⟨id, nil, sz, els, base, hget id _ (by simp) h1, h2⟩)
      · exact .inl (.inr ⟨id, o, hget id _ (by simpa using h0) h1, h0, h2⟩)
    · intro id B hB hr
      by_cases hk : id = hl
      · subst hk
        refine ⟨⟨_, set_get_eq hl', by simp⟩, fun own' nil' sz' els' h => ?_⟩
        dsimp only at h
        rw [set_get_eq hl'] at h
        simp at h
      · refine ⟨⟨B, by dsimp only; rw [set_get_ne (Ne.symm hk)]; exact hB, hr⟩, fun own' nil' sz' els' h => ?_⟩
        dsimp only at h
        rw [set_get_ne (Ne.symm hk), hB] at h
        exact ⟨own', els', Option.some.inj h, rfl, fun h => h, rfl⟩
    · intro id o ho
      by_cases hk : id = hl
      · subst hk
        rw [hH] at ho
        simp at ho
        subst ho
        exact ⟨.lpx, set_get_eq hl', rfl, rfl⟩
      · exact ⟨o, by dsimp only; rw [set_get_ne (Ne.symm hk)]; exact ho, rfl, rfl⟩
    · intro id o B ho hB hr
      by_cases hk : id = hl
      · subst hk; rw [hH] at hB; exact ⟨_, (Option.some.inj hB).symm⟩
      · dsimp only at ho
        rw [set_get_ne (Ne.symm hk), hB] at ho
        exact ⟨o, Option.some.inj ho⟩
  refine ⟨hs, ⟨by simp [hR.len], ?_, ?_, hR.prot, ?_, ?_, ?_⟩⟩
  · intro id own nil sz els h
    rcases hR.blk id own nil sz els (hget id _ (by simp) h) with h1 | ⟨hn, b, base, c, e, h1, h2, h3, h4⟩
    · exact .inl h1
    · exact .inr ⟨hn, b, base, c, e, h1, h2, h3, RowsAt.keep hs els b base sz (fun _ _ _ => rfl) h4⟩
  · intro id id' nil sz1 els1 own' nil' sz2 els2 b base base' hne h1 h2 h3 h4
    exact hR.inj id id' nil sz1 els1 own' nil' sz2 els2 b base base' hne (hget id _ (by simp) h1) (hget id' _ (by simp) h2) h3 h4
  · intro id o ho hx
    exact hR.obj id o (hget id _ (by simpa using hx) ho) hx
  · intro id id' o o' b base base' hne hx hx' h1 h2 h3 h4
    exact hR.oinj id id' o o' b base base' hne hx hx' (hget id _ (by simpa using hx) h1) (hget id' _ (by simpa using hx') h2) h3 h4
  · intro id r s ho t
    exact Conc.mono hs _ _ (hR.lps id r s (hget id _ (by simp) ho) t)

/-- and back in sight -/
theorem unseal_ok {C4 C5 : Ctx} (hR4 : HeapRel C4) {hl l : Nat} {r : Loop} {s : List (Nat × AV)} (hH : C4.H[hl]? = some (.obj (.lp r s))) (hm : C4.m[hl]? = some (some (l, 0))) (hst : Step ⟨C4.H.set hl (.obj .lpx), C4.m, C4.w, C4.prot⟩ C5) (hR5 : HeapRel C5) (hx5 : C5.H[hl]? = some (.obj .lpx)) :
    Step C4 ⟨C5.H.set hl (.obj (.lp r s)), C5.m, C5.w, C5.prot⟩ ∧ HeapRel ⟨C5.H.set hl (.obj (.lp r s)), C5.m, C5.w, C5.prot⟩ := by
  have hl4 := lt_of_get hH
  have hl5 := lt_of_get hx5
  obtain ⟨b, x, hb1, hb2, hb3, hb4⟩ := hR4.obj hl _ hH (by simp)
  rw [hm] at hb1
  simp at hb1
  subst hb1
  have hno : ¬ Ctx.own ⟨C4.H.set hl (.obj .lpx), C4.m, C4.w, C4.prot⟩ l := by
    rintro (⟨id, nil, sz, els, base, h1, h2⟩ | ⟨id, o, h1, h0, h2⟩)
    · have hk : id ≠ hl := by rintro rfl; dsimp only at h1; rw [set_get_eq hl4] at h1; simp at h1
      dsimp only at h1 h2
      rw [set_get_ne (Ne.symm hk)] at h1
      rcases hR4.blk id true nil sz els h1 with ⟨h3, _⟩ | ⟨_, b', base', c, e, h3, _, h4, _⟩
      · rw [h2] at h3; simp at h3
      · rw [h2] at h3; simp at h3; obtain ⟨rfl, rfl⟩ := h3
        rw [hb3] at h4
        obtain rfl := Option.some.inj h4
        exact Ob.not_cells hb4
    · have hk : id ≠ hl := by rintro rfl; dsimp only at h1; rw [set_get_eq hl4] at h1; simp at h1; exact h0 h1.symm
      dsimp only at h1 h2
      rw [set_get_ne (Ne.symm hk)] at h1
      exact hR4.oinj id hl o _ l 0 0 hk h0 (by simp) h1 hH h2 hm
  have hheap : C5.w.heap[l]? = some x := (hst.blk l (lt_of_heap hb3) hno).trans hb3
  have hm5 : C5.m[hl]? = some (some (l, 0)) := by
    obtain ⟨_, _, h2, _⟩ := hst.objs hl .lpx (set_get_eq hl4)
    exact h2.trans hm
  have hno5 : ¬ C5.own l := fun h => by
    rcases hst.own l h with h | h
    · exact hno h
    · have := lt_of_heap hb3; dsimp only at h; omega
  have hsub : ∀ k, Ctx.own ⟨C4.H.set hl (.obj .lpx), C4.m, C4.w, C4.prot⟩ k → C4.own k := by
    obtain ⟨hs, _⟩ := seal_ok hR4 hH
    intro k hk
    rcases hs.own k hk with h | h
    · exact h
    · obtain ⟨y, hy, _⟩ := own_holds (seal_ok hR4 hH).2 hk
      have := lt_of_heap hy
      dsimp only at this
      omega
  have hget : ∀ (k : Nat) B, (∀ o, B ≠ Blk.obj o) → (C5.H.set hl (.obj (.lp r s)))[k]? = some B → C5.H[k]? = some B := fun k B hB h => by
    by_cases hk : k = hl
    · subst hk; rw [set_get_eq hl5] at h; exact (hB _ (Option.some.inj h).symm).elim
    · rw [set_get_ne (Ne.symm hk)] at h; exact h
  have hw : StepW C5 ⟨C5.H.set hl (.obj (.lp r s)), C5.m, C5.w, C5.prot⟩ := by
    refine ⟨rfl, Nat.le_refl _, fun _ _ _ _ => rfl, fun _ c _ f h => ⟨c, f, h, rfl⟩, ?_, ?_, ?_, ?_⟩
    · rintro b hc (⟨id, nil, sz, els, base, h1, h2⟩ | ⟨id, o, h1, h0, h2⟩)
      · exact .inl ⟨id, nil, sz, els, base, hget id _ (by simp) h1, h2⟩
      · by_cases hk : id = hl
        · subst hk
          dsimp only at h2
          rw [hm5] at h2
          simp at h2
          subst h2
          obtain ⟨c, e, f, hc⟩ := hc
          rw [hheap] at hc
          obtain rfl := Option.some.inj hc
          exact (Ob.not_cells hb4).elim
        · dsimp only at h1
          rw [set_get_ne (Ne.symm hk)] at h1
          exact .inr ⟨id, o, h1, h0, h2⟩
    · intro id B hB hr
      by_cases hk : id = hl
      · subst hk
        refine ⟨⟨_, set_get_eq hl5, by simp⟩, fun own' nil' sz' els' h => ?_⟩
        dsimp only at h
        rw [set_get_eq hl5] at h
        simp at h
      · refine ⟨⟨B, by dsimp only; rw [set_get_ne (Ne.symm hk)]; exact hB, hr⟩, fun own' nil' sz' els' h => ?_⟩
        dsimp only at h
        rw [set_get_ne (Ne.symm hk), hB] at h
        exact ⟨own', els', Option.some.inj h, rfl, fun h => h, rfl⟩
    · intro id o ho
      by_cases hk : id = hl
      · subst hk
        rw [hx5] at ho
        simp at ho
        subst ho
        exact ⟨_, set_get_eq hl5, rfl, rfl⟩
      · exact ⟨o, by dsimp only; rw [set_get_ne (Ne.symm hk)]; exact ho, rfl, rfl⟩
    · intro id o B ho hB hr
      by_cases hk : id = hl
      · subst hk; rw [hx5] at hB; exact ⟨_, (Option.some.inj hB).symm⟩
      · dsimp only at ho
        rw [set_get_ne (Ne.symm hk), hB] at ho
        exact ⟨o, Option.some.inj ho⟩
  have hstep : Step C4 ⟨C5.H.set hl (.obj (.lp r s)), C5.m, C5.w, C5.prot⟩ := by
    refine ⟨hst.os, hst.tape, hst.output, hst.prot, hst.size, by have := hst.hlen; simpa using this, fun b hb hn => hst.blk b hb (fun h => hn (hsub b h)), hst.grow, ?_, ?_, ?_, ?_⟩
    · rintro b (⟨id, nil, sz, els, base, h1, h2⟩ | ⟨id, o, h1, h0, h2⟩)
      · rcases hst.own b (.inl ⟨id, nil, sz, els, base, hget id _ (by simp) h1, h2⟩) with h | h
        · exact .inl (hsub b h)
        · exact .inr h
      · by_cases hk : id = hl
        · subst hk
          dsimp only at h2
          rw [hm5] at h2
          simp at h2
          subst h2
          exact .inl (.inr ⟨id, _, hH, by simp, hm⟩)
        · dsimp only at h1
          rw [set_get_ne (Ne.symm hk)] at h1
          rcases hst.own b (.inr ⟨id, o, h1, h0, h2⟩) with h | h
          · exact .inl (hsub b h)
          · exact .inr h
    · intro id B hB hr
      by_cases hk : id = hl
      · subst hk
        refine ⟨⟨_, set_get_eq hl5, by simp⟩, fun own' nil' sz' els' h => ?_⟩
        dsimp only at h
        rw [set_get_eq hl5] at h
        simp at h
      · have hB' : (C4.H.set hl (.obj .lpx))[id]? = some B := by rw [set_get_ne (Ne.symm hk)]; exact hB
        obtain ⟨⟨B', h1, h2⟩, h3⟩ := hst.ids id B hB' hr
        refine ⟨⟨B', by dsimp only; rw [set_get_ne (Ne.symm hk)]; exact h1, h2⟩, fun own' nil' sz' els' h => ?_⟩
        dsimp only at h
        rw [set_get_ne (Ne.symm hk)] at h
        exact h3 own' nil' sz' els' h
    · intro id o ho
      by_cases hk : id = hl
      · subst hk
        rw [hH] at ho
        simp at ho
        subst ho
        exact ⟨_, set_get_eq hl5, hm5.trans hm.symm, rfl⟩
      · have ho' : (C4.H.set hl (.obj .lpx))[id]? = some (.obj o) := by rw [set_get_ne (Ne.symm hk)]; exact ho
        obtain ⟨o', h1, h2, h3⟩ := hst.objs id o ho'
        exact ⟨o', by dsimp only; rw [set_get_ne (Ne.symm hk)]; exact h1, h2, h3⟩
    · intro id o B ho hB hr
      by_cases hk : id = hl
      · subst hk; rw [hH] at hB; exact ⟨_, (Option.some.inj hB).symm⟩
      · dsimp only at ho
        rw [set_get_ne (Ne.symm hk)] at ho
        exact hst.objr id o B ho (by dsimp only; rw [set_get_ne (Ne.symm hk)]; exact hB) hr
  refine ⟨hstep, ⟨by simp [hR5.len], ?_, ?_, hR5.prot, ?_, ?_, ?_⟩⟩
  · intro id own nil sz els h
    rcases hR5.blk id own nil sz els (hget id _ (by simp) h) with h1 | ⟨hn, b, base, c, e, h1, h2, h3, h4⟩
    · exact .inl h1
    · exact .inr ⟨hn, b, base, c, e, h1, h2, h3, RowsAt.keepW hw els b base sz (fun _ _ _ => rfl) h4⟩
  · intro id id' nil sz1 els1 own' nil' sz2 els2 b base base' hne h1 h2 h3 h4
    exact hR5.inj id id' nil sz1 els1 own' nil' sz2 els2 b base base' hne (hget id _ (by simp) h1) (hget id' _ (by simp) h2) h3 h4
  · intro id o ho hx
    by_cases hk : id = hl
    · subst hk
      dsimp only at ho
      rw [set_get_eq hl5] at ho
      simp at ho
      subst ho
      exact ⟨l, x, hm5, by rw [hst.prot]; exact hb2, hheap, hb4⟩
    · dsimp only at ho
      rw [set_get_ne (Ne.symm hk)] at ho
      exact hR5.obj id o ho hx
  · intro id id' o o' b base base' hne hx hx' h1 h2 h3 h4
    dsimp only at h1 h2 h3 h4
    have hcross : ∀ k o base b, k ≠ hl → o ≠ .lpx → C5.H[k]? = some (.obj o) → C5.m[k]? = some (some (b, base)) → b ≠ l := by
      rintro k o base b hk hox hko hkm rfl
      obtain ⟨b', _, h5, _⟩ := hR5.obj k o hko hox
      rw [hkm] at h5; simp at h5
      exact hno5 (.inr ⟨k, o, hko, hox, by rw [hkm, h5.2]⟩)
    by_cases hk : id = hl
    · subst hk
      rw [hm5] at h3
      simp at h3
      obtain ⟨rfl, rfl⟩ := h3
      rw [set_get_ne hne] at h2
      exact hcross id' o' base' l (Ne.symm hne) hx' h2 h4 rfl
    · rw [set_get_ne (Ne.symm hk)] at h1
      by_cases hk' : id' = hl
      · subst hk'
        rw [hm5] at h4
        simp at h4
        obtain ⟨rfl, rfl⟩ := h4
        exact hcross id o base l hk hx h1 h3 rfl
      · rw [set_get_ne (Ne.symm hk')] at h2
        exact hR5.oinj id id' o o' b base base' hne hx hx' h1 h2 h3 h4
  · intro id r2 s2 ho t
    by_cases hk : id = hl
    · subst hk
      dsimp only at ho
      rw [set_get_eq hl5] at ho
      simp at ho
      obtain ⟨rfl, rfl⟩ := ho
      exact Conc.mono hstep _ _ (hR4.lps id r s hH t)
    · dsimp only at ho
      rw [set_get_ne (Ne.symm hk)] at ho
      exact Conc.monoW hw _ _ (hR5.lps id r2 s2 ho t)

theorem zip_get {C : Ctx} : ∀ (ps : List Nat) (args : List AV) (cargs : List Value) (slots : List (Nat × AV)) (tmps : Array Value), args.length = ps.length → (∀ t ∈ ps, t < tmps.size) → ConcL C args cargs → (∀ t, Conc C (look slots t) (tmps.getD t undef)) →
    (∀ t, Conc C (look ((ps.zip args).reverse ++ slots) t) (((ps.zip cargs).foldl (fun tmps (p : Nat × Value) => tmps.setIfInBounds p.1 p.2) tmps).getD t undef)) ∧ ((ps.zip cargs).foldl (fun tmps (p : Nat × Value) => tmps.setIfInBounds p.1 p.2) tmps).size = tmps.size
  | [], args, cargs, slots, tmps, _, _, _, h => ⟨by simpa using h, rfl⟩
  | p :: ps, [], cargs, slots, tmps, hl, _, _, _ => by simp at hl
  | p :: ps, v :: args, cargs, slots, tmps, hl, hp, hc, h => by
    simp only [ConcL] at hc
    obtain ⟨u, us, rfl, h1, h2⟩ := hc
    have hpl : p < tmps.size := hp p (by simp)
    obtain ⟨g1, g2⟩ := zip_get ps args us ((p, v) :: slots) (tmps.setIfInBounds p u) (by simpa using hl) (fun t ht => by simp; exact hp t (by simp [ht])) h2 (fun t => by
      simp only [look]
      by_cases hpt : p = t
      · subst hpt
        have : (tmps.setIfInBounds p u).getD p undef = u := by simp [Array.getD, hpl]
        rw [if_pos rfl, this]; exact h1
      · have : (tmps.setIfInBounds p u).getD t undef = tmps.getD t undef := by simp only [Array.getD_eq_getD_getElem?, Array.getElem?_setIfInBounds, if_neg hpt]
        rw [if_neg hpt, this]; exact h t)
    refine ⟨fun t => ?_, by simp only [List.zip_cons_cons, List.foldl_cons]; rw [g2]; simp⟩
    simp only [List.zip_cons_cons, List.reverse_cons, List.append_assoc, List.singleton_append, List.foldl_cons]
    exact g1 t


theorem trOp_mv {muts : List FuncId} {op : Op} {z : Opd} (h : trOp1 P muts op = .mv z) : ∃ x, (op = .move x ∨ op = .assign x) ∧ z = opd x := by
  unfold trOp1 at h
  cases op with
  | move x => exact ⟨x, .inl rfl, by simpa [trOp] using h.symm⟩
  | assign x => exact ⟨x, .inr rfl, by simpa [trOp] using h.symm⟩
  | call c =>
    exfalso
    simp only [trOp, opC] at h
    repeat' split at h
    all_goals simp at h
  | binOp op t x y ty =>
    exfalso
    simp only [trOp, opB] at h
    repeat' split at h
    all_goals first | (simp at h; done) | skip
    all_goals (simp only [Option.getD] at h; split at h <;> first | (simp at h; done) | skip)
    all_goals (rename_i he; simp only [Option.map_eq_some_iff] at he; obtain ⟨_, _, rfl⟩ := he; simp at h)
  | unOp op t x => exfalso; cases op <;> simp [trOp] at h
  | makeMap t r => exfalso; cases r <;> simp only [trOp, Option.getD] at h <;> (try split at h) <;> (try simp at h); rename_i he; simp only [Option.map_eq_some_iff] at he; obtain ⟨_, _, rfl⟩ := he; simp at h
  | _ =>
    exfalso
    simp only [trOp] at h
    repeat' split at h
    all_goals first | (simp at h; done) | skip
    all_goals (simp only [Option.getD] at h; split at h <;> first | (simp at h; done) | skip)
    all_goals (rename_i he; simp only [Option.map_eq_some_iff, Option.bind_eq_some_iff] at he; first | (obtain ⟨_, _, rfl⟩ := he; simp at h) | (obtain ⟨_, _, _, _, rfl⟩ := he; simp at h))

theorem asg_ops {md : Option Nat} {muts : List FuncId} {ops : Array Oper} {Q : Exit → Act → World → Prop} : ∀ (lst : List Oper) (k : Nat) (aos : List AOper) (k0 k1 : Nat) (s s' : List (Nat × AV)) (a : Act), (∀ j, lst[j]? = ops[k + j]?) → trOpers P muts N ops k0 lst = some (aos, k1) → asgOps aos s = some s' →
    (∀ t, Conc C (look s t) (a.tmps.getD t undef)) → N ≤ a.tmps.size → (∀ a', (∀ t, Conc C (look s' t) (a'.tmps.getD t undef)) → a'.defers = a.defers → N ≤ a'.tmps.size → Q .normal a' C.w) → wpOpsIn (FR md) 0 P ops Q (List.range' k lst.length) a C.w
  | [], k, aos, k0, k1, s, s', a, _, ht, he, hS, hsz, hQ => by
    simp only [trOpers, Option.some.injEq, Prod.mk.injEq] at ht
    obtain ⟨rfl, _⟩ := ht
    simp only [asgOps, Option.some.injEq] at he
    subst he
    exact hQ a hS rfl hsz
  | o :: l, k, aos, k0, k1, s, s', a, hl, ht, he, hS, hsz, hQ => by
    have h0 : ops[k]? = some o := by simpa using (hl 0).symm
    have hl' : ∀ j, l[j]? = ops[k + 1 + j]? := fun j => by have := hl (j + 1); simpa [Nat.add_assoc, Nat.add_comm 1 j] using this
    simp only [trOpers, Option.bind_eq_some_iff] at ht
    obtain ⟨g, hg, ht⟩ := ht
    split at ht
    · rename_i hd
      simp only [Option.map_eq_some_iff, Prod.mk.injEq] at ht
      obtain ⟨⟨aos', k'⟩, hrest, rfl, rfl⟩ := ht
      unfold asgOps at he
      split at he
      · rename_i h1; simp at h1
      · rename_i s0 la lb d t fr' r' h1
        simp only [List.cons.injEq, AOper.mk.injEq] at h1
        obtain ⟨⟨hdst, hop, hgn, rfl⟩, rfl⟩ := h1
        obtain ⟨x, hx, hxt⟩ := trOp_mv hop
        have hgd : o.guard = none := by
          cases hog : o.guard with
          | none => rfl
          | some p =>
            obtain ⟨j, w⟩ := p
            rw [hog] at hg
            simp only [trGuard, Option.map_eq_some_iff] at hg
            obtain ⟨_, _, hg⟩ := hg
            rw [hgn] at hg
            simp at hg
        have hev : Conc C (look s0 t) (a.eval x) := by
          have := (Slots.mk (C := C) (s := look s0) (a := a) hS).ev x
          rw [← hxt] at this
          exact this
        rw [List.length_cons, List.range'_succ]
        simp only [wpOpsIn, h0]
        rw [if_pos (by simp [Region.wanted, hgd])]
        refine oper_in (by rcases hx with hx | hx <;> (rw [hx]; intro c hc; cases hc)) ?_
        have hrun : (execOp a.eval o).run P C.w = .ok (.value (a.eval x)) C.w := by
          rcases hx with hx | hx <;> simp [execOp, hx]
        rw [hrun, Oper.uponIn_value, hdst]
        have hdl : d < N := by rw [hdst] at hd; simpa [dstOk] using hd
        refine asg_ops l (k + 1) _ _ k' _ s' _ hl' hrest he (fun u => ?_) (by simpa [Act.put] using hsz) (fun a' h1 h2 h3 => hQ a' h1 (by rw [h2]; rfl) h3)
        simp only [look, Act.put]
        by_cases hdu : d = u
        · subst hdu
          have : (a.tmps.setIfInBounds d (a.eval x)).getD d undef = a.eval x := by simp [Array.getD, Nat.lt_of_lt_of_le hdl hsz]
          rw [if_pos rfl, this]; exact hev
        · have : (a.tmps.setIfInBounds d (a.eval x)).getD u undef = a.tmps.getD u undef := by simp only [Array.getD_eq_getD_getElem?, Array.getElem?_setIfInBounds, if_neg hdu]
          rw [if_neg hdu, this]; exact hS u
      · simp at he
    · simp at ht

theorem asg_wp {md : Option Nat} {muts : List FuncId} {x : Code} {asg : ACode} {s s' : List (Nat × AV)} {a : Act} {Q : Exit → Act → World → Prop} (hx : trCode P muts N x = some asg) (he : asgRun asg s = some s')
    (hS : ∀ t, Conc C (look s t) (a.tmps.getD t undef)) (hsz : N ≤ a.tmps.size) (hQ : ∀ a', (∀ t, Conc C (look s' t) (a'.tmps.getD t undef)) → a'.defers = a.defers → N ≤ a'.tmps.size → Q .normal a' C.w) : x.wpIn (FR md) 0 P Q a C.w := by
  unfold asgRun at he
  split at he
  · obtain ⟨id, ops, rfl, ht⟩ := tr_reg hx
    refine wpIn_region ?_
    have := asg_ops (md := md) (Q := Q) ops.toList 0 _ 0 0 s s' a (fun j => by simp) ht he hS hsz hQ
    rw [List.range_eq_range']
    simpa using this
  · simp only [Option.some.injEq] at he
    subst he
    rw [tr_skip hx]
    exact wpIn_skip (hQ a hS rfl hsz)
  · simp at he

/-- one round -/
theorem round_ok {muts : List FuncId} {hl : Nat} {asg body : ACode} {x y : Code} {psA : Array Tmp} {r0 : Loop} {slots s1 : List (Nat × AV)} {I1 : List Blk → Prop} {X : Exit → List Blk → Prop} {H' : List Blk} {args : List AV}
    (hps : ∀ t ∈ psA.toList, t < N) (hx : trCode P muts N x = some asg) (hy : trCode P muts N y = some body)
    (e1 : r0.params = psA) (e2 : r0.assign = x) (e3 : r0.body = y) (e4 : r0.state = .ready) (e5 : r0.pending = none) (hsz : N ≤ r0.tmps.size)
    (harg : args.length = psA.toList.length) (hl0 : H'[hl]? = some (.obj (.lp r0 slots))) (hasg : asgRun asg ((psA.toList.zip args).reverse ++ slots) = some s1)
    (hT : ∀ l, T (some l) P muts N H'.length body ⟨s1, H'.set hl (.obj .lpx)⟩ (roundK hl I1 X)) :
    AYield P hl args H' fun r H'' => (r = boolV true ∧ I1 (H''.set hl (.obj .lpx)) ∧ H''[hl]? = some (.obj (.lp r0 slots))) ∨
      (r = boolV false ∧ ∃ e r code, jumpOf e = some code ∧ H''[hl]? = some (.obj (.lp r slots)) ∧ r.state = .done ∧ r.pending = some code ∧ X e (H''.set hl (.obj .lpx))) := by
  rintro C2 cargs l rfl hRel hm hargs
  obtain ⟨bl, xo, hb1, hb2, hb3, hb4⟩ := hRel.obj _ _ hl0 (by simp)
  rw [hm] at hb1
  simp at hb1
  subst hb1
  have hxo : xo = .loop r0 := by
    cases xo <;> try exact hb4.elim
    rename_i q
    have : q = r0 := hb4
    rw [this]
  subst hxo
  have hcl : cargs.length = args.length := hargs.length
  refine ⟨_, _, _, _, run_yield hb3 (by simp [hcl, harg, e1]), ?_⟩
  rw [e2, e3]
  refine roundIn_of_wpIn (F := Fence.wide) (n := 0) trivial ?_
  obtain ⟨hz1, hz2⟩ := zip_get (C := C2) psA.toList args cargs slots r0.tmps harg (fun t ht => Nat.lt_of_lt_of_le (hps t ht) hsz) hargs (fun t => hRel.lps _ _ _ hl0 t)
  have hfold : (r0.params.zip cargs.toArray).foldl (fun tmps (t, a) => tmps.setIfInBounds t a) r0.tmps = (psA.toList.zip cargs).foldl (fun tmps (p : Nat × Value) => tmps.setIfInBounds p.1 p.2) r0.tmps := by
    rw [← Array.foldl_toList]; simp [e1]
  rw [hfold]
  refine asg_wp (C := C2) (s := (psA.toList.zip args).reverse ++ slots) hx hasg hz1 (by rw [hz2]; exact hsz) (fun a1 hS1 hd1 hsz1 => ?_)
  have hR3 : Rel N C2 ⟨s1, C2.H⟩ C2 a1 := ⟨rfl, hRel, Step.refl C2, ⟨hS1⟩, by rw [hd1]; exact Marks.nil _ _, hsz1⟩
  have hlt := lt_of_get hl0
  show ∃ w2, (Instr.beginRound l).run P C2.w = .ok () w2 ∧ _
  have hm3 := hm
  obtain ⟨hw3, _, hR4⟩ := rel_setO hR3 (r' := { r0 with state := .busy }) hl0 hm3 rfl
  refine ⟨_, run_beginRound hw3 e4, ?_⟩
  have hH4 : (C2.H.set hl (.obj (.lp { r0 with state := .busy } slots)))[hl]? = some (.obj (.lp { r0 with state := .busy } slots)) := set_get_eq hlt
  obtain ⟨hsS, hsR⟩ := seal_ok hR4.rel hH4
  have eS : (C2.H.set hl (Blk.obj (.lp { r0 with state := .busy } slots))).set hl (.obj .lpx) = C2.H.set hl (.obj .lpx) := by simp
  dsimp only at hsS hsR
  rw [eS] at hsS hsR
  have hRs : Rel N ⟨C2.H.set hl (.obj .lpx), C2.m, C2.w.putObj l (.loop { r0 with state := .busy }), C2.prot⟩ ⟨s1, C2.H.set hl (.obj .lpx)⟩ ⟨C2.H.set hl (.obj .lpx), C2.m, C2.w.putObj l (.loop { r0 with state := .busy }), C2.prot⟩ { tmps := a1.tmps, defers := [] } :=
    ⟨rfl, hsR, Step.refl _, ⟨fun t => Conc.mono hsS _ _ (hR4.slots.at_ t)⟩, Marks.nil _ _, hR4.size⟩
  have ea : ({ tmps := a1.tmps, defers := [] } : Act) = a1 := by cases a1; simp only at hd1; subst hd1; rfl
  rw [ea] at hRs
  refine wpIn_mono (hT _ y hy _ _ _ (by simp) hRs) ?_
  rintro e2 a2 w2 ⟨σ2, C5, rfl, hK2, hR5⟩
  have hst5 := hR5.step
  have hp : C5.prot = C2.prot := hst5.prot
  have hback : σ2.heap[hl]? = some (.obj .lpx) → ∀ r' : Loop, r'.tmps = r0.tmps → Step C2 ⟨σ2.heap.set hl (.obj (.lp r' slots)), C5.m, C5.w.putObj l (.loop r'), C2.prot⟩ ∧ HeapRel ⟨σ2.heap.set hl (.obj (.lp r' slots)), C5.m, C5.w.putObj l (.loop r'), C2.prot⟩ ∧ C5.w.heap[l]? = some (.loop { r0 with state := .busy }) := by
    intro hx5 r' hr'
    rw [← hR5.heap] at hx5
    have hst5' : Step ⟨(C2.H.set hl (Blk.obj (.lp { r0 with state := .busy } slots))).set hl (.obj .lpx), C2.m, C2.w.putObj l (.loop { r0 with state := .busy }), C2.prot⟩ C5 := by rw [eS]; exact hst5
    obtain ⟨g1, g2⟩ := unseal_ok hR4.rel hH4 hm3 hst5' hR5.rel hx5
    have hm5 : C5.m[hl]? = some (some (l, 0)) := by
      obtain ⟨_, _, h2, _⟩ := hst5.objs hl .lpx (set_get_eq hlt)
      exact h2.trans hm3
    have hRu : Rel 0 C2 ⟨[], C5.H.set hl (.obj (.lp { r0 with state := .busy } slots))⟩ ⟨C5.H.set hl (.obj (.lp { r0 with state := .busy } slots)), C5.m, C5.w, C5.prot⟩ { tmps := #[], defers := [] } :=
      ⟨rfl, g2, hR4.step.trans g1, ⟨fun t => trivial⟩, Marks.nil _ _, Nat.zero_le _⟩
    obtain ⟨q1, q2, q3⟩ := rel_setO hRu (r := { r0 with state := .busy }) (r' := r') (set_get_eq (lt_of_get hx5)) hm5 hr'
    have h7 := q3.step
    have h8 := q3.rel
    have eS2 : (C5.H.set hl (Blk.obj (.lp { r0 with state := .busy } slots))).set hl (.obj (.lp r' slots)) = C5.H.set hl (.obj (.lp r' slots)) := by simp
    dsimp only at h7 h8
    rw [eS2, hR5.heap, hp] at h7 h8
    exact ⟨h7, h8, q1⟩
  have eset : σ2.heap[hl]? = some (.obj .lpx) → ∀ r' : Loop, (σ2.heap.set hl (.obj (.lp r' slots))).set hl (.obj .lpx) = σ2.heap := by
    intro hx5 r'
    rw [List.set_set]
    apply List.ext_getElem?
    intro i
    by_cases hi : i = hl
    · subst hi; rw [set_get_eq (lt_of_get hx5), hx5]
    · rw [set_get_ne (Ne.symm hi)]
  have fin : ∀ (e2 : Exit) (code : Code), jumpOf e2 = some code → σ2.heap[hl]? = some (.obj .lpx) → X e2 σ2.heap → ∃ v w', (Instr.endRound l (some code)).run P C5.w = .ok v w' ∧
      ∃ u r H' m', Ending.returned v = .returned u ∧ ((r = boolV true ∧ I1 (H'.set hl (.obj .lpx)) ∧ H'[hl]? = some (.obj (.lp r0 slots))) ∨ (r = boolV false ∧ ∃ e r code, jumpOf e = some code ∧ H'[hl]? = some (.obj (.lp r slots)) ∧ r.state = .done ∧ r.pending = some code ∧ X e (H'.set hl (.obj .lpx)))) ∧ Step C2 ⟨H', m', w', C2.prot⟩ ∧ HeapRel ⟨H', m', w', C2.prot⟩ ∧ Conc ⟨H', m', w', C2.prot⟩ r u := by
    intro e2 code hj hl5 hX5
    obtain ⟨h7, h8, hw5⟩ := hback hl5 { r0 with state := .done, pending := some code } rfl
    exact ⟨_, _, run_endRound (some code) hw5, _, boolV false, _, C5.m, rfl, .inr ⟨rfl, e2, { r0 with state := .done, pending := some code }, code, hj, set_get_eq (lt_of_get hl5), rfl, rfl, by rw [eset hl5]; exact hX5⟩, h7, h8, by simp [boolV, Conc]⟩
  cases e2 with
  | normal =>
    obtain ⟨hl5, hI5⟩ := hK2
    obtain ⟨h7, h8, hw5⟩ := hback hl5 r0 rfl
    have h9 := run_endRound (P := P) none hw5
    simp only [Option.isNone_none, if_true] at h9
    have h10 : ({ r0 with state := .ready, pending := none } : Loop) = r0 := by cases r0; simp only at e4 e5; subst e4 e5; rfl
    rw [h10] at h9
    exact ⟨_, _, h9, _, boolV true, _, C5.m, rfl, .inl ⟨rfl, by rw [eset hl5]; exact hI5, set_get_eq (lt_of_get hl5)⟩, h7, h8, by simp [boolV, Conc]⟩
  | ret => exact fin .ret .ret rfl hK2.1 hK2.2
  | exit id => exact fin (.exit id) (.exit id) rfl hK2.1 hK2.2
  | goto t => exact hK2.elim
  | panic ch => exact hK2.elim
  | outgrown => exact hK2.elim

/-- the record is made -/
theorem enter_ok {σ : St} {C0' : Ctx} {a a' : Act} {r : Loop} (hR : Rel N C0 σ C a) (hRa : Rel N C0' σ ⟨C.H, C.m, C.w.alloc (.deferred (some [])), C.prot⟩ a') (ha : a'.tmps = r.tmps) :
    Rel N C0' ⟨σ.slots, σ.heap ++ [.obj (.lp r σ.slots)]⟩ ⟨σ.heap ++ [.obj (.lp r σ.slots)], (C.m ++ List.replicate 1 none).set σ.heap.length (some (C.w.heap.size + 1, 0)), (C.w.alloc (.deferred (some []))).alloc (.loop r), C.prot⟩ a' := by
  have hlen : C.m.length = C.H.length := hR.rel.len
  have hHl : C.H.length = σ.heap.length := by rw [hR.heap]
  have hH1 : (C.H ++ List.replicate 1 Blk.resv).set σ.heap.length (.obj (.lp r σ.slots)) = σ.heap ++ [.obj (.lp r σ.slots)] := by
    rw [hR.heap]; simp
  have hR1 := resv_ok hRa 1
  have hfr : (C.H ++ List.replicate 1 Blk.resv)[σ.heap.length]? = some .resv := by rw [← hHl]; simp
  obtain ⟨hs2, hR2⟩ := allocO_ok hR1.rel (fr := σ.heap.length) hfr (ob := .lp r σ.slots) (x := .loop r) rfl (fun r' s he t => by
    simp only [Ob.lp.injEq] at he
    obtain ⟨rfl, rfl⟩ := he
    have := hR1.slots.at_ t
    rw [ha] at this
    exact this)
  dsimp only at hs2 hR2
  rw [hH1] at hs2 hR2
  simp only [World.size_alloc] at hs2 hR2
  exact ⟨rfl, hR2, hR1.step.trans hs2, ⟨fun t => Conc.mono hs2 _ _ (hR1.slots.at_ t)⟩, hR1.defers.mono hR1.rel hs2, hR1.size⟩

theorem mark_ok {σ : St} {a : Act} (hR : Rel N C0 σ C a) : Rel N C0 σ ⟨C.H, C.m, C.w.alloc (.deferred (some [])), C.prot⟩ { tmps := a.tmps, defers := { target := .collected C.w.heap.size, args := #[] } :: a.defers } := by
  have q := extra_ok hR (.deferred (some []))
  refine ⟨q.heap, q.rel, q.step, ⟨q.slots.at_⟩, ?_, q.size⟩
  obtain ⟨bs, h1, h2, h3⟩ := hR.defers
  refine ⟨C.w.heap.size :: bs, by simp [h1], List.nodup_cons.2 ⟨fun hin => ?_, h2⟩, fun k hk => ?_⟩
  · have := lt_of_heap (h3 _ hin).2; omega
  · rcases List.mem_cons.1 hk with rfl | hk
    · exact ⟨hR.step.size, World.alloc_heap_new _ _⟩
    · obtain ⟨h5, h6⟩ := h3 k hk
      exact ⟨h5, (Below.heap_alloc _ _ _ (lt_of_heap h6)).trans h6⟩

theorem T_range {muts : List FuncId} {K : Exit → St → Prop} {f : Opd} {ps : List Nat} {asg body : ACode} {gf : FuncId} {first cap : List AV} {n : Nat} {E : Nat → List Blk → List AV → Prop} {Bc : List Blk → Prop}
    (I : Nat → List Blk → Prop) (X : Exit → List Blk → Prop)
    (htar : target (ev σ.get f) = some (gf, first, cap)) (hit : IterOk P gf first cap n E Bc)
    (hBc : ∀ k H, I k H → Bc H) (hBs : ∀ H r s, Bc (H.set σ.heap.length (.obj .lpx)) → H[σ.heap.length]? = some (.obj (.lp r s)) → Bc H)
    (hEs : ∀ k H r s args, E k H args → H[σ.heap.length]? = some (.obj (.lp r s)) → E k (H.set σ.heap.length (.obj .lpx)) args)
    (h0 : I 0 (σ.heap ++ [.obj .lpx]))
    (hbody : ∀ k H args, k < n → I k H → H[σ.heap.length]? = some (.obj .lpx) → E k H args → args.length = ps.length ∧ ∃ s1, asgRun asg ((ps.zip args).reverse ++ σ.slots) = some s1 ∧
      ∀ l, T (some l) P muts N H.length body ⟨s1, H⟩ (roundK σ.heap.length (I (k + 1)) X))
    (hdone : ∀ H, I n H → K .normal ⟨σ.slots, H⟩) (hstop : ∀ e H, X e H → K e ⟨σ.slots, H⟩) : T none P muts N b (.range f ps asg body) σ K := by
  intro c hc C0 C a hb0 hR
  obtain ⟨g, psA, x, y, rfl, rfl, rfl, hps, hx, hy⟩ := tr_range hc
  refine wpIn_rangeFunc (F := FR none) (n := 0) (fun fn _ => ?_)
  obtain ⟨uf, uc, hu, hfirst, hcap⟩ := target_spec htar (hR.slots.ev g)
  have henter := run_enterLoop_outer (P := P) (w := C.w) fn a.tmps psA x y
  generalize hr0 : ({ state := .ready, pending := none, fn, tmps := a.tmps, params := psA, assign := x, body := y, defers := C.w.heap.size } : Loop) = r0 at henter
  have e1 : r0.params = psA := by rw [← hr0]
  have e2 : r0.assign = x := by rw [← hr0]
  have e3 : r0.body = y := by rw [← hr0]
  have e4 : r0.state = .ready := by rw [← hr0]
  have e5 : r0.pending = none := by rw [← hr0]
  have e6 : a.tmps = r0.tmps := by rw [← hr0]
  clear hr0
  have hlen : C.m.length = C.H.length := hR.rel.len
  have hHl : C.H.length = σ.heap.length := by rw [hR.heap]
  have hm1 : ((C.m ++ List.replicate 1 none).set σ.heap.length (some (C.w.heap.size + 1, 0)))[σ.heap.length]? = some (some (C.w.heap.size + 1, 0)) := set_get_eq (by simp [hlen, hHl])
  have hst := (enter_ok (r := r0) hR (C0' := C) (a' := { tmps := a.tmps, defers := [] }) (extra_ok (a := { tmps := a.tmps, defers := [] }) ⟨hR.heap, hR.rel, Step.refl C, ⟨hR.slots.at_⟩, Marks.nil _ _, hR.size⟩ (.deferred (some []))) e6).step
  have hR1 := enter_ok (r := r0) hR (mark_ok hR) e6
  -- the iterator
  have hcall : ACall P gf (first ++ [.mp σ.heap.length] ++ cap) (σ.heap ++ [.obj (.lp r0 σ.slots)]) fun _ H' =>
      (I n (H'.set σ.heap.length (.obj .lpx)) ∧ H'[σ.heap.length]? = some (.obj (.lp r0 σ.slots))) ∨ ∃ e r code, jumpOf e = some code ∧ H'[σ.heap.length]? = some (.obj (.lp r σ.slots)) ∧ r.state = .done ∧ r.pending = some code ∧ X e (H'.set σ.heap.length (.obj .lpx)) := by
    refine hit σ.heap.length (fun k H' => I k (H'.set σ.heap.length (.obj .lpx)) ∧ H'[σ.heap.length]? = some (.obj (.lp r0 σ.slots))) (fun H' => ∃ e r code, jumpOf e = some code ∧ H'[σ.heap.length]? = some (.obj (.lp r σ.slots)) ∧ r.state = .done ∧ r.pending = some code ∧ X e (H'.set σ.heap.length (.obj .lpx))) _
      (fun k H' h => ⟨⟨_, _, h.2⟩, hBs _ _ _ (hBc k _ h.1) h.2⟩) ?_ ⟨by simpa using h0, by simp⟩
    rintro k H' args hk ⟨hI, hl⟩ hE
    obtain ⟨harg, s1, hs1, hT⟩ := hbody k _ args hk hI (set_get_eq (lt_of_get hl)) (hEs _ _ _ _ _ hE hl)
    exact round_ok hps hx hy e1 e2 e3 e4 e5 (by rw [← e6]; exact hR.size) harg hl hs1 (fun l => by simpa using hT l)
  -- the call
  have hargs1 := ((ConcL.mono hst _ _ hfirst).append (l' := [.mp σ.heap.length]) (us' := [.func (.yield (C.w.heap.size + 1)) #[] #[]]) (by
    simp only [ConcL, Conc]
    refine ⟨_, [], rfl, ?_, rfl⟩
    simp only [List.getElem?_append_right (Nat.le_refl _), Nat.sub_self, List.getElem?_cons_zero]
    exact ⟨_, hm1, rfl⟩)).append (ConcL.mono hst _ _ hcap)
  have harr : (uf.toList ++ [Value.func (.yield (C.w.heap.size + 1)) #[] #[]] ++ uc.toList).toArray = uf ++ #[.func (.yield (C.w.heap.size + 1)) #[] #[]] ++ uc := by
    rw [← Array.toList_inj]; simp
  have hrun := hcall.2 _ _ rfl hR1.rel hargs1
  rw [harr] at hrun
  have hres : (resolve a.eval (rangeCall g (C.w.heap.size + 1)) 0).run P ((C.w.alloc (.deferred (some []))).alloc (.loop r0)) = .ok { target := .fn (.func gf) uc, args := uf ++ #[.func (.yield (C.w.heap.size + 1)) #[] #[]] } ((C.w.alloc (.deferred (some []))).alloc (.loop r0)) := by
    have hu' : (Act.eval a g) = .func (.func gf) uf uc := hu
    have hc' : ∀ v, Act.eval a (.const v) = v := fun _ => rfl
    simp [resolve, rangeCall, hu', Deferred.ofValue, hc']
  have hinv : (invoke (.fn (.func gf) uc) (uf ++ #[.func (.yield (C.w.heap.size + 1)) #[] #[]])).run P ((C.w.alloc (.deferred (some []))).alloc (.loop r0)) = .ok (.enter gf (uf ++ #[.func (.yield (C.w.heap.size + 1)) #[] #[]] ++ uc)) ((C.w.alloc (.deferred (some []))).alloc (.loop r0)) := hcall.1 _ _
  have hin : CallsIn (FR none) 0 P gf (uf ++ #[.func (.yield (C.w.heap.size + 1)) #[] #[]] ++ uc) ((C.w.alloc (.deferred (some []))).alloc (.loop r0))
      (rangePost (FR none) 0 P (C.w.heap.size + 1) (fun e a' w' => Goes N C0 (K e) a' w') { tmps := a.tmps, defers := { target := .collected C.w.heap.size, args := #[] } :: a.defers }) := by
    refine calls_in (Calls.mono hrun ?_)
    rintro e w3 ⟨u, r, H3, m3, rfl, hQ, hs3, hR3, _⟩
    have hRel3 : Rel N C0 ⟨σ.slots, H3⟩ ⟨H3, m3, w3, C.prot⟩ { tmps := a.tmps, defers := { target := .collected C.w.heap.size, args := #[] } :: a.defers } :=
      ⟨rfl, hR3, hR1.step.trans hs3, ⟨fun t => Conc.mono hs3 _ _ (hR1.slots.at_ t)⟩, hR1.defers.mono hR1.rel hs3, hR1.size⟩
    have hm3 : m3[σ.heap.length]? = some (some (C.w.heap.size + 1, 0)) := by
      obtain ⟨_, _, h2, _⟩ := hs3.objs σ.heap.length (.lp r0 σ.slots) (by simp)
      exact h2.trans hm1
    have hsx : ∀ r : Loop, H3[σ.heap.length]? = some (.obj (.lp r σ.slots)) → r.state ≠ .busy → ∃ C4, C4.w = w3.putObj (C.w.heap.size + 1) (.loop { r with state := .exhausted }) ∧ Rel N C0 ⟨σ.slots, H3.set σ.heap.length (.obj .lpx)⟩ C4 { tmps := a.tmps, defers := { target := .collected C.w.heap.size, args := #[] } :: a.defers } ∧
        w3.heap[C.w.heap.size + 1]? = some (.loop r) := by
      intro r hl _
      obtain ⟨hw, _, hR4⟩ := rel_setO hRel3 (r' := { r with state := .exhausted }) hl hm3 rfl
      obtain ⟨g1, g2⟩ := seal_ok hR4.rel (hl := σ.heap.length) (r := { r with state := .exhausted }) (s := σ.slots) (set_get_eq (lt_of_get hl))
      have eS : ((H3.set σ.heap.length (Blk.obj (.lp { r with state := .exhausted } σ.slots))).set σ.heap.length (.obj .lpx)) = H3.set σ.heap.length (.obj .lpx) := by simp
      dsimp only at g1 g2
      rw [eS] at g1 g2
      exact ⟨_, rfl, ⟨rfl, g2, hR4.step.trans g1, ⟨fun t => Conc.mono g1 _ _ (hR4.slots.at_ t)⟩, hR4.defers.mono hR4.rel g1, hR4.size⟩, hw⟩
    rcases hQ with ⟨hI, hl⟩ | ⟨e, r, code, hj, hl, hst', hpend, hX⟩
    · obtain ⟨C4, hw4, hR4, hw⟩ := hsx r0 hl (by rw [e4]; simp)
      refine ⟨none, _, by rw [← e5]; exact run_endLoop hw (by simp [e4]), ?_⟩
      exact ⟨_, C4, hw4, hdone _ hI, hR4⟩
    · obtain ⟨C4, hw4, hR4, hw⟩ := hsx r hl (by rw [hst']; simp)
      refine ⟨some code, _, by rw [← hpend]; exact run_endLoop hw (by rw [hst']; simp), ?_⟩
      rw [← hw4]
      have hK := hstop e _ hX
      cases e with
      | ret => simp only [jumpOf, Option.some.injEq] at hj; subst hj; exact wpIn_ret ⟨_, C4, rfl, hK, hR4⟩
      | exit id => simp only [jumpOf, Option.some.injEq] at hj; subst hj; exact wpIn_exit ⟨_, C4, rfl, hK, hR4⟩
      | _ => simp [jumpOf] at hj
  exact ⟨_, _, _, _, _, gf, _, _, henter, hres, fun _ _ => trivial, hinv, fun h => (by cases h), hin⟩
end
end Go.Abs
