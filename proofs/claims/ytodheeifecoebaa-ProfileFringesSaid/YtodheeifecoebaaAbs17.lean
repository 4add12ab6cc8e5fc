/- Regions; code; loops; bodies. -/
import Derived.Test.YtodheeifecoebaaAbs16
set_option linter.all false
set_option linter.unusedVariables false
set_option linter.unusedSimpArgs false
set_option linter.unusedSectionVars false
namespace Go.Abs
open Go.RowKit
section
variable {P : Program} {N : Nat} {C0 C : Ctx} {σ : St} {a : Act} {md : Option Nat}

theorem run_ok {muts : List FuncId} (h : Rel N C0 σ C a) {o : Oper} {ao : AOper} {base : Nat} (ht : trOp1 P muts o.op = ao.op) (hdst : ao.dst = o.dst) (hd : dstOk N o.dst = true) {K : St → Prop} (hw : wrun P base ao σ K)
    {Q : Exit → Act → World → Prop} {nxt : Act → World → Prop} (hn : ∀ a' w', Goes N C0 K a' w' → nxt a' w') : o.wpIn (FR md) 0 P a C.w nxt Q := by
  unfold trOp1 at ht
  cases htr : trOp P muts o.op with
  | none =>
    rw [htr] at ht
    simp only [Option.getD_none] at ht
    unfold wrun at hw
    rw [← ht] at hw
    simp [aop] at hw
  | some aop0 =>
  rw [htr] at ht
  simp only [Option.getD_some] at ht
  subst ht
  replace ht := htr
  clear htr
  have hnd : ∀ c, o.op ≠ .defer c := by intro c hc; rw [hc] at ht; simp [trOp] at ht
  unfold wrun at hw
  split at hw
  · rename_i raw f args hop
    rw [hop] at ht
    -- the call's own form
    have : ∃ (f' : Operand) (args' : Array Operand) (ts : Array TypeId), o.op = .call { callee := .value f', args := args', argTypes := ts } ∧ f = opd f' ∧ args = args'.toList.map opd := by
      cases ho : o.op with
      | call c =>
        rw [ho] at ht; simp only [trOp] at ht
        obtain ⟨callee, args', argTypes⟩ := c
        unfold opC at ht
        dsimp only at ht
        split at ht
        · split at ht
          · split at ht <;> simp at ht
          · simp at ht
        · simp at ht
        · simp at ht
        · split at ht
          · split at ht
            · split at ht
              · split at ht <;> simp at ht
              · simp at ht
            · simp at ht
          · simp at ht
        · split at ht
          · split at ht
            · split at ht <;> simp at ht
            · simp at ht
          · simp at ht
        · rename_i f0
          split at ht <;> (simp only [Option.some.injEq, AOp.call.injEq] at ht; obtain ⟨_, rfl, rfl⟩ := ht; exact ⟨_, args', argTypes, rfl, rfl, rfl⟩)
        · simp at ht
      | binOp op t x y ty =>
        rw [ho] at ht
        simp only [trOp, opB] at ht
        repeat' split at ht
        all_goals simp at ht
      | unOp op t x => rw [ho] at ht; cases op <;> simp [trOp] at ht
      | makeMap t r => rw [ho] at ht; cases r <;> simp [trOp] at ht
      | lookup t x k ok => rw [ho] at ht; simp [trOp, Option.bind_eq_some_iff] at ht
      | mapUpdate t x k v => rw [ho] at ht; simp [trOp] at ht
      | _ =>
        rw [ho] at ht
        simp only [trOp] at ht
        repeat' split at ht
        all_goals simp at ht
    obtain ⟨f', args', ts, ho, rfl, rfl⟩ := this
    rw [hdst] at hw
    exact call_ok h ho hd hw hn
  · rename_i hcall
    obtain ⟨hfr, hw⟩ := hw
    split at hw
    · rename_i v ws hop
      have hnc : ao.op.isCall = false := by
        cases hao : ao.op <;> first | rfl | (exact (hcall _ _ _ hao).elim)
      obtain ⟨slots, heap⟩ := σ
      have hh := h.heap
      dsimp only at hh
      subst hh
      obtain ⟨u, w', m', hrun, hs, hR, hc⟩ := ok_op h.rel h.slots ht hfr hnc hop
      have hg : Goes N C0 K (a.put o.dst u) w' := ⟨_, ⟨_, m', w', C.prot⟩, rfl, hw, by rw [hdst]; exact h.put hs hR hd hc⟩
      refine oper_in hnd ?_
      rcases hrun with hrun | ⟨hrun, rfl⟩
      · rw [hrun, Oper.uponIn_value]; exact hn _ _ hg
      · rw [hrun, Oper.uponIn_skip]; exact hn _ _ hg
    · exact hw.elim

theorem guard_ok {ops : Array Oper} {o : Oper} {ao : AOper} (hS : Slots C σ.get a) (hg : trGuard ops o.guard = some ao.guard) {base : Nat} {K : St → Prop} (hw : wstep P base ao σ K) :
    (Region.wanted o (yielded ops a.tmps) = true ∧ wrun P base ao σ K) ∨ (Region.wanted o (yielded ops a.tmps) = false ∧ K (σ.put ao.dst (.lit undef))) := by
  unfold wstep at hw
  cases hog : o.guard with
  | none =>
    rw [hog] at hg
    simp only [trGuard, Option.some.injEq] at hg
    rw [← hg] at hw
    exact .inl ⟨by simp [Region.wanted, hog], hw⟩
  | some p =>
    obtain ⟨j, want⟩ := p
    rw [hog] at hg
    simp only [trGuard, Option.map_eq_some_iff] at hg
    obtain ⟨g, hj, hg⟩ := hg
    rw [← hg] at hw
    dsimp only at hw
    split at hw
    · rename_i b hb
      have hx := hS.at_ g
      rw [hb] at hx
      simp only [Conc] at hx
      have hy : yielded ops a.tmps j = some b := by
        unfold yielded
        rw [hj]
        have : a.tmps[g]? = some (.bool b) := by
          rw [Array.getD_eq_getD_getElem?] at hx
          cases hgt : a.tmps[g]? with
          | none => rw [hgt] at hx; simp [undef] at hx
          | some y => rw [hgt] at hx; simp at hx; rw [hx]
        simp [this]
      by_cases hbw : b = want
      · rw [if_pos hbw] at hw
        exact .inl ⟨by simp [Region.wanted, hog, hy, hbw], hw⟩
      · rw [if_neg hbw] at hw
        exact .inr ⟨by simp [Region.wanted, hog, hy, hbw], hw⟩
    · rename_i xs hb
      have hx := hS.at_ g
      rw [hb] at hx
      simp only [Conc] at hx
      have hy : yielded ops a.tmps j = none := by
        unfold yielded
        rw [hj]
        rw [Array.getD_eq_getD_getElem?] at hx
        cases hgt : a.tmps[g]? with
        | none => simp [hgt]
        | some y => rw [hgt] at hx; simp at hx; subst hx; simp [hgt]
      exact .inr ⟨by simp [Region.wanted, hog, hy], hw⟩
    · exact hw.elim

theorem Rel.undef_ (h : Rel N C0 σ C a) {d : Option Nat} (hd : dstOk N d = true) : Rel N C0 (σ.put d (.lit undef)) C (a.put d undef) := by
  obtain ⟨slots, heap⟩ := σ
  have hh := h.heap
  dsimp only at hh
  subst hh
  exact h.put (Step.refl C) h.rel hd (by simp [Conc])

theorem ops_ok {muts : List FuncId} {ops : Array Oper} {base : Nat} {Q : Exit → Act → World → Prop} {K : St → Prop} (hQ : ∀ a' w', Goes N C0 K a' w' → Q .normal a' w') :
    ∀ (l : List Oper) (k : Nat) (aos : List AOper) (k0 k1 : Nat) (σ : St) (C : Ctx) (a : Act), (∀ j, l[j]? = ops[k + j]?) → trOpers P muts N ops k0 l = some (aos, k1) → Rel N C0 σ C a → wops P base aos σ K → wpOpsIn (FR md) 0 P ops Q (List.range' k l.length) a C.w
  | [], k, aos, k0, k1, σ, C, a, _, ht, h, hw => by
    simp only [trOpers, Option.some.injEq, Prod.mk.injEq] at ht
    obtain ⟨rfl, _⟩ := ht
    exact hQ _ _ ⟨σ, C, rfl, hw, h⟩
  | o :: l, k, aos, k0, k1, σ, C, a, hl, ht, h, hw => by
    have h0 : ops[k]? = some o := by simpa using (hl 0).symm
    have hl' : ∀ j, l[j]? = ops[k + 1 + j]? := fun j => by have := hl (j + 1); simpa [Nat.add_assoc, Nat.add_comm 1 j] using this
    simp only [trOpers, Option.bind_eq_some_iff] at ht
    obtain ⟨g, hg, ht⟩ := ht
    split at ht
    · rename_i hd
      simp only [Option.map_eq_some_iff, Prod.mk.injEq] at ht
      obtain ⟨⟨aos', k'⟩, hrest, rfl, rfl⟩ := ht
      rw [List.length_cons, List.range'_succ]
      simp only [wpOpsIn, h0]
      have hnext : ∀ a' w', Goes N C0 (fun σ' => wops P base aos' σ' K) a' w' → wpOpsIn (FR md) 0 P ops Q (List.range' (k + 1) l.length) a' w' := by
        rintro a' w' ⟨σ', C', rfl, hK, hR⟩
        exact ops_ok hQ l (k + 1) aos' _ k' σ' C' a' hl' hrest hR hK
      rcases guard_ok (ao := ⟨o.dst, trOp1 P muts o.op, g, k0⟩) h.slots hg hw with ⟨hwt, hrun⟩ | ⟨hwt, hK⟩
      · rw [if_pos hwt]
        exact run_ok (ao := ⟨o.dst, trOp1 P muts o.op, g, k0⟩) h rfl rfl hd hrun hnext
      · rw [hwt]
        simp only [Bool.false_eq_true, if_false]
        exact ⟨fun _ _ => trivial, hnext _ _ ⟨_, C, rfl, hK, h.undef_ hd⟩⟩
    · simp at ht

/-- numbers for what a region makes -/
theorem resv_ok (h : Rel N C0 σ C a) (n : Nat) : Rel N C0 ⟨σ.slots, σ.heap ++ List.replicate n .resv⟩ ⟨C.H ++ List.replicate n .resv, C.m ++ List.replicate n none, C.w, C.prot⟩ a := by
  have hg : ∀ (id : Nat) B, B ≠ Blk.resv → (C.H ++ List.replicate n Blk.resv)[id]? = some B → C.H[id]? = some B := by
    intro id B hB hb
    rw [List.getElem?_append] at hb
    split at hb
    · exact hb
    · rw [List.getElem?_replicate] at hb
      split at hb
      · simp at hb; exact (hB hb.symm).elim
      · simp at hb
  have hgm : ∀ (id : Nat) B, C.H[id]? = some B → (C.m ++ List.replicate n none)[id]? = C.m[id]? := fun id B hb => by
    rw [List.getElem?_append_left]; rw [h.rel.len]; exact lt_of_get hb
  have hobj : ObjSame C ⟨C.H ++ List.replicate n .resv, C.m ++ List.replicate n none, C.w, C.prot⟩ :=
    ⟨fun id o => ⟨fun h => hg id _ (by simp) h, fun h => by dsimp only; rw [List.getElem?_append_left (lt_of_get h)]; exact h⟩, fun id o ho => hgm id _ ho, fun id o b x _ _ hx _ => hx, rfl⟩
  have hs : Step C ⟨C.H ++ List.replicate n .resv, C.m ++ List.replicate n none, C.w, C.prot⟩ := by
    refine ⟨rfl, rfl, rfl, rfl, Nat.le_refl _, by simp, fun _ _ _ => rfl, fun _ c _ f h => ⟨c, f, h, rfl⟩, ?_, ?_, hobj.objs, hobj.objr⟩
    · rintro b (⟨id, nil, sz, els, base, h1, h2⟩ | ho)
      rotate_left
      · exact .inl (.inr (hobj.own ho))
      have := hg id _ (by simp) h1
      dsimp only at h2
      rw [hgm id _ this] at h2
      exact .inl (.inl ⟨id, nil, sz, els, base, this, h2⟩)
    · intro id B hB hr
      refine ⟨⟨B, by dsimp only; rw [List.getElem?_append_left (lt_of_get hB)]; exact hB, hr⟩, fun own' nil' sz' els' h1 => ?_⟩
      have := hg id _ (by simp) h1
      rw [hB] at this
      exact ⟨own', els', Option.some.inj this, rfl, fun h => h, hgm id _ hB⟩
  refine ⟨by rw [h.heap], ⟨by simp [h.rel.len], ?_, ?_, h.rel.prot, hobj.obj h.rel, hobj.oinj h.rel, hobj.lps h.rel hs⟩, h.step.trans hs, ⟨fun t => Conc.mono hs _ _ (h.slots.at_ t)⟩, h.defers.same rfl, h.size⟩
  · intro id own nil sz els h1
    have h2 := hg id _ (by simp) h1
    dsimp only
    rw [hgm id _ h2]
    rcases h.rel.blk id own nil sz els h2 with h3 | ⟨hn, b, base, c, e, h3, h4, h5, h6⟩
    · exact .inl h3
    · exact .inr ⟨hn, b, base, c, e, h3, h4, h5, RowsAt.keep hs els b base sz (fun _ _ _ => rfl) h6⟩
  · intro id id' nil sz1 els1 own' nil' sz2 els2 b base base' hne h1 h2 h3 h4
    have h1' := hg id _ (by simp) h1
    have h2' := hg id' _ (by simp) h2
    dsimp only at h3 h4
    rw [hgm id _ h1'] at h3
    rw [hgm id' _ h2'] at h4
    exact h.rel.inj id id' nil sz1 els1 own' nil' sz2 els2 b base base' hne h1' h2' h3 h4

theorem wstep_of {base : Nat} {o : AOper} {K : St → Prop} (h : wstepD P base o σ K) : wstep P base o σ K := by
  have hrun : ∀ x, (if o.op.makes = true → fresh? σ.heap (base + o.fr) = true then aop (base + o.fr) σ.get (hget σ.heap) o.op else none) = some x → K (after σ o.dst x) → wrun P base o σ K := fun x hx hk => by
    split at hx
    · rename_i hm
      obtain ⟨v, ws⟩ := x
      unfold wrun
      split
      · rename_i hop; rw [hop] at hx; simp [aop] at hx
      · exact ⟨fun h => fresh?_iff.1 (hm h), by rw [hx]; exact hk⟩
    · simp at hx
  rcases h with ⟨x, hx, hk⟩ | ⟨hwt, f, args, hop, g, first, cap, ht, hp, Q, hQ, _, hq⟩
  · unfold nres at hx
    unfold wstep
    cases hg : o.guard with
    | none => rw [hg] at hx; exact hrun x hx hk
    | some p =>
      obtain ⟨g, want⟩ := p
      rw [hg] at hx
      dsimp only at hx ⊢
      split at hx
      · rename_i b hb
        rw [hb]
        dsimp only
        by_cases hbw : b = want
        · rw [if_pos hbw] at hx ⊢; exact hrun x hx hk
        · rw [if_neg hbw] at hx ⊢
          obtain rfl := Option.some.inj hx
          exact hk
      · rename_i xs hb
        rw [hb]
        obtain rfl := Option.some.inj hx
        exact hk
      · simp at hx
  · have hr : wrun P base o σ K := by
      unfold wrun
      rw [hop]
      dsimp only
      unfold wcall
      rw [ht]
      have ha : first ++ args.map (ev σ.get) ++ cap = argsOf σ f args := by unfold argsOf; rw [ht]
      dsimp only
      rw [ha]
      exact ⟨hp, hQ.mono fun r new h => hq r new h⟩
    unfold wstep
    unfold wanted at hwt
    cases hg : o.guard with
    | none => exact hr
    | some p =>
      obtain ⟨g', want⟩ := p
      rw [hg] at hwt
      dsimp only at hwt ⊢
      split at hwt
      · rename_i b hb
        rw [hb]
        dsimp only
        rw [if_pos (by simpa using hwt)]; exact hr
      · simp at hwt

theorem wpOp_ok {muts : List FuncId} {ops : Array Oper} {base i : Nat} {o : Oper} {ao : AOper} {Q : Exit → Act → World → Prop} {K : St → Prop} {nxt : Act → World → Prop} (h : Rel N C0 σ C a) (hi : ops[i]? = some o) (ht : trOp1 P muts o.op = ao.op) (hdst : ao.dst = o.dst) (hd : dstOk N o.dst = true)
    (hg : trGuard ops o.guard = some ao.guard) (hw : wstepD P base ao σ K) (hn : ∀ a' w', Goes N C0 K a' w' → nxt a' w') : wpOpIn (FR md) 0 P ops Q i nxt a C.w := by
  unfold wpOpIn
  rw [hi]
  dsimp only
  rcases guard_ok h.slots hg (wstep_of hw) with ⟨hwt, hrun⟩ | ⟨hwt, hK⟩
  · rw [if_pos hwt]; exact run_ok h ht hdst hd hrun hn
  · rw [hwt]
    simp only [Bool.false_eq_true, if_false]
    exact ⟨fun _ _ => trivial, hn _ _ ⟨_, C, rfl, hK, by rw [hdst]; exact h.undef_ hd⟩⟩

/-! which operations stand before which -/
def edges (o : Oper) : List Nat := o.after.toList.filterMap fun e => if Region.binds .any e then some e.on else none
def befs (ops : List Oper) : List (List Nat) := ops.foldl (fun acc o => acc ++ [(edges o ++ (edges o).flatMap fun j => acc.getD j []).eraseDups]) []
def befOk (ops : Array Oper) (bef : List (List Nat)) : Bool := (List.range ops.size).all fun j => match ops[j]? with
  | some o => (edges o).all (fun k => (bef.getD j []).contains k) && (bef.getD j []).all fun k => decide (k < j) && ((edges o).contains k || (edges o).any fun m => (bef.getD m []).contains k)
  | none => false
def apartOk (bef : List (List Nat)) (aos : List AOper) : Bool := (List.range aos.length).all fun j => (List.range j).all fun i => (bef.getD j []).contains i || match aos[i]?, aos[j]? with
  | some x, some y => apart x y
  | _, _ => false
def number (aos : List AOper) : List (Nat × AOper) := (List.range aos.length).zip aos

theorem mem_number {aos : List AOper} {i : Nat} {x : AOper} : (i, x) ∈ number aos ↔ aos[i]? = some x := by
  unfold number
  rw [List.mem_iff_getElem?]
  constructor
  · rintro ⟨k, hk⟩
    rw [List.getElem?_zip_eq_some] at hk
    obtain ⟨h1, h2⟩ := hk
    rw [List.getElem?_range (lt_of_get h2)] at h1
    simp at h1; subst h1; exact h2
  · intro h
    exact ⟨i, by rw [List.getElem?_zip_eq_some]; exact ⟨List.getElem?_range (lt_of_get h), h⟩⟩
theorem number_sorted (aos : List AOper) : (number aos).Pairwise fun p q => p.1 < q.1 := by
  unfold number
  have h1 : (((List.range aos.length).zip aos).map (·.1)) = List.range aos.length := List.map_fst_zip (by simp)
  have h2 : (List.range aos.length).Pairwise (· < ·) := List.pairwise_lt_range
  rw [← h1] at h2
  exact (List.pairwise_map.1 h2)

theorem trOpers_get {muts : List FuncId} {ops : Array Oper} : ∀ (l : List Oper) (k k' : Nat) (aos : List AOper), trOpers P muts N ops k l = some (aos, k') → aos.length = l.length ∧ ∀ (i : Nat) (o : Oper) (ao : AOper), l[i]? = some o → aos[i]? = some ao → trOp1 P muts o.op = ao.op ∧ ao.dst = o.dst ∧ dstOk N o.dst = true ∧ trGuard ops o.guard = some ao.guard
  | [], k, k', aos, h => by
    simp only [trOpers, Option.some.injEq, Prod.mk.injEq] at h
    obtain ⟨rfl, _⟩ := h
    exact ⟨rfl, fun i o ao h => by simp at h⟩
  | o :: r, k, k', aos, h => by
    simp only [trOpers, Option.bind_eq_some_iff] at h
    obtain ⟨g, hg, h⟩ := h
    split at h
    · rename_i hd
      simp only [Option.map_eq_some_iff, Prod.mk.injEq] at h
      obtain ⟨⟨aos', k2⟩, hr, rfl, rfl⟩ := h
      obtain ⟨h1, h2⟩ := trOpers_get r _ _ _ hr
      refine ⟨by simp [h1], fun i o' ao' hi hi' => ?_⟩
      cases i with
      | zero =>
        simp at hi hi'
        subst hi; subst hi'
        exact ⟨rfl, rfl, hd, hg⟩
      | succ i => exact h2 i o' ao' (by simpa using hi) (by simpa using hi')
    · simp at h

/-- what is still to be done -/
def todo (aos : List AOper) (listed : Array Bool) : List (Nat × AOper) := (number aos).filter fun p => !listed.getD p.1 true

theorem any_ok {muts : List FuncId} {ops : Array Oper} {aos : List AOper} {bef : List (List Nat)} {base : Nat} {Q : Exit → Act → World → Prop} {K : St → Prop} (hK : ∀ s t, Eqv s t → K s → K t) (hlen : aos.length = ops.size)
    (htr : ∀ (i : Nat) (o : Oper) (ao : AOper), ops[i]? = some o → aos[i]? = some ao → trOp1 P muts o.op = ao.op ∧ ao.dst = o.dst ∧ dstOk N o.dst = true ∧ trGuard ops o.guard = some ao.guard)
    (hbef : befOk ops bef = true) (hap : apartOk bef aos = true) (hQ : ∀ a' w', Goes N C0 K a' w' → Q .normal a' w') :
    ∀ (fuel : Nat) (listed : Array Bool) (past : List (Nat × Foot)) (σ : St) (C : Ctx) (a : Act), listed.size = ops.size → (todo aos listed).length ≤ fuel → (∀ j, listed.getD j false = true → ∀ k ∈ bef.getD j [], listed.getD k false = true) →
      Rel N C0 σ C a → wdops P base bef (todo aos listed) past σ K → wpAnyIn (FR md) 0 P .any ops Q fuel listed a C.w := by
  have hb : ∀ {j : Nat} {o : Oper}, ops[j]? = some o → (∀ k ∈ edges o, k ∈ bef.getD j []) ∧ ∀ k ∈ bef.getD j [], k < j ∧ (k ∈ edges o ∨ ∃ m ∈ edges o, k ∈ bef.getD m []) := by
    intro j o hj
    unfold befOk at hbef
    rw [List.all_eq_true] at hbef
    have := hbef j (List.mem_range.2 ((Array.getElem?_eq_some_iff.1 hj).1))
    rw [hj] at this
    simp only [Bool.and_eq_true, List.all_eq_true, List.contains_iff_mem, decide_eq_true_eq, Bool.or_eq_true, List.any_eq_true] at this
    exact ⟨this.1, fun k hk => this.2 k hk⟩
  have hedge : ∀ {o : Oper} {e : Edge}, e ∈ o.after → Region.binds .any e = true → e.on ∈ edges o := fun {o e} he hbd => by
    unfold edges
    rw [List.mem_filterMap]
    exact ⟨e, by simpa using he, by simp [hbd]⟩
  have hedge' : ∀ {o : Oper} {k : Nat}, k ∈ edges o → ∃ e ∈ o.after, Region.binds .any e = true ∧ e.on = k := fun {o k} hk => by
    unfold edges at hk
    rw [List.mem_filterMap] at hk
    obtain ⟨e, he, hk⟩ := hk
    split at hk
    · rename_i hbd; exact ⟨e, by simpa using he, hbd, by simpa using hk⟩
    · simp at hk
  intro fuel
  -- nothing is ready only where nothing is left
  have hready : ∀ (listed : Array Bool), listed.size = ops.size → Region.ready .any ops listed = [] → todo aos listed = [] := by
    intro listed hsz hr
    cases htd : todo aos listed with
    | nil => rfl
    | cons p L =>
      obtain ⟨i, ao⟩ := p
      have hmem : (i, ao) ∈ todo aos listed := by rw [htd]; simp
      have hsort : (todo aos listed).Pairwise fun p q => p.1 < q.1 := (number_sorted aos).filter _
      unfold todo at hmem
      rw [List.mem_filter, mem_number] at hmem
      obtain ⟨hi, hl⟩ := hmem
      have hlt : i < ops.size := by rw [← hlen]; exact lt_of_get hi
      have : i ∈ Region.ready .any ops listed := by
        rw [mem_ready]
        refine ⟨by simpa using hl, ops[i], Array.getElem?_eq_getElem hlt, fun e he hbd => ?_⟩
        have hk := ((hb (Array.getElem?_eq_getElem hlt)).1 _ (hedge he hbd))
        have hki := ((hb (Array.getElem?_eq_getElem hlt)).2 _ hk).1
        cases hgd : listed.getD e.on false with
        | true => rfl
        | false =>
          exfalso
          have hlt' : e.on < aos.length := by rw [hlen]; omega
          have hm : (e.on, aos[e.on]) ∈ todo aos listed := by
            unfold todo
            rw [List.mem_filter, mem_number]
            refine ⟨List.getElem?_eq_getElem hlt', ?_⟩
            have : e.on < listed.size := by omega
            simp only [Array.getD_eq_getD_getElem?, Array.getElem?_eq_getElem this, Option.getD_some] at hgd ⊢
            simp [hgd]
          rw [htd] at hm hsort
          rcases List.mem_cons.1 hm with hm | hm
          · simp only [Prod.mk.injEq] at hm; omega
          · have := (List.pairwise_cons.1 hsort).1 _ hm; dsimp only at this; omega
      rw [hr] at this; simp at this
  induction fuel with
  | zero =>
    intro listed past σ C a hsz hf _ hR hw
    have hnil : todo aos listed = [] := List.length_eq_zero_iff.1 (Nat.le_zero.1 hf)
    rw [hnil] at hw
    refine ⟨?_, hQ _ _ ⟨σ, C, rfl, hw, hR⟩⟩
    cases hr : Region.ready .any ops listed with
    | nil => rfl
    | cons i r =>
      have hm : i ∈ Region.ready .any ops listed := by rw [hr]; simp
      rw [mem_ready] at hm
      obtain ⟨h1, o, ho, _⟩ := hm
      have hlt : i < aos.length := by rw [hlen]; exact (Array.getElem?_eq_some_iff.1 ho).1
      have : (i, aos[i]) ∈ todo aos listed := by
        unfold todo
        rw [List.mem_filter, mem_number]
        exact ⟨List.getElem?_eq_getElem hlt, by simpa using h1⟩
      rw [hnil] at this; simp at this
  | succ fuel ih =>
    intro listed past σ C a hsz hf hdown hR hw
    refine ⟨fun hr => ?_, fun i hi => ?_⟩
    · have := hready listed hsz hr
      rw [this] at hw
      exact hQ _ _ ⟨σ, C, rfl, hw, hR⟩
    · have hi' := hi
      rw [mem_ready] at hi
      obtain ⟨hl, o, ho, hall⟩ := hi
      have hlt : i < aos.length := by rw [hlen]; exact (Array.getElem?_eq_some_iff.1 ho).1
      have hao : aos[i]? = some aos[i] := List.getElem?_eq_getElem hlt
      have hsort : (todo aos listed).Pairwise fun p q => p.1 < q.1 := (number_sorted aos).filter _
      have hmem : (i, aos[i]) ∈ todo aos listed := by
        unfold todo
        rw [List.mem_filter, mem_number]
        exact ⟨hao, by simpa using hl⟩
      obtain ⟨L1, R, hLR⟩ := List.append_of_mem hmem
      rw [hLR] at hsort
      obtain ⟨_, hs2, hs3⟩ := List.pairwise_append.1 hsort
      have hs4 := List.pairwise_cons.1 hs2
      have hbefl : ∀ k ∈ bef.getD i [], listed.getD k false = true := fun k hk => by
        rcases ((hb ho).2 k hk).2 with hk | ⟨m, hm, hk⟩
        · obtain ⟨e, he, hbd, rfl⟩ := hedge' hk; exact hall e he hbd
        · obtain ⟨e, he, hbd, rfl⟩ := hedge' hm; exact hdown _ (hall e he hbd) k hk
      have hL1 : ∀ p ∈ L1, p.1 ∉ bef.getD i [] ∧ i ∉ bef.getD p.1 [] ∧ apart p.2 aos[i] = true := by
        intro p hp
        have hpi : p.1 < i := hs3 p hp (i, aos[i]) (by simp)
        have hpm : p ∈ todo aos listed := by rw [hLR]; simp [hp]
        unfold todo at hpm
        rw [List.mem_filter] at hpm
        have hpn : aos[p.1]? = some p.2 := mem_number.1 hpm.1
        have h1 : p.1 ∉ bef.getD i [] := fun hin => by
          have h2 := hbefl _ hin
          have h3 := hpm.2
          have : p.1 < listed.size := by rw [hsz, ← hlen]; omega
          simp only [Array.getD_eq_getD_getElem?, Array.getElem?_eq_getElem this, Option.getD_some] at h2 h3
          rw [h2] at h3; simp at h3
        have hop : ops[p.1]? = some (ops[p.1]'(by rw [← hlen]; omega)) := Array.getElem?_eq_getElem _
        refine ⟨h1, fun hin => ?_, ?_⟩
        · have := ((hb hop).2 _ hin).1; omega
        · unfold apartOk at hap
          rw [List.all_eq_true] at hap
          have := hap i (List.mem_range.2 hlt)
          rw [List.all_eq_true] at this
          have := this p.1 (List.mem_range.2 hpi)
          rw [hpn, hao] at this
          simp only [Bool.or_eq_true, List.contains_iff_mem] at this
          exact this.resolve_left h1
      rw [hLR] at hw
      have hw' := take_first hK L1 past σ hL1 hw
      have htodo : todo aos (listed.setIfInBounds i true) = L1 ++ R := by
        have h1 : todo aos (listed.setIfInBounds i true) = (todo aos listed).filter fun p => p.1 != i := by
          unfold todo
          rw [List.filter_filter]
          refine List.filter_congr fun p hp => ?_
          by_cases hpi : p.1 = i
          · rw [hpi]
            have : i < listed.size := by rw [hsz, ← hlen]; exact hlt
            simp [Array.getD_eq_getD_getElem?, this]
          · rw [getD_set_ne true (Ne.symm hpi)]
            simp [hpi]
        rw [h1, hLR, List.filter_append, List.filter_cons]
        simp only [bne_self_eq_false, Bool.false_eq_true, if_false]
        congr 1
        · exact List.filter_eq_self.2 fun p hp => by have := hs3 p hp (i, aos[i]) (by simp); dsimp only at this; simp; omega
        · exact List.filter_eq_self.2 fun p hp => by have := hs4.1 p hp; dsimp only at this; simp; omega
      simp only [wdops] at hw'
      obtain ⟨t1, t2, t3, t4⟩ := htr i o aos[i] ho hao
      refine wpOp_ok hR ho t1 t2 t3 t4 hw'.2 ?_
      rintro a' w' ⟨σ', C', rfl, hK', hR'⟩
      refine ih _ _ σ' C' a' (by simp [hsz]) ?_ ?_ hR' (by rw [htodo]; exact hK')
      · have : (todo aos listed).length = (L1 ++ R).length + 1 := by rw [hLR]; simp; omega
        rw [htodo]; omega
      · intro j hj k hk
        by_cases hji : j = i
        · subst hji; exact getD_set_true (hbefl k hk)
        · rw [getD_set_ne false (Ne.symm hji)] at hj
          exact getD_set_true (hdown j hj k hk)

/-! code -/
def trReg (P : Program) (muts : List FuncId) (N : Nat) (ops : Array Oper) (draw : Bool) : Option ACode :=
  (trOpers P muts N ops 0 ops.toList).bind fun x =>
    if draw then (if P.follows .mixedOrders && befOk ops (befs ops.toList) && apartOk (befs ops.toList) x.1 then some (.dreg x.2 (number x.1) (befs ops.toList)) else none) else some (.reg x.2 x.1)
def trCode (P : Program) (muts : List FuncId) (N : Nat) : Code → Option ACode
  | .skip => some .skip
  | .region _ ops draw => trReg P muts N ops draw
  | .seq x y => (trCode P muts N x).bind fun p => (trCode P muts N y).map fun q => .seq p q
  | .cond c x y => (trCode P muts N x).bind fun p => (trCode P muts N y).map fun q => .cond (opd c) p q
  | .block id x => (trCode P muts N x).map (.block id)
  | .loop x => (trCode P muts N x).map .loop
  | .exit id => some (.exit id)
  | .ret => some .ret
  | .rangeFunc g ps x y => if ps.toList.all (fun t => decide (t < N)) then (trCode P muts N x).bind fun p => (trCode P muts N y).map fun q => .range (opd g) ps.toList p q else none
  | _ => none

/-- what code comes to, from an abstract state; 'b': so many blocks are the caller's -/
def T (md : Option Nat) (P : Program) (muts : List FuncId) (N b : Nat) (ac : ACode) (σ : St) (K : Exit → St → Prop) : Prop :=
  ∀ c, trCode P muts N c = some ac → ∀ C0 C a, C0.H.length = b → Rel N C0 σ C a → c.wpIn (FR md) 0 P (fun e a' w' => Goes N C0 (K e) a' w') a C.w

/-- a state that says less -/
def Weak (N b : Nat) (σ σ' : St) : Prop := ∀ C0 C a, C0.H.length = b → Rel N C0 σ C a → ∃ C', C'.w = C.w ∧ Rel N C0 σ' C' a
end

section
variable {P : Program} {muts : List FuncId} {N b : Nat} {σ : St} {K : Exit → St → Prop} {md : Option Nat}

theorem T_mono {ac : ACode} {K' : Exit → St → Prop} (h : T md P muts N b ac σ K) (hk : ∀ e s, K e s → K' e s) : T md P muts N b ac σ K' := fun c hc C0 C a hb hR =>
  wpIn_mono (h c hc C0 C a hb hR) fun _ _ _ ⟨σ', C', hw, hK, hR'⟩ => ⟨σ', C', hw, hk _ _ hK, hR'⟩

theorem T_weak {ac : ACode} {σ' : St} (hw : Weak N b σ σ') (h : T md P muts N b ac σ' K) : T md P muts N b ac σ K := fun c hc C0 C a hb hR => by
  obtain ⟨C', hw', hR'⟩ := hw C0 C a hb hR
  have := h c hc C0 C' a hb hR'
  rw [hw'] at this
  exact this

theorem trReg_shape {ops : Array Oper} {draw : Bool} {ac : ACode} (h : trReg P muts N ops draw = some ac) : ∃ aos n, trOpers P muts N ops 0 ops.toList = some (aos, n) ∧
    ((draw = false ∧ ac = .reg n aos) ∨ (draw = true ∧ P.follows .mixedOrders = true ∧ befOk ops (befs ops.toList) = true ∧ apartOk (befs ops.toList) aos = true ∧ ac = .dreg n (number aos) (befs ops.toList))) := by
  unfold trReg at h
  rw [Option.bind_eq_some_iff] at h
  obtain ⟨⟨aos, n⟩, h1, h⟩ := h
  refine ⟨aos, n, h1, ?_⟩
  split at h
  · rename_i hd
    split at h
    · rename_i hc
      simp only [Bool.and_eq_true] at hc
      exact .inr ⟨hd, hc.1.1, hc.1.2, hc.2, (Option.some.inj h).symm⟩
    · simp at h
  · rename_i hd
    exact .inl ⟨by simpa using hd, (Option.some.inj h).symm⟩
theorem no_reg {ops : Array Oper} {draw : Bool} {ac : ACode} (h : trReg P muts N ops draw = some ac) : (∃ n aos, ac = .reg n aos) ∨ ∃ n l b, ac = .dreg n l b := by
  obtain ⟨aos, n, _, ⟨_, h⟩ | ⟨_, _, _, _, h⟩⟩ := trReg_shape h
  · exact .inl ⟨_, _, h⟩
  · exact .inr ⟨_, _, _, h⟩
theorem tr_skip {c : Code} (h : trCode P muts N c = some .skip) : c = .skip := by
  cases c <;> simp [trCode, Option.bind_eq_some_iff, Option.map_eq_some_iff] at h ⊢
  simpa using no_reg h
theorem tr_ret {c : Code} (h : trCode P muts N c = some .ret) : c = .ret := by
  cases c <;> simp [trCode, Option.bind_eq_some_iff, Option.map_eq_some_iff] at h ⊢
  simpa using no_reg h
theorem tr_exit {c : Code} {id : Nat} (h : trCode P muts N c = some (.exit id)) : c = .exit id := by
  cases c <;> simp [trCode, Option.bind_eq_some_iff, Option.map_eq_some_iff] at h ⊢
  · simpa using no_reg h
  · exact h
theorem tr_reg {c : Code} {n : Nat} {aos : List AOper} (h : trCode P muts N c = some (.reg n aos)) : ∃ id ops, c = .region id ops false ∧ trOpers P muts N ops 0 ops.toList = some (aos, n) := by
  cases c <;> simp [trCode, Option.bind_eq_some_iff, Option.map_eq_some_iff] at h ⊢
  obtain ⟨aos', n', h1, ⟨h2, h3⟩ | ⟨_, _, _, _, h3⟩⟩ := trReg_shape h
  · simp only [ACode.reg.injEq] at h3; obtain ⟨rfl, rfl⟩ := h3; exact ⟨_, _, ⟨rfl, rfl, h2⟩, h1⟩
  · simp at h3
theorem tr_dreg {c : Code} {n : Nat} {l : List (Nat × AOper)} {bef : List (List Nat)} (h : trCode P muts N c = some (.dreg n l bef)) : ∃ id ops aos, c = .region id ops true ∧ trOpers P muts N ops 0 ops.toList = some (aos, n) ∧
    P.follows .mixedOrders = true ∧ befOk ops bef = true ∧ apartOk bef aos = true ∧ l = number aos := by
  cases c <;> simp [trCode, Option.bind_eq_some_iff, Option.map_eq_some_iff] at h ⊢
  obtain ⟨aos', n', h1, ⟨h2, h3⟩ | ⟨h2, h4, h5, h6, h3⟩⟩ := trReg_shape h
  · simp at h3
  · simp only [ACode.dreg.injEq] at h3; obtain ⟨rfl, rfl, rfl⟩ := h3; exact ⟨_, _, ⟨rfl, rfl, h2⟩, _, h1, h4, h5, h6, rfl⟩
theorem tr_seq {c : Code} {p q : ACode} (h : trCode P muts N c = some (.seq p q)) : ∃ x y, c = .seq x y ∧ trCode P muts N x = some p ∧ trCode P muts N y = some q := by
  cases c <;> simp [trCode, Option.bind_eq_some_iff, Option.map_eq_some_iff] at h ⊢
  case region => simpa using no_reg h
  exact ⟨_, _, ⟨rfl, rfl⟩, h⟩
theorem tr_cond {c : Code} {o : Opd} {p q : ACode} (h : trCode P muts N c = some (.cond o p q)) : ∃ x c1 c2, c = .cond x c1 c2 ∧ o = opd x ∧ trCode P muts N c1 = some p ∧ trCode P muts N c2 = some q := by
  cases c <;> simp [trCode, Option.bind_eq_some_iff, Option.map_eq_some_iff] at h ⊢
  case region => simpa using no_reg h
  obtain ⟨p', hp, q', hq, rfl, rfl, rfl⟩ := h
  exact ⟨_, _, _, ⟨rfl, rfl, rfl⟩, rfl, hp, hq⟩
theorem tr_block {c : Code} {id : Nat} {p : ACode} (h : trCode P muts N c = some (.block id p)) : ∃ x, c = .block id x ∧ trCode P muts N x = some p := by
  cases c <;> simp [trCode, Option.bind_eq_some_iff, Option.map_eq_some_iff] at h ⊢
  case region => simpa using no_reg h
  exact ⟨_, ⟨h.2, rfl⟩, h.1⟩
theorem tr_loop {c : Code} {p : ACode} (h : trCode P muts N c = some (.loop p)) : ∃ x, c = .loop x ∧ trCode P muts N x = some p := by
  cases c <;> simp [trCode, Option.bind_eq_some_iff, Option.map_eq_some_iff] at h ⊢
  case region => simpa using no_reg h
  exact h

theorem tr_range {c : Code} {f : Opd} {ps : List Nat} {p q : ACode} (h : trCode P muts N c = some (.range f ps p q)) : ∃ g ps' x y, c = .rangeFunc g ps' x y ∧ f = opd g ∧ ps = ps'.toList ∧ (∀ t ∈ ps, t < N) ∧ trCode P muts N x = some p ∧ trCode P muts N y = some q := by
  cases c <;> simp [trCode, Option.bind_eq_some_iff, Option.map_eq_some_iff] at h ⊢
  case region => simpa using no_reg h
  obtain ⟨h0, p', hp, q', hq, rfl, rfl, rfl, rfl⟩ := h
  exact ⟨_, _, _, _, ⟨rfl, rfl, rfl, rfl⟩, rfl, rfl, fun t ht => by obtain ⟨i, hi, rfl⟩ := Array.mem_iff_getElem.1 (Array.mem_toList_iff.1 ht); exact h0 i hi, hp, hq⟩

theorem T_skip (h : K .normal σ) : T md P muts N b .skip σ K := fun c hc C0 C a _ hR => by
  rw [tr_skip hc]
  exact wpIn_skip ⟨σ, C, rfl, h, hR⟩
theorem T_ret (h : K .ret σ) : T md P muts N b .ret σ K := fun c hc C0 C a _ hR => by
  rw [tr_ret hc]
  exact wpIn_ret ⟨σ, C, rfl, h, hR⟩
theorem T_exit {id : Nat} (h : K (.exit id) σ) : T md P muts N b (.exit id) σ K := fun c hc C0 C a _ hR => by
  rw [tr_exit hc]
  exact wpIn_exit ⟨σ, C, rfl, h, hR⟩
theorem T_reg {n : Nat} {aos : List AOper} (h : wops P σ.heap.length aos ⟨σ.slots, σ.heap ++ List.replicate n .resv⟩ (K .normal)) : T md P muts N b (.reg n aos) σ K := fun c hc C0 C a _ hR => by
  obtain ⟨id, ops, rfl, ht⟩ := tr_reg hc
  refine wpIn_region ?_
  have := ops_ok (md := md) (P := P) (muts := muts) (ops := ops) (base := σ.heap.length) (C0 := C0) (N := N) (Q := fun e a' w' => Goes N C0 (K e) a' w') (K := K .normal) (fun a' w' h => h) ops.toList 0 aos 0 n _ _ a (fun j => by simp) ht (resv_ok hR n) h
  rw [List.range_eq_range']
  simpa using this
theorem eqv_rel {C0 C : Ctx} {σ τ : St} {a : Act} (h : Eqv σ τ) (hR : Rel N C0 τ C a) : Rel N C0 σ C a :=
  ⟨by rw [hR.heap, h.1], hR.rel, hR.step, ⟨fun t => by rw [h.2]; exact hR.slots.at_ t⟩, hR.defers, hR.size⟩
theorem drawn_ok {C0 C : Ctx} {σ : St} {a : Act} (hR : Rel N C0 σ C a) : Rel N C0 σ ⟨C.H, C.m, { C.w with drawn := C.w.drawn + 1 }, C.prot⟩ a := by
  have hs : Step C ⟨C.H, C.m, { C.w with drawn := C.w.drawn + 1 }, C.prot⟩ :=
    ⟨rfl, rfl, rfl, rfl, Nat.le_refl _, Nat.le_refl _, fun _ _ _ => rfl, fun _ c _ f h => ⟨c, f, h, rfl⟩, fun _ h => .inl h,
      fun _ B hB hr => ⟨⟨B, hB, hr⟩, fun own' _ _ els' h => ⟨own', els', by dsimp only at h; rw [hB] at h; exact Option.some.inj h, rfl, fun h => h, rfl⟩⟩, fun _ o h => ⟨o, h, rfl, rfl⟩, fun _ o B h h' _ => ⟨o, by dsimp only at h; rw [h] at h'; exact (Option.some.inj h').symm⟩⟩
  refine ⟨hR.heap, ⟨hR.rel.len, ?_, hR.rel.inj, hR.rel.prot, hR.rel.obj, hR.rel.oinj, fun id r s ho t => Conc.mono hs _ _ (hR.rel.lps id r s ho t)⟩, hR.step.trans hs, ⟨fun t => Conc.mono hs _ _ (hR.slots.at_ t)⟩, hR.defers.same rfl, hR.size⟩
  intro id own nil sz els h1
  rcases hR.rel.blk id own nil sz els h1 with h3 | ⟨hn, b, base, c, e, h3, h4, h5, h6⟩
  · exact .inl h3
  · exact .inr ⟨hn, b, base, c, e, h3, h4, h5, RowsAt.keep hs els b base sz (fun _ _ _ => rfl) h6⟩
theorem T_dreg {n : Nat} {l : List (Nat × AOper)} {bef : List (List Nat)} (h : wdops P σ.heap.length bef l [] ⟨σ.slots, σ.heap ++ List.replicate n .resv⟩ (K .normal)) : T md P muts N b (.dreg n l bef) σ K := fun c hc C0 C a _ hR => by
  obtain ⟨id, ops, aos, rfl, ht, hm, hb, ha, rfl⟩ := tr_dreg hc
  obtain ⟨h1, h2⟩ := trOpers_get _ _ _ _ ht
  have hlen : aos.length = ops.size := by simpa using h1
  have h0 : ∀ i, i < ops.size → (Array.replicate ops.size false).getD i true = false := fun i hi => by simp [Array.getD_eq_getD_getElem?, hi]
  have htodo : todo aos (Array.replicate ops.size false) = number aos := List.filter_eq_self.2 fun p hp => by
    have : aos[p.1]? = some p.2 := mem_number.1 hp
    rw [h0 _ (by rw [← hlen]; exact lt_of_get this)]; rfl
  refine wpIn_region_any hm (any_ok (md := md) (P := P) (muts := muts) (aos := aos) (bef := bef) (base := σ.heap.length) (C0 := C0) (N := N) (K := fun τ => ∃ υ, Eqv τ υ ∧ K .normal υ) (fun s t hst ⟨υ, h1, h2⟩ => ⟨υ, hst.symm.trans h1, h2⟩) hlen (fun i o ao hi => h2 i o ao (by simpa using hi)) hb ha ?_ _ _ [] _ _ a (by simp) ?_ ?_ (drawn_ok (resv_ok hR n)) ?_)
  · rintro a' w' ⟨σ', C', rfl, ⟨υ, h3, h4⟩, hR'⟩
    exact ⟨υ, C', rfl, h4, eqv_rel h3.symm hR'⟩
  · rw [htodo, ← hlen]; unfold number; simp
  · intro j hj
    exfalso
    by_cases hjs : j < ops.size
    · simp [Array.getD_eq_getD_getElem?, hjs] at hj
    · simp [Array.getD_eq_getD_getElem?, hjs] at hj
  · rw [htodo]
    exact wdops_mono _ _ _ (fun s hs => ⟨s, Eqv.refl s, hs⟩) h
/-- what is asked of what stands behind -/
def thenK (k : St → Prop) (K : Exit → St → Prop) : Exit → St → Prop
  | .normal, s => k s
  | e, s => K e s
theorem T_seq {p q : ACode} (h : T md P muts N b p σ (thenK (fun s => T md P muts N b q s K) K)) : T md P muts N b (.seq p q) σ K := fun c hc C0 C a hb hR => by
  obtain ⟨x, y, rfl, hx, hy⟩ := tr_seq hc
  refine wpIn_seq (wpIn_mono (h x hx C0 C a hb hR) ?_)
  rintro e a' w' ⟨σ', C', rfl, hK, hR'⟩
  cases e with
  | normal => exact hK y hy C0 C' a' hb hR'
  | _ => exact ⟨σ', C', rfl, hK, hR'⟩
theorem T_cond {o : Opd} {p q : ACode} {t : Bool} (hv : ev σ.get o = .lit (.bool t)) (h1 : t = true → T md P muts N b p σ K) (h2 : t = false → T md P muts N b q σ K) : T md P muts N b (.cond o p q) σ K := fun c hc C0 C a hb hR => by
  obtain ⟨x, c1, c2, rfl, rfl, hp, hq⟩ := tr_cond hc
  have := hR.slots.lit hv
  exact wpIn_cond_split this (fun ht => h1 ht c1 hp C0 C a hb hR) (fun ht => h2 ht c2 hq C0 C a hb hR)
def blockK (id : Nat) (K : Exit → St → Prop) : Exit → St → Prop
  | .exit i, s => if i = id then K .normal s else K (.exit i) s
  | e, s => K e s
theorem T_block {id : Nat} {p : ACode} (h : T md P muts N b p σ (blockK id K)) : T md P muts N b (.block id p) σ K := fun c hc C0 C a hb hR => by
  obtain ⟨x, rfl, hx⟩ := tr_block hc
  refine wpIn_block (wpIn_mono (h x hx C0 C a hb hR) ?_)
  rintro e a' w' ⟨σ', C', rfl, hK, hR'⟩
  cases e with
  | exit i =>
    simp only [blockK] at hK
    simp only [Exit.inBlock]
    split at hK
    · rename_i hi; rw [if_pos hi]; exact ⟨σ', C', rfl, hK, hR'⟩
    · rename_i hi; rw [if_neg hi]; exact ⟨σ', C', rfl, hK, hR'⟩
  | _ => exact ⟨σ', C', rfl, hK, hR'⟩
theorem exists_least {p : Nat → Prop} (h : ∃ n, p n) : ∃ n, p n ∧ ∀ m, p m → n ≤ m := by
  obtain ⟨n, hn⟩ := h
  induction n using Nat.strongRecOn with
  | _ n ih =>
    by_cases hs : ∃ m, m < n ∧ p m
    · obtain ⟨m, hm, hp⟩ := hs; exact ih m hm hp
    · exact ⟨n, hn, fun m hm => Nat.le_of_not_lt fun hlt => hs ⟨m, hlt, hm⟩⟩
noncomputable def least (p : Nat → Prop) : Nat := @dite Nat (∃ n, p n) (Classical.propDecidable _) (fun h => Classical.choose (exists_least h)) (fun _ => 0)
theorem least_spec {p : Nat → Prop} (h : ∃ n, p n) : p (least p) ∧ ∀ m, p m → least p ≤ m := by
  unfold least; rw [dif_pos h]; exact Classical.choose_spec (exists_least h)

/-- a loop: what holds at every round's head, with a number that falls -/
theorem T_loop {p : ACode} (I : Nat → St → Prop) (n : Nat) (h0 : I n σ) (h : ∀ n s, I n s → T md P muts N b p s (thenK (fun s' => ∃ n', n' < n ∧ ∃ s'', Weak N b s' s'' ∧ I n' s'') K)) : T md P muts N b (.loop p) σ K := fun c hc C0 C a hb hR => by
  obtain ⟨x, rfl, hx⟩ := tr_loop hc
  let J : Nat → Act → World → Prop := fun n a w => ∃ σ C, C.w = w ∧ I n σ ∧ Rel N C0 σ C a
  refine wpIn_loop (fun a w => ∃ n, J n a w) (fun a w => least fun n => J n a w) ⟨n, σ, C, rfl, h0, hR⟩ ?_
  intro a w hI
  obtain ⟨s, C1, rfl, hIn, hR1⟩ := (least_spec hI).1
  refine wpIn_mono (h _ s hIn x hx C0 C1 a hb hR1) ?_
  rintro e a' w' ⟨σ', C', rfl, hK, hR'⟩
  cases e with
  | normal =>
    obtain ⟨n', hlt, s'', hw, hI'⟩ := hK
    obtain ⟨C'', hw'', hR''⟩ := hw C0 C' a' hb hR'
    have hJ : J n' a' C'.w := ⟨s'', C'', hw'', hI', hR''⟩
    have hex : ∃ n, J n a' C'.w := ⟨n', hJ⟩
    exact ⟨hex, Nat.lt_of_le_of_lt ((least_spec hex).2 _ hJ) hlt⟩
  | _ => exact ⟨σ', C', rfl, hK, hR'⟩
end
end Go.Abs
