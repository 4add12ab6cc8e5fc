/- Regions, code, bodies. -/
import Derived.Test.YtodheeifecoebaaAbs12
import Derived.RangeFuncNested
import Derived.OrdersIn
import Derived.LoopIn
set_option linter.all false
set_option linter.unusedVariables false
set_option linter.unusedSimpArgs false
set_option linter.unusedSectionVars false
namespace Go.Abs
open Go.RowKit

def target : AV → Option (FuncId × List AV × List AV)
  | .lit (.func (.func g) first cap) => some (g, first.toList.map ofValue, cap.toList.map ofValue)
  | .clo (.func g) first cap => some (g, first, cap)
  | _ => none

/-- the walk's fence: everything is let in; in a round, or not -/
abbrev FR (md : Option Nat) : Fence := { fn := fun _ => True, depth := none, alive := false, round := md }
/-- a call of yield: the same as of a function -/
def AYield (P : Program) (id : Nat) (args : List AV) (H : List Blk) (Q : AV → List Blk → Prop) : Prop :=
  ∀ (C : Ctx) (cargs : List Value) (b : Nat), C.H = H → HeapRel C → C.m[id]? = some (some (b, 0)) → ConcL C args cargs → YieldAt Fence.wide 0 P b cargs.toArray C.w fun e w' =>
    ∃ u r H' m', e = .returned u ∧ Q r H' ∧ Step C ⟨H', m', w', C.prot⟩ ∧ HeapRel ⟨H', m', w', C.prot⟩ ∧ Conc ⟨H', m', w', C.prot⟩ r u
theorem YieldAt.mono' {F : Fence} {m : Nat} {P : Program} {l : Nat} {args : Array Value} {W : World} {R R' : Ending → World → Prop} (h : YieldAt F m P l args W R) (hr : ∀ e w', R e w' → R' e w') : YieldAt F m P l args W R' := by
  obtain ⟨fn, tmps, assign, body, h1, h2⟩ := h
  exact ⟨fn, tmps, assign, body, h1, h2.mono hr⟩
theorem AYield.mono {P : Program} {l : Nat} {args : List AV} {H : List Blk} {Q Q' : AV → List Blk → Prop} (h : AYield P l args H Q) (hq : ∀ r H', Q r H' → Q' r H') : AYield P l args H Q' :=
  fun C cargs b h1 h2 h0 h3 => YieldAt.mono' (h C cargs b h1 h2 h0 h3) fun _ _ ⟨u, r, H', m', e1, e2, e3⟩ => ⟨u, r, H', m', e1, hq _ _ e2, e3⟩

def wcall (P : Program) (raw : Bool) (f : AV) (args : List AV) (dst : Option Nat) (σ : St) (K : St → Prop) : Prop :=
  match target f with
  | some (g, first, cap) =>
    if raw then ACall P g (first ++ args ++ cap) σ.heap fun r H' => K (St.put ⟨σ.slots, H'⟩ dst r)
    else plainL (rfyL (hget σ.heap) (first ++ args ++ cap)) = true ∧
      ACall P g (rfyL (hget σ.heap) (first ++ args ++ cap)) [] fun r new =>
        K (St.put ⟨σ.slots, freeze σ.heap (lidsL (hget σ.heap) (first ++ args ++ cap)) ++ new.map (renB (shiftρ σ.heap.length))⟩ dst (ren (shiftρ σ.heap.length) r))
  | none => match f with
    | .mp id => match hget σ.heap id with
      | .obj (.lp ..) => AYield P id args σ.heap fun r H' => K (St.put ⟨σ.slots, H'⟩ dst r)
      | _ => False
    | _ => False

def wrun (P : Program) (base : Nat) (o : AOper) (σ : St) (K : St → Prop) : Prop :=
  match o.op with
  | .call raw f args => wcall P raw (ev σ.get f) (args.map (ev σ.get)) o.dst σ K
  | op => (op.makes = true → σ.heap[base + o.fr]? = some .resv) ∧ match aop (base + o.fr) σ.get (hget σ.heap) op with
    | some (v, ws) => K (St.put ⟨σ.slots, writes σ.heap ws⟩ o.dst v)
    | none => False

def wstep (P : Program) (base : Nat) (o : AOper) (σ : St) (K : St → Prop) : Prop :=
  match o.guard with
  | none => wrun P base o σ K
  | some (g, want) => match σ.get g with
    | .lit (.bool b) => if b = want then wrun P base o σ K else K (σ.put o.dst (.lit undef))
    | .lit (.tuple _) => K (σ.put o.dst (.lit undef))
    | _ => False

def wops (P : Program) (base : Nat) : List AOper → St → (St → Prop) → Prop
  | [], σ, K => K σ
  | o :: r, σ, K => wstep P base o σ fun σ' => wops P base r σ' K

def trGuard (ops : Array Oper) : Option (Nat × Bool) → Option (Option (Nat × Bool))
  | none => some none
  | some (j, want) => ((ops[j]?).bind (·.dst)).map fun g => some (g, want)
def dstOk (N : Nat) : Option Tmp → Bool
  | none => true
  | some d => d < N
/-- what can't be told is bad: to be shown never reached -/
def trOp1 (P : Program) (muts : List FuncId) (op : Op) : AOp := (trOp P muts op).getD .bad
def trOpers (P : Program) (muts : List FuncId) (N : Nat) (ops : Array Oper) : Nat → List Oper → Option (List AOper × Nat)
  | k, [] => some ([], k)
  | k, o :: r => (trGuard ops o.guard).bind fun g =>
    if dstOk N o.dst then (trOpers P muts N ops (if (trOp1 P muts o.op).makes then k + 1 else k) r).map fun x => (⟨o.dst, trOp1 P muts o.op, g, k⟩ :: x.1, x.2) else none

section
variable {P : Program} {N : Nat} {C0 C : Ctx} {σ : St} {a : Act}

theorem get_put (σ : St) (d : Option Nat) (v : AV) (t : Nat) : (σ.put d v).get t = if d = some t then v else σ.get t := by
  cases d with
  | none => simp [St.put, St.get]
  | some d => simp [St.put, St.get, look]

theorem Rel.put {σ : St} {C' : Ctx} (h : Rel N C0 σ C a) (hs : Step C C') (hR : HeapRel C') {d : Option Nat} (hd : dstOk N d = true) {v : AV} {u : Value} (hv : Conc C' v u) : Rel N C0 (St.put ⟨σ.slots, C'.H⟩ d v) C' (a.put d u) := by
  have hheap : (St.put ⟨σ.slots, C'.H⟩ d v).heap = C'.H := by cases d <;> rfl
  refine ⟨hheap.symm, hR, h.step.trans hs, ⟨fun t => ?_⟩, by cases d <;> exact h.defers.mono h.rel hs, by cases d <;> simp [Act.put]; exact h.size; exact h.size⟩
  rw [get_put]
  have hold : Conc C' (St.get ⟨σ.slots, C'.H⟩ t) (a.tmps.getD t undef) := Conc.mono hs _ _ (h.slots.at_ t)
  cases d with
  | none => simpa [Act.put] using hold
  | some d =>
    simp only [dstOk, decide_eq_true_eq] at hd
    have hlt : d < a.tmps.size := Nat.lt_of_lt_of_le hd h.size
    by_cases hdt : d = t
    · subst hdt
      simp only [Act.put, if_true]
      have : (a.tmps.setIfInBounds d u).getD d undef = u := by simp [Array.getD, hlt]
      rw [this]; exact hv
    · have hne : ¬ (some d = some t) := fun h => hdt (Option.some.inj h)
      rw [if_neg hne]
      have : (a.tmps.setIfInBounds d u).getD t undef = a.tmps.getD t undef := by
        simp only [Array.getD_eq_getD_getElem?, Array.getElem?_setIfInBounds, if_neg hdt]
      simp only [Act.put]
      rw [this]; exact hold

theorem concL_ev {s : Nat → AV} (hS : Slots C s a) : ∀ l : List Operand, ConcL C ((l.map opd).map (ev s)) (l.map a.eval)
  | [] => rfl
  | x :: l => by simp only [List.map_cons, ConcL]; exact ⟨_, _, rfl, hS.ev x, concL_ev hS l⟩

theorem rfyL_len (h : Nat → Blk) (l : List AV) : (rfyL h l).length = l.length := by simp [rfyL]

theorem target_spec {f : AV} {u : Value} {g : FuncId} {first cap : List AV} (h : target f = some (g, first, cap)) (hc : Conc C f u) : ∃ uf uc, u = .func (.func g) uf uc ∧ ConcL C first uf.toList ∧ ConcL C cap uc.toList := by
  unfold target at h
  split at h
  · rename_i g' f' c'
    simp only [Option.some.injEq, Prod.mk.injEq] at h
    obtain ⟨rfl, rfl, rfl⟩ := h
    simp only [Conc] at hc
    subst hc
    exact ⟨f', c', rfl, concL_ofValue C _, concL_ofValue C _⟩
  · rename_i g' f' c'
    simp only [Option.some.injEq, Prod.mk.injEq] at h
    obtain ⟨rfl, rfl, rfl⟩ := h
    simp only [Conc] at hc
    exact hc
  · simp at h

/-- what stands behind an operation is reached -/
def Goes (N : Nat) (C0 : Ctx) (K : St → Prop) (a' : Act) (w' : World) : Prop := ∃ σ' C', C'.w = w' ∧ K σ' ∧ Rel N C0 σ' C' a'

/-- an operation in the walk's fence -/
theorem oper_in {md : Option Nat} {o : Oper} {w : World} {nxt : Act → World → Prop} {Q : Exit → Act → World → Prop} (hd : ∀ c, o.op ≠ .defer c) (h : o.uponIn (FR md) 0 P a nxt Q ((execOp a.eval o).run P w)) : o.wpIn (FR md) 0 P a w nxt Q :=
  ⟨fun _ _ => trivial, by rw [Oper.semAt_eq _ _ _ hd]; exact h⟩
theorem calls_in {md : Option Nat} {g : FuncId} {args : Array Value} {w : World} {R : Ending → World → Prop} (h : Calls P g args w R) : CallsIn (FR md) 0 P g args w R := by
  have h1 := (callsIn_wide (n := 0)).2 h
  exact ⟨trivial, fun cs hr => h1.2 cs (room_wide _)⟩

theorem call_ok {md : Option Nat} (h : Rel N C0 σ C a) {o : Oper} {raw : Bool} {f : Operand} {args : Array Operand} {ts : Array TypeId} (ho : o.op = .call { callee := .value f, args, argTypes := ts }) (hd : dstOk N o.dst = true) {K : St → Prop}
    (hw : wcall P raw (ev σ.get (opd f)) ((args.toList.map opd).map (ev σ.get)) o.dst σ K) {Q : Exit → Act → World → Prop} {nxt : Act → World → Prop} (hn : ∀ a' w', Goes N C0 K a' w' → nxt a' w') : o.wpIn (FR md) 0 P a C.w nxt Q := by
  obtain ⟨slots, heap⟩ := σ
  have hh := h.heap
  dsimp only at hh
  subst hh
  unfold wcall at hw
  dsimp only at hw
  split at hw
  · rename_i g first cap ht
    obtain ⟨uf, uc, hu, hf, hcp⟩ := target_spec ht (h.slots.ev f)
    have hargs : ConcL C (first ++ (args.toList.map opd).map (ev (St.get ⟨slots, C.H⟩)) ++ cap) (uf.toList ++ args.toList.map a.eval ++ uc.toList) := (hf.append (concL_ev h.slots _)).append hcp
    have hexec : (callFunc g (uf ++ args.map a.eval ++ uc)).run P C.w = .ok (.enter g (uf ++ args.map a.eval ++ uc)) C.w → (execOp a.eval o).run P C.w = .ok (.enter g (uf ++ args.map a.eval ++ uc)) C.w := by
      intro hcf
      simp only [Array.append_assoc] at hcf
      simp [execOp, ho, resolve, Deferred.ofValue, hu, invoke, hcf, Array.append_assoc]
    have harr : (uf.toList ++ args.toList.map a.eval ++ uc.toList).toArray = uf ++ args.map a.eval ++ uc := by
      rw [← Array.toList_inj]; simp
    split at hw
    · rename_i hraw
      refine oper_in (by rw [ho]; intro c hc; cases hc) ?_
      rw [hexec (hw.1 _ _), Oper.uponIn_enter]
      have := hw.2 C _ h.heap h.rel hargs
      rw [harr] at this
      refine ⟨fun h => (by cases h), calls_in (this.mono ?_)⟩
      rintro e w' ⟨u, r, H', m', rfl, hK, hs, hR, hc⟩
      exact hn _ _ ⟨_, ⟨_, _, w', C.prot⟩, rfl, hK, h.put hs hR hd hc⟩
    · rename_i hraw
      obtain ⟨hpl, hcall⟩ := hw
      refine oper_in (by rw [ho]; intro c hc; cases hc) ?_
      rw [hexec (hcall.1 _ _), Oper.uponIn_enter]
      obtain ⟨hs1, hR1⟩ := freeze_ok h.rel (lidsL (hget C.H) (first ++ (args.toList.map opd).map (ev (St.get ⟨slots, C.H⟩)) ++ cap))
      have hread := concL_rfy hR1 (hget C.H) (fun id own nil sz els hb => by
        have hb' : C.H[id]? = some (.cells own nil sz els) := hget_cells hb
        obtain ⟨⟨B', hB', _⟩, _⟩ := hs1.ids id _ hb' (by simp)
        -- frozen or not, the block's make is the same
        have : ∀ (ids : List Nat) (H : List Blk) own, H[id]? = some (.cells own nil sz els) → ∃ own', (freeze H ids)[id]? = some (.cells own' nil sz els) := by
          intro ids
          induction ids with
          | nil => intro H own h; exact ⟨own, h⟩
          | cons k r ih =>
            intro H own h
            have : ∃ own', (freeze1 H k)[id]? = some (.cells own' nil sz els) := by
              unfold freeze1
              split
              · rename_i n2 s2 e2 h2
                by_cases hk : id = k
                · subst hk
                  rw [h] at h2
                  simp at h2
                  obtain ⟨_, rfl, rfl, rfl⟩ := h2
                  exact ⟨false, set_get_eq (lt_of_get h)⟩
                · exact ⟨own, by rw [set_get_ne (Ne.symm hk)]; exact h⟩
              · exact ⟨own, h⟩
            obtain ⟨own', h'⟩ := this
            exact ih _ own' h'
        exact this _ _ own hb') _ _ (fun id hid B hB => freeze_not hB (.inl hid)) hpl (ConcL.mono hs1 _ _ hargs)
      have hiso := ConcL.plain (C' := ⟨[], [], C.w, Ctx.bad ⟨freeze C.H (lidsL (hget C.H) (first ++ (args.toList.map opd).map (ev (St.get ⟨slots, C.H⟩)) ++ cap)), C.m, C.w, C.prot⟩⟩) (C := ⟨freeze C.H (lidsL (hget C.H) (first ++ (args.toList.map opd).map (ev (St.get ⟨slots, C.H⟩)) ++ cap)), C.m, C.w, C.prot⟩) rfl
        (fun b hb => by rintro ((⟨id, _, _, _, _, h1, _⟩ | ⟨id, _, h1, _, _⟩) | h1); simp at h1; simp at h1; exact hb h1) _ _ hpl hread
      have hRiso : HeapRel ⟨[], [], C.w, Ctx.bad ⟨freeze C.H (lidsL (hget C.H) (first ++ (args.toList.map opd).map (ev (St.get ⟨slots, C.H⟩)) ++ cap)), C.m, C.w, C.prot⟩⟩ := by
        refine ⟨rfl, fun id _ _ _ _ h1 => by simp at h1, fun id id' _ _ _ _ _ _ _ _ _ _ _ h1 => by simp at h1, ?_, fun id _ h1 => by simp at h1, fun id _ _ _ _ _ _ _ _ _ h1 => by simp at h1, fun id _ _ h1 => by simp at h1⟩
        rintro b (h1 | h1)
        · obtain ⟨x, h2, _⟩ := own_holds hR1 h1
          exact lt_of_heap h2
        · exact hR1.prot b h1
      have := hcall.2 _ _ rfl hRiso hiso
      rw [harr] at this
      refine ⟨fun h => (by cases h), calls_in (this.mono ?_)⟩
      rintro e w' ⟨u, r, new, m', rfl, hK, hs, hR, hc⟩
      obtain ⟨h5, h6, h7⟩ := frame_call hR1 hs hR
      have hlen : (freeze C.H (lidsL (hget C.H) (first ++ (args.toList.map opd).map (ev (St.get ⟨slots, C.H⟩)) ++ cap))).length = C.H.length := by
        have : ∀ (ids : List Nat) (H : List Blk), (freeze H ids).length = H.length := by
          intro ids
          induction ids with
          | nil => intro H; rfl
          | cons k r ih => intro H; rw [freeze, ih]; unfold freeze1; split <;> simp
        exact this _ _
      dsimp only at h5 h6 h7
      rw [hlen] at h5 h6 h7
      exact hn _ _ ⟨_, ⟨_, _, w', C.prot⟩, rfl, hK, h.put (hs1.trans h5) h6 hd (h7 r u hc)⟩
  · split at hw
    · rename_i id hf
      split at hw
      rotate_left
      · exact hw.elim
      rename_i lr ls hl
      have hu := h.slots.ev f
      change Conc C (ev (St.get ⟨slots, C.H⟩) (opd f)) (a.eval f) at hu
      rw [hf] at hu
      have hH := hget_obj hl
      simp only [Conc, hH] at hu
      obtain ⟨l, hm, hu⟩ := hu
      simp only [Ob.val] at hu
      obtain ⟨fn, tmps, assign, body, hy, hround⟩ := hw C _ l h.heap h.rel hm (concL_ev h.slots args.toList)
      have harr : (args.toList.map a.eval).toArray = args.map a.eval := by rw [← Array.toList_inj]; simp
      rw [harr] at hy
      refine oper_in (by rw [ho]; intro c hc; cases hc) ?_
      have hexec : (execOp a.eval o).run P C.w = .ok (.round l fn tmps assign body) C.w := by
        simp [execOp, ho, resolve, Deferred.ofValue, hu, invoke, hy]
      rw [hexec, Oper.uponIn_round]
      refine ⟨fun h => (by cases h), ⟨trivial, fun c cs hr => ?_⟩⟩
      refine (hround.mono ?_).2 c cs (room_wide _)
      rintro e w' ⟨u, r, H', m', rfl, hK, hs, hR, hc⟩
      exact hn _ _ ⟨_, ⟨_, _, w', C.prot⟩, rfl, hK, h.put hs hR hd hc⟩
    · exact hw.elim
end
end Go.Abs
