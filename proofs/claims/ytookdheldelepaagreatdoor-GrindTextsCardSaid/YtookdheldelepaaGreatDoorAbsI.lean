import Derived.Test.YtookdheldelepaaGreatDoorAbsE
set_option linter.all false
set_option linter.unusedVariables false
set_option linter.unusedSimpArgs false
set_option linter.unusedSectionVars false
/- A range over an iterator that turns what it has captured. -/
namespace Go.Abs
open Go.RowKit
def IterG (P : Program) (gf : FuncId) (first cap : List AV) (n : Nat) (U : Nat → List Blk → List Blk → Prop) (E : Nat → List Blk → List AV → Prop) (Bc : Nat → List Blk → Prop) : Prop :=
  ∀ (hl : Nat) (J : Nat → List Blk → Prop) (Jx : List Blk → Prop) (H : List Blk),
    (∀ k H', J k H' → (∃ r s, H'[hl]? = some (.obj (.lp r s))) ∧ Bc k H') →
    (∀ k H' H1 args, k < n → J k H' → U k H' H1 → E k H1 args → AYield P hl args H1 fun r H'' => (r = boolV true ∧ J (k + 1) H'') ∨ (r = boolV false ∧ Jx H'')) →
    J 0 H → ACall P gf (first ++ [.mp hl] ++ cap) H fun _ H' => J n H' ∨ Jx H'
section
variable {P : Program} {N b : Nat} {σ : St}
theorem T_rangeG {muts : List FuncId} {K : Exit → St → Prop} {f : Opd} {ps : List Nat} {asg body : ACode} {gf : FuncId} {first cap : List AV} {n : Nat} {E : Nat → List Blk → List AV → Prop} {Bc : Nat → List Blk → Prop} {U : Nat → List Blk → List Blk → Prop}
    (I : Nat → List Blk → Prop) (X : Exit → List Blk → Prop)
    (htar : target (ev σ.get f) = some (gf, first, cap)) (hit : IterG P gf first cap n U E Bc)
    (hBc : ∀ k H, I k H → Bc k H) (hBs : ∀ k H r s, Bc k (H.set σ.heap.length (.obj .lpx)) → H[σ.heap.length]? = some (.obj (.lp r s)) → Bc k H)
    (hUs : ∀ k H H1 r s, U k H H1 → H[σ.heap.length]? = some (.obj (.lp r s)) → U k (H.set σ.heap.length (.obj .lpx)) (H1.set σ.heap.length (.obj .lpx)) ∧ H1[σ.heap.length]? = some (.obj (.lp r s)))
    (hEs : ∀ k H r s args, E k H args → H[σ.heap.length]? = some (.obj (.lp r s)) → E k (H.set σ.heap.length (.obj .lpx)) args)
    (h0 : I 0 (σ.heap ++ [.obj .lpx]))
    (hbody : ∀ k H0 H args, k < n → I k H0 → U k H0 H → H[σ.heap.length]? = some (.obj .lpx) → E k H args → args.length = ps.length ∧ ∃ s1, asgRun asg ((ps.zip args).reverse ++ σ.slots) = some s1 ∧
      ∀ l, T (some l) P muts N H.length body ⟨s1, H⟩ (roundK σ.heap.length (I (k + 1)) X))
    (hdone : ∀ H, I n H → K .normal ⟨σ.slots, H⟩) (hstop : ∀ e H, X e H → K e ⟨σ.slots, H⟩) : T none P muts N b (.range f ps asg body) σ K := by
  intro c hc C0 C a hb0 hR
  obtain ⟨g, psA, x, y, rfl, rfl, rfl, hps, hx, hy⟩ := tr_range hc
  refine wpIn_rangeFunc (F := FR none) (n := 0) (fun fn _ => ?_)
  obtain ⟨uf, uc, hu, hfirst, hcap⟩ := target_spec htar (hR.slots.ev g)
  have henter := run_enterLoop_outer (P := P) (w := C.w) fn a.tmps psA x y
  generalize hr0 : ({ state := .ready, pending := none, fn, tmps := a.tmps, params := psA, assign := x, body := y, defers := C.w.heap.size } : Loop) = r0 at henter
  have e1 : r0.params = psA := by rw [← hr0]
  have e2 : r0.assign = x := by rw [← hr0]
  have e3 : r0.body = y := by rw [← hr0]
  have e4 : r0.state = .ready := by rw [← hr0]
  have e5 : r0.pending = none := by rw [← hr0]
  have e6 : a.tmps = r0.tmps := by rw [← hr0]
  clear hr0
  have hlen : C.m.length = C.H.length := hR.rel.len
  have hHl : C.H.length = σ.heap.length := by rw [hR.heap]
  have hm1 : ((C.m ++ List.replicate 1 none).set σ.heap.length (some (C.w.heap.size + 1, 0)))[σ.heap.length]? = some (some (C.w.heap.size + 1, 0)) := set_get_eq (by simp [hlen, hHl])
  have hst := (enter_ok (r := r0) hR (C0' := C) (a' := { tmps := a.tmps, defers := [] }) (extra_ok (a := { tmps := a.tmps, defers := [] }) ⟨hR.heap, hR.rel, Step.refl C, ⟨hR.slots.at_⟩, Marks.nil _ _, hR.size⟩ (.deferred (some []))) e6).step
  have hR1 := enter_ok (r := r0) hR (mark_ok hR) e6
  -- the iterator
  have hcall : ACall P gf (first ++ [.mp σ.heap.length] ++ cap) (σ.heap ++ [.obj (.lp r0 σ.slots)]) fun _ H' =>
      (I n (H'.set σ.heap.length (.obj .lpx)) ∧ H'[σ.heap.length]? = some (.obj (.lp r0 σ.slots))) ∨ ∃ e r code, jumpOf e = some code ∧ H'[σ.heap.length]? = some (.obj (.lp r σ.slots)) ∧ r.state = .done ∧ r.pending = some code ∧ X e (H'.set σ.heap.length (.obj .lpx)) := by
    refine hit σ.heap.length (fun k H' => I k (H'.set σ.heap.length (.obj .lpx)) ∧ H'[σ.heap.length]? = some (.obj (.lp r0 σ.slots))) (fun H' => ∃ e r code, jumpOf e = some code ∧ H'[σ.heap.length]? = some (.obj (.lp r σ.slots)) ∧ r.state = .done ∧ r.pending = some code ∧ X e (H'.set σ.heap.length (.obj .lpx))) _
      (fun k H' h => ⟨⟨_, _, h.2⟩, hBs _ _ _ _ (hBc k _ h.1) h.2⟩) ?_ ⟨by simpa using h0, by simp⟩
    rintro k H0 H' args hk ⟨hI, hl0⟩ hU hE
    obtain ⟨hU2, hl⟩ := hUs _ _ _ _ _ hU hl0
    obtain ⟨harg, s1, hs1, hT⟩ := hbody k _ _ args hk hI hU2 (set_get_eq (lt_of_get hl)) (hEs _ _ _ _ _ hE hl)
    exact round_ok hps hx hy e1 e2 e3 e4 e5 (by rw [← e6]; exact hR.size) harg hl hs1 (fun l => by simpa using hT l)
  -- the call
  have hargs1 := ((ConcL.mono hst _ _ hfirst).append (l' := [.mp σ.heap.length]) (us' := [.func (.yield (C.w.heap.size + 1)) #[] #[]]) (by
    simp only [ConcL, Conc]
    refine ⟨_, [], rfl, ?_, rfl⟩
    simp only [List.getElem?_append_right (Nat.le_refl _), Nat.sub_self, List.getElem?_cons_zero]
    exact ⟨_, hm1, rfl⟩)).append (ConcL.mono hst _ _ hcap)
  have harr : (uf.toList ++ [Value.func (.yield (C.w.heap.size + 1)) #[] #[]] ++ uc.toList).toArray = uf ++ #[.func (.yield (C.w.heap.size + 1)) #[] #[]] ++ uc := by
    rw [← Array.toList_inj]; simp
  have hrun := hcall.2 _ _ rfl hR1.rel hargs1
  rw [harr] at hrun
  have hres : (resolve a.eval (rangeCall g (C.w.heap.size + 1)) 0).run P ((C.w.alloc (.deferred (some []))).alloc (.loop r0)) = .ok { target := .fn (.func gf) uc, args := uf ++ #[.func (.yield (C.w.heap.size + 1)) #[] #[]] } ((C.w.alloc (.deferred (some []))).alloc (.loop r0)) := by
    have hu' : (Act.eval a g) = .func (.func gf) uf uc := hu
    have hc' : ∀ v, Act.eval a (.const v) = v := fun _ => rfl
    simp [resolve, rangeCall, hu', Deferred.ofValue, hc']
  have hinv : (invoke (.fn (.func gf) uc) (uf ++ #[.func (.yield (C.w.heap.size + 1)) #[] #[]])).run P ((C.w.alloc (.deferred (some []))).alloc (.loop r0)) = .ok (.enter gf (uf ++ #[.func (.yield (C.w.heap.size + 1)) #[] #[]] ++ uc)) ((C.w.alloc (.deferred (some []))).alloc (.loop r0)) := hcall.1 _ _
  have hin : CallsIn (FR none) 0 P gf (uf ++ #[.func (.yield (C.w.heap.size + 1)) #[] #[]] ++ uc) ((C.w.alloc (.deferred (some []))).alloc (.loop r0))
      (rangePost (FR none) 0 P (C.w.heap.size + 1) (fun e a' w' => Goes N C0 (K e) a' w') { tmps := a.tmps, defers := { target := .collected C.w.heap.size, args := #[] } :: a.defers }) := by
    refine calls_in (Calls.mono hrun ?_)
    rintro e w3 ⟨u, r, H3, m3, rfl, hQ, hs3, hR3, _⟩
    have hRel3 : Rel N C0 ⟨σ.slots, H3⟩ ⟨H3, m3, w3, C.prot⟩ { tmps := a.tmps, defers := { target := .collected C.w.heap.size, args := #[] } :: a.defers } :=
      ⟨rfl, hR3, hR1.step.trans hs3, ⟨fun t => Conc.mono hs3 _ _ (hR1.slots.at_ t)⟩, hR1.defers.mono hR1.rel hs3, hR1.size⟩
    have hm3 : m3[σ.heap.length]? = some (some (C.w.heap.size + 1, 0)) := by
      obtain ⟨_, _, h2, _⟩ := hs3.objs σ.heap.length (.lp r0 σ.slots) (by simp)
      exact h2.trans hm1
    have hsx : ∀ r : Loop, H3[σ.heap.length]? = some (.obj (.lp r σ.slots)) → r.state ≠ .busy → ∃ C4, C4.w = w3.putObj (C.w.heap.size + 1) (.loop { r with state := .exhausted }) ∧ Rel N C0 ⟨σ.slots, H3.set σ.heap.length (.obj .lpx)⟩ C4 { tmps := a.tmps, defers := { target := .collected C.w.heap.size, args := #[] } :: a.defers } ∧
        w3.heap[C.w.heap.size + 1]? = some (.loop r) := by
      intro r hl _
      obtain ⟨hw, _, hR4⟩ := rel_setO hRel3 (r' := { r with state := .exhausted }) hl hm3 rfl
      obtain ⟨g1, g2⟩ := seal_ok hR4.rel (hl := σ.heap.length) (r := { r with state := .exhausted }) (s := σ.slots) (set_get_eq (lt_of_get hl))
      have eS : ((H3.set σ.heap.length (Blk.obj (.lp { r with state := .exhausted } σ.slots))).set σ.heap.length (.obj .lpx)) = H3.set σ.heap.length (.obj .lpx) := by simp
      dsimp only at g1 g2
      rw [eS] at g1 g2
      exact ⟨_, rfl, ⟨rfl, g2, hR4.step.trans g1, ⟨fun t => Conc.mono g1 _ _ (hR4.slots.at_ t)⟩, hR4.defers.mono hR4.rel g1, hR4.size⟩, hw⟩
    rcases hQ with ⟨hI, hl⟩ | ⟨e, r, code, hj, hl, hst', hpend, hX⟩
    · obtain ⟨C4, hw4, hR4, hw⟩ := hsx r0 hl (by rw [e4]; simp)
      refine ⟨none, _, by rw [← e5]; exact run_endLoop hw (by simp [e4]), ?_⟩
      exact ⟨_, C4, hw4, hdone _ hI, hR4⟩
    · obtain ⟨C4, hw4, hR4, hw⟩ := hsx r hl (by rw [hst']; simp)
      refine ⟨some code, _, by rw [← hpend]; exact run_endLoop hw (by rw [hst']; simp), ?_⟩
      rw [← hw4]
      have hK := hstop e _ hX
      cases e with
      | ret => simp only [jumpOf, Option.some.injEq] at hj; subst hj; exact wpIn_ret ⟨_, C4, rfl, hK, hR4⟩
      | exit id => simp only [jumpOf, Option.some.injEq] at hj; subst hj; exact wpIn_exit ⟨_, C4, rfl, hK, hR4⟩
      | _ => simp [jumpOf] at hj
  exact ⟨_, _, _, _, _, gf, _, _, henter, hres, fun _ _ => trivial, hinv, fun h => (by cases h), hin⟩
end
end Go.Abs
