/- Rules for walks by hand. -/
import Derived.Test.YtodheeifecoebaaAbs19
import Derived.Laws.BitsLemmas
set_option linter.all false
set_option linter.unusedVariables false
set_option linter.unusedSimpArgs false
set_option linter.unusedSectionVars false
namespace Go.Abs
open Go.RowKit

theorem wrapI {n : Int} (h : -9223372036854775808 ≤ n) (h2 : n ≤ 9223372036854775807) : IntKind.i64.wrap n = n := by rw [IntKind.wrap_i64]; omega

/-- a call that gets values without blocks of ours, with blocks about -/
theorem acall_frame {P : Program} {g : FuncId} {args : List AV} {H : List Blk} {Q : AV → List Blk → Prop} (hp : plainL args = true) (h : ACall P g args [] Q) :
    ACall P g args H fun r H' => ∃ r0 new, Q r0 new ∧ r = ren (shiftρ H.length) r0 ∧ H' = H ++ new.map (renB (shiftρ H.length)) := by
  refine ⟨h.1, fun C cargs hH hR hl => ?_⟩
  subst hH
  have hiso := ConcL.plain (C' := ⟨[], [], C.w, C.bad⟩) (C := C) rfl (fun b hb => by rintro ((⟨id, _, _, _, _, h1, _⟩ | ⟨id, _, h1, _, _⟩) | h1); simp at h1; simp at h1; exact hb h1) _ _ hp hl
  have hRiso : HeapRel ⟨[], [], C.w, C.bad⟩ := by
    refine ⟨rfl, fun id _ _ _ _ h1 => by simp at h1, fun id id' _ _ _ _ _ _ _ _ _ _ _ h1 => by simp at h1, ?_, fun id _ h1 => by simp at h1, fun id _ _ _ _ _ _ _ _ _ h1 => by simp at h1, fun id _ _ h1 => by simp at h1⟩
    rintro b (h1 | h1)
    · obtain ⟨x, h2, _⟩ := own_holds hR h1
      exact lt_of_heap h2
    · exact hR.prot b h1
  refine (h.2 _ _ rfl hRiso hiso).mono ?_
  rintro e w' ⟨u, r, new, m', rfl, hK, hs, hR2, hc⟩
  obtain ⟨h5, h6, h7⟩ := frame_call hR hs hR2
  exact ⟨u, _, _, _, rfl, ⟨r, new, hK, rfl, rfl⟩, h5, h6, h7 r u hc⟩

section
variable {P : Program} {base : Nat} {σ : St} {K : St → Prop}
theorem wstepD_of {o : AOper} (hc : o.op.isCall = false) (h : wstep P base o σ K) : wstepD P base o σ K := by
  have hrun : wrun P base o σ K → ∃ x, (if o.op.makes = true → fresh? σ.heap (base + o.fr) = true then aop (base + o.fr) σ.get (hget σ.heap) o.op else none) = some x ∧ K (after σ o.dst x) := fun h => by
    unfold wrun at h
    split at h
    · rename_i hop; rw [hop] at hc; simp [AOp.isCall] at hc
    · obtain ⟨h1, h2⟩ := h
      rw [if_pos fun hm => fresh?_iff.2 (h1 hm)]
      split at h2
      · rename_i v ws hv; exact ⟨(v, ws), hv, h2⟩
      · exact h2.elim
  unfold wstep at h
  left
  unfold nres
  cases hg : o.guard with
  | none => rw [hg] at h; exact hrun h
  | some p =>
    obtain ⟨g, want⟩ := p
    rw [hg] at h
    dsimp only at h ⊢
    split at h
    · rename_i b hb
      rw [hb]
      dsimp only
      split at h
      · rename_i hbw; rw [if_pos hbw]; exact hrun h
      · rename_i hbw; rw [if_neg hbw]; exact ⟨_, rfl, h⟩
    · rename_i xs hb; rw [hb]; exact ⟨_, rfl, h⟩
    · exact h.elim

/-- no operation writes or calls -/
def calm (l : List (Nat × AOper)) : Bool := l.all fun p => decide (kind p.2.op = .S) || decide (kind p.2.op = .R)
theorem kind_call {op : AOp} (h : op.isCall = true) : kind op = .C := by cases op <;> simp [AOp.isCall] at h; rfl
theorem wdops_calm {bef : List (List Nat)} : ∀ (l : List (Nat × AOper)) (past : List (Nat × Foot)) (σ : St), calm l = true → (∀ p ∈ past, p.2.wr = [] ∧ p.2.call = none) → wops P base (l.map (·.2)) σ K → wdops P base bef l past σ K
  | [], _, _, _, _, h => h
  | (n, o) :: r, past, σ, hc, hp, h => by
    simp only [calm, List.all_cons, Bool.and_eq_true, Bool.or_eq_true, decide_eq_true_eq] at hc
    have hnc : o.op.isCall = false := by
      cases hcc : o.op.isCall with
      | false => rfl
      | true => rw [kind_call hcc] at hc; simp at hc
    have hf : (foot base o σ).wr = [] ∧ (foot base o σ).call = none := by
      unfold foot wids
      constructor
      · rcases hc.1 with h | h <;> simp [h]
      · cases hop : o.op <;> simp only [] <;> rw [hop] at hnc; simp [AOp.isCall] at hnc
    refine ⟨fun p hpp _ _ => ?_, wstepD_mono (fun s hs => wdops_calm r _ s hc.2 (fun p hpp => ?_) hs) (wstepD_of hnc h)⟩
    · obtain ⟨h1, h2⟩ := hp p hpp
      refine ⟨fun x hx => ?_, fun x hx => ?_, fun n hn => ?_, fun n hn => ?_⟩
      · rw [h1] at hx; simp at hx
      · rw [hf.1] at hx; simp at hx
      · rw [h2] at hn; simp at hn
      · rw [hf.2] at hn; simp at hn
    · rcases List.mem_cons.1 hpp with rfl | hpp
      · exact hf
      · exact hp p hpp
end

section
variable {P : Program} {muts : List FuncId} {N b : Nat} {σ : St} {K : Exit → St → Prop} {md : Option Nat}
theorem T_calm {n : Nat} {l : List (Nat × AOper)} {bef : List (List Nat)} (hc : calm l = true) (h : wops P σ.heap.length (l.map (·.2)) ⟨σ.slots, σ.heap ++ List.replicate n .resv⟩ (K .normal)) : T md P muts N b (.dreg n l bef) σ K :=
  T_dreg (wdops_calm l [] _ hc (by simp) h)

/-- a region ahead of the rest -/
theorem T_reg_seq {n : Nat} {aos : List AOper} {q : ACode} (h : wops P σ.heap.length aos ⟨σ.slots, σ.heap ++ List.replicate n .resv⟩ fun s => T md P muts N b q s K) : T md P muts N b (.seq (.reg n aos) q) σ K := T_seq (T_reg h)
theorem T_calm_seq {n : Nat} {l : List (Nat × AOper)} {bef : List (List Nat)} {q : ACode} (hc : calm l = true) (h : wops P σ.heap.length (l.map (·.2)) ⟨σ.slots, σ.heap ++ List.replicate n .resv⟩ fun s => T md P muts N b q s K) : T md P muts N b (.seq (.dreg n l bef) q) σ K := T_seq (T_calm hc h)
/-- some slots alone -/
def St.only (σ : St) (ts : List Nat) : St := ⟨ts.map fun t => (t, σ.get t), σ.heap⟩
theorem weak_only (ts : List Nat) : Weak N b σ (σ.only ts) := fun C0 C a _ hR => ⟨C, rfl, hR.heap, hR.rel, hR.step, ⟨fun t => by
  show Conc C (look (ts.map fun t => (t, σ.get t)) t) _
  rw [look_map (fun t => σ.get t)]
  split
  · exact hR.slots.at_ t
  · trivial⟩, hR.defers, hR.size⟩
theorem T_loop_only {p : ACode} (ts : List Nat) (I : Nat → St → Prop) (n : Nat) (h0 : I n (σ.only ts)) (h : ∀ n s, I n s → T md P muts N b p s (thenK (fun s' => ∃ n', n' < n ∧ I n' (s'.only ts)) K)) : T md P muts N b (.loop p) σ K :=
  T_weak (weak_only ts) (T_loop I n h0 fun n s hI => T_mono (h n s hI) fun e s' hk => by
    cases e with
    | normal => obtain ⟨n', h1, h2⟩ := hk; exact ⟨n', h1, _, weak_only ts, h2⟩
    | _ => exact hk)
theorem leave0 {rs : List ARes} {σ : St} {Q : AV → List Blk → Prop} {v : AV} {e : Exit} (he : e = .normal ∨ e = .ret) (hv : resL σ rs = some [v]) (hr : ∀ ρ, ren ρ v = v) (hq : Q v []) : leave 0 rs Q e σ := by
  have : ∃ vs ids, resL σ rs = some vs ∧ 0 ≤ σ.heap.length ∧ (∀ id ∈ ids, 0 ≤ id ∧ id < σ.heap.length) ∧ ids.Nodup ∧ Q (ren (keepρ 0 ids) (tupOf vs)) (σ.keep 0 [] ids).heap :=
    ⟨[v], [], hv, Nat.zero_le _, by simp, by simp, by simpa [tupOf, hr, St.keep] using hq⟩
  rcases he with rfl | rfl <;> exact this
end
end Go.Abs
