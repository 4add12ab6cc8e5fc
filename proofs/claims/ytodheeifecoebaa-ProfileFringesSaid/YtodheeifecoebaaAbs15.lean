/- Operations change places. -/
import Derived.Test.YtodheeifecoebaaAbs14
set_option linter.all false
set_option linter.unusedVariables false
set_option linter.unusedSimpArgs false
set_option linter.unusedSectionVars false
namespace Go.Abs
open Go.RowKit

def fresh? (H : List Blk) (i : Nat) : Bool := match H[i]? with
  | some .resv => true
  | _ => false
theorem fresh?_iff {H : List Blk} {i : Nat} : fresh? H i = true ↔ H[i]? = some .resv := by
  unfold fresh?
  split
  · rename_i h; simp [h]
  · rename_i h; simp; exact h

/-- what an operation that is no call gives and writes -/
def nres (base : Nat) (o : AOper) (σ : St) : Option (AV × List (Nat × Blk)) :=
  match o.guard with
  | none => if o.op.makes = true → fresh? σ.heap (base + o.fr) = true then aop (base + o.fr) σ.get (hget σ.heap) o.op else none
  | some (g, want) => match σ.get g with
    | .lit (.bool b) => if b = want then (if o.op.makes = true → fresh? σ.heap (base + o.fr) = true then aop (base + o.fr) σ.get (hget σ.heap) o.op else none) else some (.lit undef, [])
    | .lit (.tuple _) => some (.lit undef, [])
    | _ => none
def after (σ : St) (d : Option Nat) (x : AV × List (Nat × Blk)) : St := St.put ⟨σ.slots, writes σ.heap x.2⟩ d x.1

def argsOf (σ : St) (f : Opd) (args : List Opd) : List AV := match target (ev σ.get f) with
  | some (_, first, cap) => first ++ args.map (ev σ.get) ++ cap
  | none => []
/-- what a call without blocks of ours leaves -/
def landed (σ : St) (ids : List Nat) (d : Option Nat) (r : AV) (new : List Blk) : St :=
  St.put ⟨σ.slots, freeze σ.heap ids ++ new.map (renB (shiftρ σ.heap.length))⟩ d (ren (shiftρ σ.heap.length) r)
def wcallD (P : Program) (f : Opd) (args : List Opd) (d : Option Nat) (σ : St) (K : St → Prop) : Prop :=
  ∃ g first cap, target (ev σ.get f) = some (g, first, cap) ∧ plainL (rfyL (hget σ.heap) (argsOf σ f args)) = true ∧
    ∃ Q, ACall P g (rfyL (hget σ.heap) (argsOf σ f args)) [] Q ∧ (∃ r new, Q r new) ∧ ∀ r new, Q r new → K (landed σ (lidsL (hget σ.heap) (argsOf σ f args)) d r new)
def wanted (o : AOper) (σ : St) : Bool := match o.guard with
  | none => true
  | some (g, want) => match σ.get g with
    | .lit (.bool b) => b == want
    | _ => false
def wstepD (P : Program) (base : Nat) (o : AOper) (σ : St) (K : St → Prop) : Prop :=
  (∃ x, nres base o σ = some x ∧ K (after σ o.dst x)) ∨ (wanted o σ = true ∧ ∃ f args, o.op = .call false f args ∧ wcallD P f args o.dst σ K)

structure Foot where
  rd : List Nat
  wr : List Nat
  call : Option Nat
def foot (base : Nat) (o : AOper) (σ : St) : Foot :=
  ⟨match o.op with
    | .call _ f args => lidsL (hget σ.heap) (argsOf σ f args)
    | op => if kind op = .R then tops σ.get op else [],
   wids σ.get base o, match o.op with
    | .call .. => some σ.heap.length
    | _ => none⟩
def compat (F G : Foot) : Prop :=
  (∀ x ∈ F.wr, x ∉ G.wr ∧ x ∉ G.rd) ∧ (∀ x ∈ G.wr, x ∉ F.rd) ∧ (∀ n, F.call = some n → ∀ x, x ∈ G.rd ∨ x ∈ G.wr → x < n) ∧ (∀ n, G.call = some n → ∀ x, x ∈ F.rd ∨ x ∈ F.wr → x < n)
theorem compat.symm {F G : Foot} (h : compat F G) : compat G F :=
  ⟨fun x hx => ⟨fun hf => (h.1 x hf).1 hx, h.2.1 x hx⟩, fun x hx => (h.1 x hx).2, h.2.2.2, h.2.2.1⟩

def looks (o : AOper) : List Nat := (opds o.op).flatMap opdT ++ (match o.guard with | some (g, _) => [g] | none => [])
def apart (x y : AOper) : Bool :=
  (match x.dst with
   | some d => !(looks y).contains d && y.dst != some d
   | none => true) &&
  (match y.dst with
   | some d => !(looks x).contains d
   | none => true) && !(x.op.isCall && y.op.isCall)
theorem apart_spec {x y : AOper} (h : apart x y = true) : (∀ d, x.dst = some d → d ∉ looks y) ∧ (∀ d, x.dst = some d → y.dst ≠ some d) ∧ (∀ d, y.dst = some d → d ∉ looks x) ∧ ¬ (x.op.isCall = true ∧ y.op.isCall = true) := by
  simp only [apart, Bool.and_eq_true] at h
  obtain ⟨⟨h1, h2⟩, h3⟩ := h
  refine ⟨fun d hd => ?_, fun d hd => ?_, fun d hd => ?_, by rintro ⟨h4, h5⟩; simp [h4, h5] at h3⟩
  · simp [hd] at h1; exact h1.1
  · simp [hd] at h1; exact h1.2
  · simp [hd] at h2; exact h2

/-- two states seen alike by an operation -/
def Agree (o : AOper) (σ τ : St) : Prop := ∀ t ∈ looks o, σ.get t = τ.get t
theorem Agree.ev_ {o : AOper} {σ τ : St} (h : Agree o σ τ) : ∀ x ∈ opds o.op, ev σ.get x = ev τ.get x := fun x hx => by
  cases x with
  | tmp t => exact h t (List.mem_append_left _ (List.mem_flatMap.2 ⟨_, hx, by simp [opdT]⟩))
  | val v => rfl
theorem Agree.tops_ {o : AOper} {σ τ : St} (h : Agree o σ τ) : tops σ.get o.op = tops τ.get o.op := by
  unfold tops
  have : (opds o.op).map (fun x => topId (ev σ.get x)) = (opds o.op).map (fun x => topId (ev τ.get x)) := List.map_congr_left fun x hx => by rw [h.ev_ x hx]
  rw [List.flatMap_def, List.flatMap_def, this]
theorem Agree.wids_ {o : AOper} {σ τ : St} (h : Agree o σ τ) (base : Nat) : wids σ.get base o = wids τ.get base o := by
  unfold wids; rw [h.tops_]
theorem Agree.args_ {o : AOper} {σ τ : St} (h : Agree o σ τ) {raw : Bool} {f : Opd} {args : List Opd} (ho : o.op = .call raw f args) : ev σ.get f = ev τ.get f ∧ argsOf σ f args = argsOf τ f args := by
  have h1 : ev σ.get f = ev τ.get f := h.ev_ f (by rw [ho]; simp [opds])
  refine ⟨h1, ?_⟩
  unfold argsOf
  rw [h1, List.map_congr_left fun x hx => h.ev_ x (by rw [ho]; simp [opds, hx])]
theorem lids_congr {h h' : Nat → Blk} : ∀ (d : Nat) (v : AV), (∀ id ∈ lids h d v, h id = h' id) → lids h d v = lids h' d v ∧ rfy h d v = rfy h' d v
  | 0, _, _ => ⟨rfl, rfl⟩
  | d + 1, .lsl id i len, hh => by
    have h0 : h id = h' id := hh id (by simp [lids])
    simp only [lids, rfy]
    rw [← h0]
    split
    · rename_i own nil sz els hb
      have hm : ∀ r ∈ (els.drop i).take len, ∀ v ∈ r, lids h d v = lids h' d v ∧ rfy h d v = rfy h' d v := fun r hr v hv => lids_congr d v fun id' hid' => hh id' (by
        simp only [lids, hb]; exact List.mem_cons_of_mem _ (List.mem_flatMap.2 ⟨r, hr, List.mem_flatMap.2 ⟨v, hv, hid'⟩⟩))
      have e1 : (((els.drop i).take len).map fun r => r.map (rfy h d)) = ((els.drop i).take len).map fun r => r.map (rfy h' d) := List.map_congr_left fun r hr => List.map_congr_left fun v hv => (hm r hr v hv).2
      have e2 : (((els.drop i).take len).flatMap fun r => r.flatMap (lids h d)) = ((els.drop i).take len).flatMap fun r => r.flatMap (lids h' d) := by
        rw [List.flatMap_def, List.flatMap_def]
        exact congrArg _ (List.map_congr_left fun r hr => by rw [List.flatMap_def, List.flatMap_def]; exact congrArg _ (List.map_congr_left fun v hv => (hm r hr v hv).1))
      rw [e1, e2]
      exact ⟨rfl, rfl⟩
    · exact ⟨rfl, rfl⟩
  | d + 1, .agg cs, hh => by
    have hm : ∀ v ∈ cs, lids h d v = lids h' d v ∧ rfy h d v = rfy h' d v := fun v hv => lids_congr d v fun id' hid' => hh id' (by simp only [lids]; exact List.mem_flatMap.2 ⟨v, hv, hid'⟩)
    simp only [lids, rfy]
    rw [List.flatMap_def, List.flatMap_def, List.map_congr_left (fun v hv => (hm v hv).1), List.map_congr_left (fun v hv => (hm v hv).2)]
    exact ⟨rfl, rfl⟩
  | _ + 1, .lit _, _ => ⟨rfl, rfl⟩
  | _ + 1, .sl .., _ => ⟨rfl, rfl⟩
  | _ + 1, .emp, _ => ⟨rfl, rfl⟩
  | _ + 1, .adr .., _ => ⟨rfl, rfl⟩
  | _ + 1, .tup .., _ => ⟨rfl, rfl⟩
  | _ + 1, .loc .., _ => ⟨rfl, rfl⟩
  | _ + 1, .clo .., _ => ⟨rfl, rfl⟩
  | _ + 1, .mp .., _ => ⟨rfl, rfl⟩
  | _ + 1, .top, _ => ⟨rfl, rfl⟩
  | _ + 1, .top1, _ => ⟨rfl, rfl⟩
theorem lidsL_congr {h h' : Nat → Blk} {l : List AV} (hh : ∀ id ∈ lidsL h l, h id = h' id) : lidsL h l = lidsL h' l ∧ rfyL h l = rfyL h' l := by
  have hm : ∀ v ∈ l, lids h 6 v = lids h' 6 v ∧ rfy h 6 v = rfy h' 6 v := fun v hv => lids_congr 6 v fun id' hid' => hh id' (List.mem_flatMap.2 ⟨v, hv, hid'⟩)
  unfold lidsL rfyL
  rw [List.flatMap_def, List.flatMap_def, List.map_congr_left (fun v hv => (hm v hv).1), List.map_congr_left (fun v hv => (hm v hv).2)]
  exact ⟨rfl, rfl⟩

theorem Agree.foot_ {o : AOper} {σ τ : St} (h : Agree o σ τ) (base : Nat) (hl : o.op.isCall = true → σ.heap.length = τ.heap.length ∧ ∀ id ∈ (foot base o σ).rd, σ.heap[id]? = τ.heap[id]?) : foot base o σ = foot base o τ := by
  unfold foot at hl ⊢
  rw [h.wids_ base]
  cases hop : o.op <;> (try (rw [hop] at hl)) <;> (try (have := h.tops_; rw [hop] at this; simp only [this]; done))
  rename_i raw f args
  obtain ⟨hl1, hl2⟩ := hl rfl
  dsimp only at hl2
  have hc : lidsL (hget σ.heap) (argsOf σ f args) = lidsL (hget τ.heap) (argsOf τ f args) := by
    rw [← (h.args_ hop).2]
    exact (lidsL_congr fun id hid => by unfold hget; rw [hl2 id hid]).1
  simp only [hc, hl1]
theorem Agree.wanted_ {o : AOper} {σ τ : St} (h : Agree o σ τ) : wanted o σ = wanted o τ := by
  unfold wanted
  cases hg : o.guard with
  | none => rfl
  | some p => obtain ⟨g, w⟩ := p; simp only []; rw [h g (List.mem_append_right _ (by simp [hg]))]

def sees (base : Nat) (o : AOper) (H H' : List Blk) (σ : St) : Prop :=
  (∀ x ∈ (foot base o σ).rd, Alike (hget H x) (hget H' x)) ∧ ∀ x ∈ (foot base o σ).wr, H[x]? = H'[x]?

theorem makes_kind {op : AOp} (h : op.makes = true) : kind op = .A ∨ kind op = .P := by
  cases op <;> simp [AOp.makes] at h <;> simp [kind]

theorem nres_same {base : Nat} {o : AOper} {σ τ : St} (ha : Agree o σ τ) (hs : sees base o σ.heap τ.heap σ) : nres base o σ = nres base o τ := by
  have hg : ∀ x ∈ (foot base o σ).wr, hget σ.heap x = hget τ.heap x := fun x hx => by unfold hget; rw [hs.2 x hx]
  have hf : (o.op.makes = true → fresh? σ.heap (base + o.fr) = true) ↔ (o.op.makes = true → fresh? τ.heap (base + o.fr) = true) := by
    by_cases hm : o.op.makes = true
    · have : σ.heap[base + o.fr]? = τ.heap[base + o.fr]? := hs.2 _ (by
        unfold foot wids
        rcases makes_kind hm with hk | hk <;> simp [hk])
      simp only [hm, forall_const]
      unfold fresh?
      rw [this]
    · simp [hm]
  have hr : aop (base + o.fr) σ.get (hget σ.heap) o.op = aop (base + o.fr) τ.get (hget τ.heap) o.op := by
    rw [← aop_s ha.ev_]
    cases hk : kind o.op with
    | S => exact aop_h (.inl hk)
    | A => exact aop_h (.inr (.inl hk))
    | R => exact aop_h (.inr (.inr (.inl ⟨hk, fun id hid => hs.1 id (by
        unfold foot
        cases hop : o.op <;> rw [hop] at hk hid <;> simp [kind] at hk <;> simp only [kind, if_true] <;> exact hid)⟩)))
    | W => exact aop_h (.inr (.inr (.inr ⟨.inl hk, fun id hid => hg id (by unfold foot wids; simp only [hk]; exact hid)⟩)))
    | P => exact aop_h (.inr (.inr (.inr ⟨.inr hk, fun id hid => hg id (by unfold foot wids; simp only [hk]; exact List.mem_cons_of_mem _ hid)⟩)))
    | C => cases hop : o.op <;> rw [hop] at hk <;> simp [kind] at hk; simp [aop]
  unfold nres
  cases hgd : o.guard with
  | none => simp only [hr, hf]
  | some p =>
    obtain ⟨g, w⟩ := p
    simp only [hr, hf]
    rw [ha g (List.mem_append_right _ (by simp [hgd]))]

theorem nres_ws {base : Nat} {o : AOper} {σ : St} {x : AV × List (Nat × Blk)} (h : nres base o σ = some x) : ∀ p ∈ x.2, p.1 ∈ (foot base o σ).wr := by
  obtain ⟨v, ws⟩ := x
  unfold nres at h
  repeat' split at h
  all_goals first
    | (simp at h; done)
    | exact aop_ws h
    | (simp only [Option.some.injEq, Prod.mk.injEq] at h; obtain ⟨_, rfl⟩ := h; simp)

theorem writes_len : ∀ (ws : List (Nat × Blk)) (H : List Blk), (writes H ws).length = H.length
  | [], _ => rfl
  | (i, b) :: r, H => by simp only [writes]; rw [writes_len r]; simp
theorem writes_get {k : Nat} : ∀ (ws : List (Nat × Blk)) (H : List Blk), (∀ p ∈ ws, p.1 ≠ k) → (writes H ws)[k]? = H[k]?
  | [], _, _ => rfl
  | (i, b) :: r, H, h => by
    simp only [writes]
    rw [writes_get r _ fun p hp => h p (by simp [hp]), set_get_ne (h (i, b) (by simp))]
theorem writes_set : ∀ (ws : List (Nat × Blk)) (H : List Blk) (i : Nat) (b : Blk), (∀ p ∈ ws, p.1 ≠ i) → writes (H.set i b) ws = (writes H ws).set i b
  | [], _, _, _, _ => rfl
  | (j, c) :: r, H, i, b, h => by
    simp only [writes]
    rw [List.set_comm _ _ (Ne.symm (h (j, c) (by simp))), writes_set r _ i b fun p hp => h p (by simp [hp])]
theorem writes_comm : ∀ (ws vs : List (Nat × Blk)) (H : List Blk), (∀ p ∈ ws, ∀ q ∈ vs, p.1 ≠ q.1) → writes (writes H ws) vs = writes (writes H vs) ws
  | [], _, _, _ => rfl
  | (i, b) :: r, vs, H, h => by
    simp only [writes]
    rw [writes_comm r vs _ fun p hp => h p (by simp [hp]), writes_set vs H i b fun q hq => (h (i, b) (by simp) q hq).symm]

theorem freeze1_len (H : List Blk) (id : Nat) : (freeze1 H id).length = H.length := by unfold freeze1; split <;> simp
theorem freeze_len : ∀ (ids : List Nat) (H : List Blk), (freeze H ids).length = H.length
  | [], _ => rfl
  | id :: r, H => by simp only [freeze]; rw [freeze_len r, freeze1_len]
theorem freeze1_set {H : List Blk} {id i : Nat} {b : Blk} (h : i ≠ id) : freeze1 (H.set i b) id = (freeze1 H id).set i b := by
  unfold freeze1
  rw [set_get_ne h]
  split
  · exact List.set_comm _ _ h
  · rfl
theorem freeze_set : ∀ (ids : List Nat) (H : List Blk) (i : Nat) (b : Blk), i ∉ ids → freeze (H.set i b) ids = (freeze H ids).set i b
  | [], _, _, _, _ => rfl
  | id :: r, H, i, b, h => by
    simp only [List.mem_cons, not_or] at h
    simp only [freeze]
    rw [freeze1_set h.1, freeze_set r _ i b h.2]
theorem writes_freeze : ∀ (ws : List (Nat × Blk)) (H X : List Blk) (ids : List Nat), (∀ p ∈ ws, p.1 ∉ ids ∧ p.1 < H.length) → writes (freeze H ids ++ X) ws = freeze (writes H ws) ids ++ X
  | [], _, _, _, _ => rfl
  | (i, b) :: r, H, X, ids, h => by
    have h0 := h (i, b) (by simp)
    simp only [writes]
    rw [List.set_append_left _ _ (by rw [freeze_len]; exact h0.2), ← freeze_set _ _ _ _ h0.1]
    exact writes_freeze r _ X ids fun p hp => by have := h p (by simp [hp]); simpa using this
theorem freeze1_get (H : List Blk) (id k : Nat) : (freeze1 H id)[k]? = H[k]? ∨ ∃ o o' n z e, H[k]? = some (.cells o n z e) ∧ (freeze1 H id)[k]? = some (.cells o' n z e) := by
  unfold freeze1
  split
  · rename_i nil sz els h
    by_cases hk : id = k
    · subst hk; exact .inr ⟨true, false, nil, sz, els, h, set_get_eq (lt_of_get h)⟩
    · exact .inl (set_get_ne hk)
  · exact .inl rfl
theorem freeze_alike : ∀ (ids : List Nat) (H : List Blk) (k : Nat), (freeze H ids)[k]? = H[k]? ∨ ∃ o o' n z e, H[k]? = some (.cells o n z e) ∧ (freeze H ids)[k]? = some (.cells o' n z e)
  | [], _, _ => .inl rfl
  | id :: r, H, k => by
    simp only [freeze]
    rcases freeze_alike r (freeze1 H id) k with h1 | ⟨o, o', n, z, e, h1, h2⟩ <;> rcases freeze1_get H id k with h3 | ⟨p, p', m, y, f, h3, h4⟩
    · exact .inl (h1.trans h3)
    · exact .inr ⟨p, p', m, y, f, h3, h1.trans h4⟩
    · exact .inr ⟨o, o', n, z, e, h3 ▸ h1, h2⟩
    · rw [h4] at h1
      simp only [Option.some.injEq, Blk.cells.injEq] at h1
      obtain ⟨rfl, rfl, rfl, rfl⟩ := h1
      exact .inr ⟨p, o', m, y, f, h3, h2⟩
theorem freeze_out {ids : List Nat} : ∀ {H : List Blk} {k : Nat}, k ∉ ids → (freeze H ids)[k]? = H[k]? := by
  induction ids with
  | nil => intro H k _; rfl
  | cons id r ih =>
    intro H k h
    simp only [List.mem_cons, not_or] at h
    simp only [freeze]
    rw [ih h.2]
    unfold freeze1
    split
    · exact set_get_ne (Ne.symm h.1)
    · rfl
end Go.Abs
