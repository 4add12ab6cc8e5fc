import Derived.Test.YtookdheldelepaaGreatDoorAbsC
set_option linter.all false
set_option linter.unusedVariables false
set_option linter.unusedSimpArgs false
set_option linter.unusedSectionVars false
/- Operations change places. -/
namespace Go.Abs
open Go.RowKit

def fresh? (H : List Blk) (i : Nat) : Bool := match H[i]? with
  | some .resv => true
  | _ => false
theorem fresh?_iff {H : List Blk} {i : Nat} : fresh? H i = true ↔ H[i]? = some .resv := by
  unfold fresh?
  split
  · rename_i h; simp [h]
  · rename_i h; simp; exact h

/-- what an operation that is no call gives and writes -/
def nres (base : Nat) (o : AOper) (σ : St) : Option (AV × List (Nat × Blk)) :=
  match o.guard with
  | none => if o.op.makes = true → fresh? σ.heap (base + o.fr) = true then aop (base + o.fr) σ.get (hget σ.heap) o.op else none
  | some (g, want) => match σ.get g with
    | .lit (.bool b) => if b = want then (if o.op.makes = true → fresh? σ.heap (base + o.fr) = true then aop (base + o.fr) σ.get (hget σ.heap) o.op else none) else some (.lit undef, [])
    | .lit (.tuple _) => some (.lit undef, [])
    | _ => none
def after (σ : St) (d : Option Nat) (x : AV × List (Nat × Blk)) : St := St.put ⟨σ.slots, writes σ.heap x.2⟩ d x.1

def argsOf (σ : St) (f : Opd) (args : List Opd) : List AV := match target (ev σ.get f) with
  | some (_, first, cap) => first ++ args.map (ev σ.get) ++ cap
  | none => []
/-- what a call without blocks of ours leaves -/
def landed (σ : St) (ids : List Nat) (d : Option Nat) (r : AV) (new : List Blk) : St :=
  St.put ⟨σ.slots, freeze σ.heap ids ++ new.map (renB (shiftρ σ.heap.length))⟩ d (ren (shiftρ σ.heap.length) r)
def wcallD (P : Program) (f : Opd) (args : List Opd) (d : Option Nat) (σ : St) (K : St → Prop) : Prop :=
  ∃ g first cap, target (ev σ.get f) = some (g, first, cap) ∧ plainL (rfyL (hget σ.heap) (argsOf σ f args)) = true ∧
    ∃ Q, ACall P g (rfyL (hget σ.heap) (argsOf σ f args)) [] Q ∧ (∃ r new, Q r new) ∧ ∀ r new, Q r new → K (landed σ (lidsL (hget σ.heap) (argsOf σ f args)) d r new)
/-- a call that sees our blocks: it has its place in a draw -/
def wcallR (P : Program) (f : Opd) (args : List Opd) (d : Option Nat) (σ : St) (K : St → Prop) : Prop :=
  ∃ g first cap, target (ev σ.get f) = some (g, first, cap) ∧
    ∃ Q, ACall P g (argsOf σ f args) σ.heap Q ∧ (∃ r H', Q r H') ∧ ∀ r H', Q r H' → K (St.put ⟨σ.slots, H'⟩ d r)
def wanted (o : AOper) (σ : St) : Bool := match o.guard with
  | none => true
  | some (g, want) => match σ.get g with
    | .lit (.bool b) => b == want
    | _ => false
def wstepD (P : Program) (base : Nat) (o : AOper) (σ : St) (K : St → Prop) : Prop :=
  (∃ x, nres base o σ = some x ∧ K (after σ o.dst x)) ∨ (wanted o σ = true ∧ ∃ f args, o.op = .call false f args ∧ wcallD P f args o.dst σ K) ∨ (wanted o σ = true ∧ ∃ f args, o.op = .call true f args ∧ wcallR P f args o.dst σ K)

structure Foot where
  rd : List Nat
  wr : List Nat
  call : Option Nat
  raw : Bool
def AOp.isRaw : AOp → Bool
  | .call true _ _ => true
  | _ => false
def foot (base : Nat) (o : AOper) (σ : St) : Foot :=
  ⟨match o.op with
    | .call _ f args => lidsL (hget σ.heap) (argsOf σ f args)
    | .app _ _ _ x => topId (ev σ.get x)
    | op => if kind op = .R then tops σ.get op else [],
   wids σ.get base o, match o.op with
    | .call .. => some σ.heap.length
    | _ => none, o.op.isRaw⟩
def compat (F G : Foot) : Prop :=
  (∀ x ∈ F.wr, x ∉ G.wr ∧ x ∉ G.rd) ∧ (∀ x ∈ G.wr, x ∉ F.rd) ∧ (∀ n, F.call = some n → ∀ x, x ∈ G.rd ∨ x ∈ G.wr → x < n) ∧ (∀ n, G.call = some n → ∀ x, x ∈ F.rd ∨ x ∈ F.wr → x < n) ∧ F.raw = false ∧ G.raw = false
theorem compat.symm {F G : Foot} (h : compat F G) : compat G F :=
  ⟨fun x hx => ⟨fun hf => (h.1 x hf).1 hx, h.2.1 x hx⟩, fun x hx => (h.1 x hx).2, h.2.2.2.1, h.2.2.1, h.2.2.2.2.2, h.2.2.2.2.1⟩

def looks (o : AOper) : List Nat := (opds o.op).flatMap opdT ++ (match o.guard with | some (g, _) => [g] | none => [])
def apart (x y : AOper) : Bool :=
  (match x.dst with
   | some d => !(looks y).contains d && y.dst != some d
   | none => true) &&
  (match y.dst with
   | some d => !(looks x).contains d
   | none => true) && !(x.op.isCall && y.op.isCall)
theorem apart_spec {x y : AOper} (h : apart x y = true) : (∀ d, x.dst = some d → d ∉ looks y) ∧ (∀ d, x.dst = some d → y.dst ≠ some d) ∧ (∀ d, y.dst = some d → d ∉ looks x) ∧ ¬ (x.op.isCall = true ∧ y.op.isCall = true) := by
  simp only [apart, Bool.and_eq_true] at h
  obtain ⟨⟨h1, h2⟩, h3⟩ := h
  refine ⟨fun d hd => ?_, fun d hd => ?_, fun d hd => ?_, by rintro ⟨h4, h5⟩; simp [h4, h5] at h3⟩
  · simp [hd] at h1; exact h1.1
  · simp [hd] at h1; exact h1.2
  · simp [hd] at h2; exact h2

/-- two states seen alike by an operation -/
def Agree (o : AOper) (σ τ : St) : Prop := ∀ t ∈ looks o, σ.get t = τ.get t
theorem Agree.ev_ {o : AOper} {σ τ : St} (h : Agree o σ τ) : ∀ x ∈ opds o.op, ev σ.get x = ev τ.get x := fun x hx => by
  cases x with
  | tmp t => exact h t (List.mem_append_left _ (List.mem_flatMap.2 ⟨_, hx, by simp [opdT]⟩))
  | val v => rfl
theorem Agree.tops_ {o : AOper} {σ τ : St} (h : Agree o σ τ) : tops σ.get o.op = tops τ.get o.op := by
  unfold tops
  have : (opds o.op).map (fun x => topId (ev σ.get x)) = (opds o.op).map (fun x => topId (ev τ.get x)) := List.map_congr_left fun x hx => by rw [h.ev_ x hx]
  rw [List.flatMap_def, List.flatMap_def, this]
theorem Agree.wtops_ {o : AOper} {σ τ : St} (h : Agree o σ τ) : wtops σ.get o.op = wtops τ.get o.op := by
  have ht := h.tops_
  have he := h.ev_
  cases hop : o.op <;> rw [hop] at ht he <;> simp only [wtops] <;> first | exact ht | (rw [he _ (by simp [opds])])
theorem Agree.wids_ {o : AOper} {σ τ : St} (h : Agree o σ τ) (base : Nat) : wids σ.get base o = wids τ.get base o := by
  unfold wids; rw [h.tops_, h.wtops_]
theorem Agree.args_ {o : AOper} {σ τ : St} (h : Agree o σ τ) {raw : Bool} {f : Opd} {args : List Opd} (ho : o.op = .call raw f args) : ev σ.get f = ev τ.get f ∧ argsOf σ f args = argsOf τ f args := by
  have h1 : ev σ.get f = ev τ.get f := h.ev_ f (by rw [ho]; simp [opds])
  refine ⟨h1, ?_⟩
  unfold argsOf
  rw [h1, List.map_congr_left fun x hx => h.ev_ x (by rw [ho]; simp [opds, hx])]
theorem lids_congr {h h' : Nat → Blk} : ∀ (d : Nat) (v : AV), (∀ id ∈ lids h d v, h id = h' id) → lids h d v = lids h' d v ∧ rfy h d v = rfy h' d v
  | 0, _, _ => ⟨rfl, rfl⟩
  | d + 1, .lsl id i len, hh => by
    have h0 : h id = h' id := hh id (by simp [lids])
    simp only [lids, rfy]
    rw [← h0]
    split
    · rename_i own nil sz els hb
      have hm : ∀ r ∈ (els.drop i).take len, ∀ v ∈ r, lids h d v = lids h' d v ∧ rfy h d v = rfy h' d v := fun r hr v hv => lids_congr d v fun id' hid' => hh id' (by
        simp only [lids, hb]; exact List.mem_cons_of_mem _ (List.mem_flatMap.2 ⟨r, hr, List.mem_flatMap.2 ⟨v, hv, hid'⟩⟩))
      have e1 : (((els.drop i).take len).map fun r => r.map (rfy h d)) = ((els.drop i).take len).map fun r => r.map (rfy h' d) := List.map_congr_left fun r hr => List.map_congr_left fun v hv => (hm r hr v hv).2
      have e2 : (((els.drop i).take len).flatMap fun r => r.flatMap (lids h d)) = ((els.drop i).take len).flatMap fun r => r.flatMap (lids h' d) := by
        rw [List.flatMap_def, List.flatMap_def]
        exact congrArg _ (List.map_congr_left fun r hr => by rw [List.flatMap_def, List.flatMap_def]; exact congrArg _ (List.map_congr_left fun v hv => (hm r hr v hv).1))
      rw [e1, e2]
      exact ⟨rfl, rfl⟩
    · exact ⟨rfl, rfl⟩
  | d + 1, .agg cs, hh => by
    have hm : ∀ v ∈ cs, lids h d v = lids h' d v ∧ rfy h d v = rfy h' d v := fun v hv => lids_congr d v fun id' hid' => hh id' (by simp only [lids]; exact List.mem_flatMap.2 ⟨v, hv, hid'⟩)
    simp only [lids, rfy]
    rw [List.flatMap_def, List.flatMap_def, List.map_congr_left (fun v hv => (hm v hv).1), List.map_congr_left (fun v hv => (hm v hv).2)]
    exact ⟨rfl, rfl⟩
  | _ + 1, .lit _, _ => ⟨rfl, rfl⟩
  | _ + 1, .sl .., _ => ⟨rfl, rfl⟩
  | _ + 1, .emp, _ => ⟨rfl, rfl⟩
  | _ + 1, .adr .., _ => ⟨rfl, rfl⟩
  | _ + 1, .tup .., _ => ⟨rfl, rfl⟩
  | _ + 1, .loc .., _ => ⟨rfl, rfl⟩
  | _ + 1, .clo .., _ => ⟨rfl, rfl⟩
  | _ + 1, .mp .., _ => ⟨rfl, rfl⟩
  | _ + 1, .top, _ => ⟨rfl, rfl⟩
  | _ + 1, .top1, _ => ⟨rfl, rfl⟩
  | _ + 1, .err, _ => ⟨rfl, rfl⟩
theorem lidsL_congr {h h' : Nat → Blk} {l : List AV} (hh : ∀ id ∈ lidsL h l, h id = h' id) : lidsL h l = lidsL h' l ∧ rfyL h l = rfyL h' l := by
  have hm : ∀ v ∈ l, lids h 6 v = lids h' 6 v ∧ rfy h 6 v = rfy h' 6 v := fun v hv => lids_congr 6 v fun id' hid' => hh id' (List.mem_flatMap.2 ⟨v, hv, hid'⟩)
  unfold lidsL rfyL
  rw [List.flatMap_def, List.flatMap_def, List.map_congr_left (fun v hv => (hm v hv).1), List.map_congr_left (fun v hv => (hm v hv).2)]
  exact ⟨rfl, rfl⟩

theorem Agree.foot_ {o : AOper} {σ τ : St} (h : Agree o σ τ) (base : Nat) (hl : o.op.isCall = true → σ.heap.length = τ.heap.length ∧ ∀ id ∈ (foot base o σ).rd, σ.heap[id]? = τ.heap[id]?) : foot base o σ = foot base o τ := by
  unfold foot at hl ⊢
  rw [h.wids_ base]
  cases hop : o.op <;> (try (rw [hop] at hl)) <;> (try (have := h.tops_; rw [hop] at this; simp only [this]; done))
  case app sz by_ a x => simp only [h.ev_ x (by rw [hop]; simp [opds])]
  rename_i raw f args
  obtain ⟨hl1, hl2⟩ := hl rfl
  dsimp only at hl2
  have hc : lidsL (hget σ.heap) (argsOf σ f args) = lidsL (hget τ.heap) (argsOf τ f args) := by
    rw [← (h.args_ hop).2]
    exact (lidsL_congr fun id hid => by unfold hget; rw [hl2 id hid]).1
  simp only [hc, hl1]
theorem Agree.wanted_ {o : AOper} {σ τ : St} (h : Agree o σ τ) : wanted o σ = wanted o τ := by
  unfold wanted
  cases hg : o.guard with
  | none => rfl
  | some p => obtain ⟨g, w⟩ := p; simp only []; rw [h g (List.mem_append_right _ (by simp [hg]))]

def sees (base : Nat) (o : AOper) (H H' : List Blk) (σ : St) : Prop :=
  (∀ x ∈ (foot base o σ).rd, Alike (hget H x) (hget H' x)) ∧ ∀ x ∈ (foot base o σ).wr, H[x]? = H'[x]?

theorem makes_kind {op : AOp} (h : op.makes = true) : kind op = .A ∨ kind op = .P := by
  cases op <;> simp [AOp.makes] at h <;> simp [kind]

theorem nres_same {base : Nat} {o : AOper} {σ τ : St} (ha : Agree o σ τ) (hs : sees base o σ.heap τ.heap σ) : nres base o σ = nres base o τ := by
  have hg : ∀ x ∈ (foot base o σ).wr, hget σ.heap x = hget τ.heap x := fun x hx => by unfold hget; rw [hs.2 x hx]
  have hf : (o.op.makes = true → fresh? σ.heap (base + o.fr) = true) ↔ (o.op.makes = true → fresh? τ.heap (base + o.fr) = true) := by
    by_cases hm : o.op.makes = true
    · have : σ.heap[base + o.fr]? = τ.heap[base + o.fr]? := hs.2 _ (by
        unfold foot wids
        rcases makes_kind hm with hk | hk <;> simp [hk])
      simp only [hm, forall_const]
      unfold fresh?
      rw [this]
    · simp [hm]
  have hr : aop (base + o.fr) σ.get (hget σ.heap) o.op = aop (base + o.fr) τ.get (hget τ.heap) o.op := by
    rw [← aop_s ha.ev_]
    cases hk : kind o.op with
    | S => exact aop_h (.inl hk)
    | A => exact aop_h (.inr (.inl hk))
    | R => exact aop_h (.inr (.inr (.inl ⟨hk, fun id hid => hs.1 id (by
        unfold foot
        cases hop : o.op <;> rw [hop] at hk hid <;> simp [kind] at hk <;> simp only [kind, if_true] <;> exact hid)⟩)))
    | W => exact aop_h (.inr (.inr (.inr (.inl ⟨hk, fun id hid => hg id (by unfold foot wids; simp only [hk]; exact hid)⟩))))
    | P => exact aop_h (.inr (.inr (.inr (.inr ⟨hk, fun id hid => hs.1 id (by
        unfold foot
        cases hop : o.op <;> rw [hop] at hk hid <;> simp [kind] at hk; exact hid), fun id hid => hg id (by unfold foot wids; simp only [hk]; exact List.mem_cons_of_mem _ hid)⟩))))
    | C => cases hop : o.op <;> rw [hop] at hk <;> simp [kind] at hk; simp [aop]
  unfold nres
  cases hgd : o.guard with
  | none => simp only [hr, hf]
  | some p =>
    obtain ⟨g, w⟩ := p
    simp only [hr, hf]
    rw [ha g (List.mem_append_right _ (by simp [hgd]))]

theorem nres_ws {base : Nat} {o : AOper} {σ : St} {x : AV × List (Nat × Blk)} (h : nres base o σ = some x) : ∀ p ∈ x.2, p.1 ∈ (foot base o σ).wr := by
  obtain ⟨v, ws⟩ := x
  unfold nres at h
  repeat' split at h
  all_goals first
    | (simp at h; done)
    | exact aop_ws h
    | (simp only [Option.some.injEq, Prod.mk.injEq] at h; obtain ⟨_, rfl⟩ := h; simp)

theorem writes_len : ∀ (ws : List (Nat × Blk)) (H : List Blk), (writes H ws).length = H.length
  | [], _ => rfl
  | (i, b) :: r, H => by simp only [writes]; rw [writes_len r]; simp
theorem writes_get {k : Nat} : ∀ (ws : List (Nat × Blk)) (H : List Blk), (∀ p ∈ ws, p.1 ≠ k) → (writes H ws)[k]? = H[k]?
  | [], _, _ => rfl
  | (i, b) :: r, H, h => by
    simp only [writes]
    rw [writes_get r _ fun p hp => h p (by simp [hp]), set_get_ne (h (i, b) (by simp))]
theorem writes_set : ∀ (ws : List (Nat × Blk)) (H : List Blk) (i : Nat) (b : Blk), (∀ p ∈ ws, p.1 ≠ i) → writes (H.set i b) ws = (writes H ws).set i b
  | [], _, _, _, _ => rfl
  | (j, c) :: r, H, i, b, h => by
    simp only [writes]
    rw [List.set_comm _ _ (Ne.symm (h (j, c) (by simp))), writes_set r _ i b fun p hp => h p (by simp [hp])]
theorem writes_comm : ∀ (ws vs : List (Nat × Blk)) (H : List Blk), (∀ p ∈ ws, ∀ q ∈ vs, p.1 ≠ q.1) → writes (writes H ws) vs = writes (writes H vs) ws
  | [], _, _, _ => rfl
  | (i, b) :: r, vs, H, h => by
    simp only [writes]
    rw [writes_comm r vs _ fun p hp => h p (by simp [hp]), writes_set vs H i b fun q hq => (h (i, b) (by simp) q hq).symm]

theorem freeze1_len (H : List Blk) (id : Nat) : (freeze1 H id).length = H.length := by unfold freeze1; split <;> simp
theorem freeze_len : ∀ (ids : List Nat) (H : List Blk), (freeze H ids).length = H.length
  | [], _ => rfl
  | id :: r, H => by simp only [freeze]; rw [freeze_len r, freeze1_len]
theorem freeze1_set {H : List Blk} {id i : Nat} {b : Blk} (h : i ≠ id) : freeze1 (H.set i b) id = (freeze1 H id).set i b := by
  unfold freeze1
  rw [set_get_ne h]
  split
  · exact List.set_comm _ _ h
  · rfl
theorem freeze_set : ∀ (ids : List Nat) (H : List Blk) (i : Nat) (b : Blk), i ∉ ids → freeze (H.set i b) ids = (freeze H ids).set i b
  | [], _, _, _, _ => rfl
  | id :: r, H, i, b, h => by
    simp only [List.mem_cons, not_or] at h
    simp only [freeze]
    rw [freeze1_set h.1, freeze_set r _ i b h.2]
theorem writes_freeze : ∀ (ws : List (Nat × Blk)) (H X : List Blk) (ids : List Nat), (∀ p ∈ ws, p.1 ∉ ids ∧ p.1 < H.length) → writes (freeze H ids ++ X) ws = freeze (writes H ws) ids ++ X
  | [], _, _, _, _ => rfl
  | (i, b) :: r, H, X, ids, h => by
    have h0 := h (i, b) (by simp)
    simp only [writes]
    rw [List.set_append_left _ _ (by rw [freeze_len]; exact h0.2), ← freeze_set _ _ _ _ h0.1]
    exact writes_freeze r _ X ids fun p hp => by have := h p (by simp [hp]); simpa using this
theorem freeze1_get (H : List Blk) (id k : Nat) : (freeze1 H id)[k]? = H[k]? ∨ ∃ o o' n z e, H[k]? = some (.cells o n z e) ∧ (freeze1 H id)[k]? = some (.cells o' n z e) := by
  unfold freeze1
  split
  · rename_i nil sz els h
    by_cases hk : id = k
    · subst hk; exact .inr ⟨true, false, nil, sz, els, h, set_get_eq (lt_of_get h)⟩
    · exact .inl (set_get_ne hk)
  · exact .inl rfl
theorem freeze_alike : ∀ (ids : List Nat) (H : List Blk) (k : Nat), (freeze H ids)[k]? = H[k]? ∨ ∃ o o' n z e, H[k]? = some (.cells o n z e) ∧ (freeze H ids)[k]? = some (.cells o' n z e)
  | [], _, _ => .inl rfl
  | id :: r, H, k => by
    simp only [freeze]
    rcases freeze_alike r (freeze1 H id) k with h1 | ⟨o, o', n, z, e, h1, h2⟩ <;> rcases freeze1_get H id k with h3 | ⟨p, p', m, y, f, h3, h4⟩
    · exact .inl (h1.trans h3)
    · exact .inr ⟨p, p', m, y, f, h3, h1.trans h4⟩
    · exact .inr ⟨o, o', n, z, e, h3 ▸ h1, h2⟩
    · rw [h4] at h1
      simp only [Option.some.injEq, Blk.cells.injEq] at h1
      obtain ⟨rfl, rfl, rfl, rfl⟩ := h1
      exact .inr ⟨p, o', m, y, f, h3, h2⟩
theorem freeze_out {ids : List Nat} : ∀ {H : List Blk} {k : Nat}, k ∉ ids → (freeze H ids)[k]? = H[k]? := by
  induction ids with
  | nil => intro H k _; rfl
  | cons id r ih =>
    intro H k h
    simp only [List.mem_cons, not_or] at h
    simp only [freeze]
    rw [ih h.2]
    unfold freeze1
    split
    · exact set_get_ne (Ne.symm h.1)
    · rfl
end Go.Abs
/- Operations that no order binds: any of them may be taken first. -/
namespace Go.Abs
open Go.RowKit

theorem alike_of {H H' : List Blk} {k : Nat} (h : H[k]? = H'[k]?) : Alike (hget H k) (hget H' k) := .inl (by unfold hget; rw [h])

def Eqv (σ τ : St) : Prop := σ.heap = τ.heap ∧ ∀ t, σ.get t = τ.get t
theorem Eqv.refl (σ : St) : Eqv σ σ := ⟨rfl, fun _ => rfl⟩
theorem Eqv.symm {σ τ : St} (h : Eqv σ τ) : Eqv τ σ := ⟨h.1.symm, fun t => (h.2 t).symm⟩
theorem Eqv.trans {σ τ υ : St} (h : Eqv σ τ) (g : Eqv τ υ) : Eqv σ υ := ⟨h.1.trans g.1, fun t => (h.2 t).trans (g.2 t)⟩
theorem Eqv.agree {σ τ : St} (h : Eqv σ τ) (o : AOper) : Agree o σ τ := fun t _ => h.2 t
theorem put_heap (σ : St) (d : Option Nat) (v : AV) : (σ.put d v).heap = σ.heap := by cases d <;> rfl
theorem Eqv.put_ {sl sl' : List (Nat × AV)} {H H' : List Blk} (hs : ∀ t, look sl t = look sl' t) (hH : H = H') (d : Option Nat) (v : AV) : Eqv (St.put ⟨sl, H⟩ d v) (St.put ⟨sl', H'⟩ d v) :=
  ⟨by rw [put_heap, put_heap]; exact hH, fun t => by rw [get_put, get_put]; split; rfl; exact hs t⟩
theorem Eqv.after_ {σ τ : St} (h : Eqv σ τ) (d : Option Nat) (x : AV × List (Nat × Blk)) : Eqv (after σ d x) (after τ d x) := Eqv.put_ h.2 (by rw [h.1]) d _
theorem Eqv.landed_ {σ τ : St} (h : Eqv σ τ) (ids : List Nat) (d : Option Nat) (r : AV) (new : List Blk) : Eqv (landed σ ids d r new) (landed τ ids d r new) := by
  unfold landed
  rw [h.1]
  exact Eqv.put_ h.2 rfl d _
theorem Eqv.nres_ {σ τ : St} (h : Eqv σ τ) (base : Nat) (o : AOper) : nres base o σ = nres base o τ :=
  nres_same (h.agree o) ⟨fun _ _ => alike_of (by rw [h.1]), fun _ _ => by rw [h.1]⟩
theorem Eqv.foot_ {σ τ : St} (h : Eqv σ τ) (base : Nat) (o : AOper) : foot base o σ = foot base o τ := (h.agree o).foot_ base fun _ => ⟨by rw [h.1], fun _ _ => by rw [h.1]⟩

section
variable {P : Program} {base : Nat} {σ τ : St} {o c : AOper}

/-- a call sees the same from two states -/
theorem wcallD_same {raw : Bool} {f : Opd} {args : List Opd} (ho : o.op = .call raw f args) (ha : Agree o σ τ) (hh : ∀ id ∈ lidsL (hget σ.heap) (argsOf σ f args), σ.heap[id]? = τ.heap[id]?) {d : Option Nat} {K K' : St → Prop}
    (hK : ∀ r new, K (landed σ (lidsL (hget σ.heap) (argsOf σ f args)) d r new) → K' (landed τ (lidsL (hget σ.heap) (argsOf σ f args)) d r new)) (h : wcallD P f args d σ K) : wcallD P f args d τ K' := by
  obtain ⟨g, first, cap, ht, hp, Q, hQ, hne, hq⟩ := h
  obtain ⟨h1, h2⟩ := ha.args_ ho
  have hcg := lidsL_congr (h := hget σ.heap) (h' := hget τ.heap) (l := argsOf σ f args) fun id hi => by unfold hget; rw [hh id hi]
  have hr : rfyL (hget σ.heap) (argsOf σ f args) = rfyL (hget τ.heap) (argsOf τ f args) := by rw [← h2]; exact hcg.2
  exact ⟨g, first, cap, h1 ▸ ht, hr ▸ hp, Q, hr ▸ hQ, hne, fun r new hr' => by rw [← h2, ← hcg.1]; exact hK r new (hq r new hr')⟩

theorem wcallR_eqv {raw : Bool} {f : Opd} {args : List Opd} (ho : o.op = .call raw f args) (h : Eqv σ τ) {d : Option Nat} {K K' : St → Prop} (hK : ∀ s t, Eqv s t → K s → K' t) (hw : wcallR P f args d σ K) : wcallR P f args d τ K' := by
  obtain ⟨g, first, cap, ht, Q, hQ, hne, hq⟩ := hw
  obtain ⟨h1, h2⟩ := (h.agree o).args_ ho
  exact ⟨g, first, cap, h1 ▸ ht, Q, by rw [← h2, ← h.1]; exact hQ, hne, fun r H' hr => hK _ _ (Eqv.put_ h.2 rfl d r) (hq r H' hr)⟩
theorem wcallR_mono {f : Opd} {args : List Opd} {d : Option Nat} {K K' : St → Prop} (hK : ∀ s, K s → K' s) (hw : wcallR P f args d σ K) : wcallR P f args d σ K' := by
  obtain ⟨g, first, cap, ht, Q, hQ, hne, hq⟩ := hw
  exact ⟨g, first, cap, ht, Q, hQ, hne, fun r H' hr => hK _ (hq r H' hr)⟩
theorem wstepD_eqv (h : Eqv σ τ) {K K' : St → Prop} (hK : ∀ s t, Eqv s t → K s → K' t) (hw : wstepD P base o σ K) : wstepD P base o τ K' := by
  rcases hw with ⟨x, hx, hk⟩ | ⟨hwt, f, args, ho, hc⟩ | ⟨hwt, f, args, ho, hc⟩
  · exact .inl ⟨x, by rw [← h.nres_]; exact hx, hK _ _ (h.after_ _ _) hk⟩
  rotate_left
  · exact .inr (.inr ⟨by rw [← (h.agree o).wanted_]; exact hwt, f, args, ho, wcallR_eqv ho h hK hc⟩)
  · exact .inr (.inl ⟨by rw [← (h.agree o).wanted_]; exact hwt, f, args, ho, wcallD_same ho (h.agree o) (fun _ _ => by rw [h.1]) (fun r new => hK _ _ (h.landed_ _ _ _ _)) hc⟩)
theorem wstepD_mono {K K' : St → Prop} (hK : ∀ s, K s → K' s) (hw : wstepD P base o σ K) : wstepD P base o σ K' := by
  rcases hw with ⟨x, hx, hk⟩ | ⟨hwt, f, args, ho, g, first, cap, ht, hp, Q, hQ, hne, hq⟩ | ⟨hwt, f, args, ho, hc⟩
  · exact .inl ⟨x, hx, hK _ hk⟩
  · exact .inr (.inl ⟨hwt, f, args, ho, g, first, cap, ht, hp, Q, hQ, hne, fun r new h => hK _ (hq r new h)⟩)
  · exact .inr (.inr ⟨hwt, f, args, ho, wcallR_mono hK hc⟩)

theorem agree_after {x : AV × List (Nat × Blk)} {d : Option Nat} (h : ∀ e, d = some e → e ∉ looks c) : Agree c σ (after σ d x) := fun t ht => by
  unfold after
  rw [get_put, if_neg fun hd => h t hd ht]; rfl
theorem agree_landed {ids : List Nat} {r : AV} {new : List Blk} {d : Option Nat} (h : ∀ e, d = some e → e ∉ looks c) : Agree c σ (landed σ ids d r new) := fun t ht => by
  unfold landed
  rw [get_put, if_neg fun hd => h t hd ht]; rfl
theorem after_heap {x : AV × List (Nat × Blk)} {d : Option Nat} : (after σ d x).heap = writes σ.heap x.2 := put_heap _ _ _
theorem landed_heap {ids : List Nat} {r : AV} {new : List Blk} {d : Option Nat} : (landed σ ids d r new).heap = freeze σ.heap ids ++ new.map (renB (shiftρ σ.heap.length)) := put_heap _ _ _

theorem foot_after {x : AV × List (Nat × Blk)} {d : Option Nat} (h : ∀ e, d = some e → e ∉ looks c) (hd : ∀ p ∈ x.2, p.1 ∉ (foot base c σ).rd) : foot base c (after σ d x) = foot base c σ :=
  ((agree_after h).foot_ base fun _ => ⟨by rw [after_heap, writes_len], fun id hid => by rw [after_heap]; exact (writes_get _ _ fun p hp he => hd p hp (he ▸ hid)).symm⟩).symm
theorem foot_after' {x : AV × List (Nat × Blk)} {d : Option Nat} (h : ∀ e, d = some e → e ∉ looks c) (hd : ∀ p ∈ x.2, p.1 ∉ (foot base c (after σ d x)).rd) : foot base c (after σ d x) = foot base c σ :=
  Agree.foot_ (fun t ht => (agree_after h t ht).symm) base fun _ => ⟨by rw [after_heap, writes_len], fun id hid => by rw [after_heap]; exact writes_get _ _ fun p hp he => hd p hp (he ▸ hid)⟩
theorem nres_after {x : AV × List (Nat × Blk)} {d : Option Nat} (h : ∀ e, d = some e → e ∉ looks c) (hd : ∀ p ∈ x.2, p.1 ∉ (foot base c σ).rd ∧ p.1 ∉ (foot base c σ).wr) : nres base c (after σ d x) = nres base c σ := by
  refine (nres_same (agree_after h) ⟨fun k hk => alike_of ?_, fun k hk => ?_⟩).symm <;> rw [after_heap, writes_get]
  · intro p hp he; exact (hd p hp).1 (he ▸ hk)
  · intro p hp he; exact (hd p hp).2 (he ▸ hk)
theorem foot_landed {ids : List Nat} {r : AV} {new : List Blk} {d : Option Nat} (h : ∀ e, d = some e → e ∉ looks c) (hc : c.op.isCall = false) : foot base c (landed σ ids d r new) = foot base c σ :=
  ((agree_landed h).foot_ base fun h => by rw [hc] at h; simp at h).symm
theorem nres_landed {ids : List Nat} {r : AV} {new : List Blk} {d : Option Nat} (h : ∀ e, d = some e → e ∉ looks c) (hr : ∀ k ∈ (foot base c σ).rd, k < σ.heap.length) (hw : ∀ k ∈ (foot base c σ).wr, k ∉ ids ∧ k < σ.heap.length) : nres base c (landed σ ids d r new) = nres base c σ := by
  refine (nres_same (agree_landed h) ⟨fun k hk => ?_, fun k hk => ?_⟩).symm <;> rw [landed_heap]
  · unfold hget
    rw [List.getElem?_append_left (by rw [freeze_len]; exact hr k hk)]
    rcases freeze_alike ids σ.heap k with h1 | ⟨o, o', n, z, e, h1, h2⟩
    · rw [h1]; exact .inl rfl
    · rw [h1, h2]; exact .inr ⟨o, o', n, z, e, rfl, rfl⟩
  · rw [List.getElem?_append_left (by rw [freeze_len]; exact (hw k hk).2), freeze_out (hw k hk).1]

theorem put2_get {sl : List (Nat × AV)} {H H1 H2 H3 : List Blk} {d e : Option Nat} {u v : AV} (hne : ∀ k, d = some k → e ≠ some k) (t : Nat) :
    (St.put ⟨(St.put ⟨sl, H⟩ d u).slots, H1⟩ e v).get t = (St.put ⟨(St.put ⟨sl, H2⟩ e v).slots, H3⟩ d u).get t := by
  rw [get_put, get_put]
  show (if e = some t then v else (St.put ⟨sl, H⟩ d u).get t) = if d = some t then u else (St.put ⟨sl, H2⟩ e v).get t
  rw [get_put, get_put]
  by_cases hd : d = some t
  · rw [if_pos hd, if_neg (hne t hd), if_pos hd]
  · rw [if_neg hd, if_neg hd]; rfl
theorem after_after {x y : AV × List (Nat × Blk)} {d e : Option Nat} (hne : ∀ k, d = some k → e ≠ some k) (hd : ∀ p ∈ x.2, ∀ q ∈ y.2, p.1 ≠ q.1) : Eqv (after (after σ d x) e y) (after (after σ e y) d x) :=
  ⟨by rw [after_heap, after_heap, after_heap, after_heap]; exact writes_comm _ _ _ hd, fun t => put2_get hne t⟩
theorem after_landed {y : AV × List (Nat × Blk)} {ids : List Nat} {r : AV} {new : List Blk} {d e : Option Nat} (hne : ∀ k, d = some k → e ≠ some k) (hd : ∀ p ∈ y.2, p.1 ∉ ids ∧ p.1 < σ.heap.length) : Eqv (after (landed σ ids d r new) e y) (landed (after σ e y) ids d r new) := by
  refine ⟨?_, fun t => ?_⟩
  · rw [after_heap, landed_heap, landed_heap, after_heap, writes_len]
    exact writes_freeze _ _ _ _ hd
  · unfold landed
    rw [after_heap, writes_len]
    exact put2_get hne t
end

/-- operations, with what those before have seen and written -/
def wdops (P : Program) (base : Nat) (bef : List (List Nat)) : List (Nat × AOper) → List (Nat × Foot) → St → (St → Prop) → Prop
  | [], _, σ, K => K σ
  | (n, o) :: r, past, σ, K => (∀ p ∈ past, p.1 ∉ bef.getD n [] → n ∉ bef.getD p.1 [] → compat p.2 (foot base o σ)) ∧ wstepD P base o σ fun σ' => wdops P base bef r ((n, foot base o σ) :: past) σ' K

section
variable {P : Program} {base : Nat} {bef : List (List Nat)} {K : St → Prop}
theorem wdops_eqv : ∀ (L : List (Nat × AOper)) (past past' : List (Nat × Foot)) (σ τ : St), (∀ s t, Eqv s t → K s → K t) → Eqv σ τ → (∀ p ∈ past', p ∈ past) → wdops P base bef L past σ K → wdops P base bef L past' τ K
  | [], _, _, σ, τ, hK, h, _, hw => hK _ _ h hw
  | (n, o) :: r, past, past', σ, τ, hK, h, hp, hw => by
    simp only [wdops] at hw ⊢
    rw [← h.foot_]
    exact ⟨fun p hpp => hw.1 p (hp p hpp), wstepD_eqv h (fun s t hst => wdops_eqv r _ _ s t hK hst fun p hpp => by
      simp only [List.mem_cons] at hpp ⊢; exact hpp.imp id (hp p)) hw.2⟩

theorem wdops_mono {K' : St → Prop} : ∀ (L : List (Nat × AOper)) (past : List (Nat × Foot)) (σ : St), (∀ s, K s → K' s) → wdops P base bef L past σ K → wdops P base bef L past σ K'
  | [], _, σ, hK, hw => hK _ hw
  | (n, o) :: r, past, σ, hK, hw => ⟨hw.1, wstepD_mono (fun s hs => wdops_mono r _ s hK hs) hw.2⟩

theorem isCall_of {o : AOper} {f : Opd} {args : List Opd} (h : o.op = .call false f args) : o.op.isCall = true := by rw [h]; rfl
theorem foot_call {o : AOper} {raw : Bool} {f : Opd} {args : List Opd} (h : o.op = .call raw f args) (σ : St) : (foot base o σ).rd = lidsL (hget σ.heap) (argsOf σ f args) ∧ (foot base o σ).call = some σ.heap.length := by
  unfold foot; rw [h]; exact ⟨rfl, rfl⟩

theorem swap {n m : Nat} {o c : AOper} {R : List (Nat × AOper)} {past : List (Nat × Foot)} {σ : St} (hK : ∀ s t, Eqv s t → K s → K t) (h1 : n ∉ bef.getD m []) (h2 : m ∉ bef.getD n []) (hap : apart o c = true)
    (h : wdops P base bef ((n, o) :: (m, c) :: R) past σ K) : wdops P base bef ((m, c) :: (n, o) :: R) past σ K := by
  obtain ⟨a1, a2, a3, a4⟩ := apart_spec hap
  have a2' : ∀ k, c.dst = some k → o.dst ≠ some k := fun k hk ho => a2 k ho hk
  have mem3 : ∀ {F G : Nat × Foot} (p : Nat × Foot), p ∈ F :: G :: past → p ∈ G :: F :: past := fun p hp => by
    simp only [List.mem_cons] at hp ⊢; rcases hp with h | h | h
    · exact .inr (.inl h)
    · exact .inl h
    · exact .inr (.inr h)
  simp only [wdops] at h ⊢
  obtain ⟨ho, hw⟩ := h
  rcases hw with ⟨x, hx, hchk, hc⟩ | ⟨hwt, f, args, hop, hcall⟩ | ⟨hwt, f, args, hop, g, first, cap, ht, Q, hQ, ⟨r0, H0, hq0⟩, hq⟩
  · -- the first is no call
    have hxw := nres_ws hx
    have hcmp0 : compat (foot base o σ) (foot base c (after σ o.dst x)) := hchk (n, foot base o σ) (by simp) h1 h2
    have hf1 : foot base c (after σ o.dst x) = foot base c σ := foot_after' a1 fun p hp => (hcmp0.1 _ (hxw p hp)).2
    rw [hf1] at hchk hc
    have hcmp : compat (foot base o σ) (foot base c σ) := hchk (n, foot base o σ) (by simp) h1 h2
    refine ⟨fun p hp => hchk p (by simp [hp]), ?_⟩
    rcases hc with ⟨y, hy, hr⟩ | ⟨hwt, f, args, hop, hcall⟩ | ⟨hwt, f, args, hop, hcall⟩
    rotate_right
    · have := hcmp.2.2.2.2.2
      simp only [foot, hop, AOp.isRaw] at this
      simp at this
    · have hy' : nres base c σ = some y := by
        rw [← nres_after a1 fun p hp => ⟨(hcmp.1 _ (hxw p hp)).2, (hcmp.1 _ (hxw p hp)).1⟩]; exact hy
      have hyw := nres_ws hy'
      have hf2 : foot base o (after σ c.dst y) = foot base o σ := foot_after a3 fun p hp => hcmp.2.1 _ (hyw p hp)
      refine .inl ⟨y, hy', ?_, .inl ⟨x, ?_, ?_⟩⟩
      · rw [hf2]
        intro p hp hp1 hp2
        simp only [List.mem_cons] at hp
        rcases hp with rfl | hp
        · exact hcmp.symm
        · exact ho p hp hp1 hp2
      · rw [nres_after a3 fun p hp => ⟨hcmp.2.1 _ (hyw p hp), fun hh => (hcmp.1 _ hh).1 (hyw p hp)⟩]; exact hx
      · rw [hf2]
        exact wdops_eqv R _ _ _ _ hK (after_after a2 fun p hp q hq he => (hcmp.1 _ (hxw p hp)).1 (he ▸ hyw q hq)) mem3 hr
    · -- the second is a call
      have hagc : Agree c σ (after σ o.dst x) := agree_after a1
      have hnc : o.op.isCall = false := by
        cases hcc : o.op.isCall with
        | false => rfl
        | true => exact (a4 ⟨hcc, isCall_of hop⟩).elim
      obtain ⟨hrd, hcl⟩ := foot_call (base := base) hop σ
      have hlt := hcmp.2.2.2.1 _ hcl
      have hlids : lidsL (hget (after σ o.dst x).heap) (argsOf (after σ o.dst x) f args) = lidsL (hget σ.heap) (argsOf σ f args) := by
        rw [← (foot_call (base := base) hop (after σ o.dst x)).1, hf1, hrd]
      refine .inr (.inl ⟨by rw [hagc.wanted_]; exact hwt, f, args, hop, wcallD_same (σ := after σ o.dst x) (τ := σ) hop (fun t ht => (hagc t ht).symm) (fun id hid => ?_) (fun r new hk => ?_) hcall⟩)
      · rw [hlids] at hid
        rw [after_heap]
        exact writes_get _ _ fun p hp he => (hcmp.1 _ (hxw p hp)).2 (by rw [hrd, he]; exact hid)
      · rw [hlids] at hk ⊢
        have hwr : ∀ k ∈ (foot base o σ).wr, k ∉ lidsL (hget σ.heap) (argsOf σ f args) ∧ k < σ.heap.length := fun k hk => ⟨fun hm => (hcmp.1 _ hk).2 (by rw [hrd]; exact hm), hlt k (.inr hk)⟩
        have hf2 : foot base o (landed σ (lidsL (hget σ.heap) (argsOf σ f args)) c.dst r new) = foot base o σ := foot_landed a3 hnc
        refine ⟨?_, .inl ⟨x, ?_, ?_⟩⟩
        · rw [hf2]
          intro p hp hp1 hp2
          simp only [List.mem_cons] at hp
          rcases hp with rfl | hp
          · exact hcmp.symm
          · exact ho p hp hp1 hp2
        · rw [nres_landed a3 (fun k hk => hlt k (.inl hk)) hwr]; exact hx
        · rw [hf2]
          exact wdops_eqv R _ _ _ _ hK (after_landed a2' fun p hp => hwr _ (hxw p hp)).symm mem3 hk
  rotate_left
  · have := (hq r0 H0 hq0).1 (n, foot base o σ) (by simp) h1 h2
    have := this.2.2.2.2.1
    simp only [foot, hop, AOp.isRaw] at this
    simp at this
  · -- the first is a call
    have hcc : c.op.isCall = false := by
      cases hc' : c.op.isCall with
      | false => rfl
      | true => exact (a4 ⟨isCall_of hop, hc'⟩).elim
    obtain ⟨hrd, hcl⟩ := foot_call (base := base) hop σ
    have hfl : ∀ r new, foot base c (landed σ (lidsL (hget σ.heap) (argsOf σ f args)) o.dst r new) = foot base c σ := fun r new => foot_landed a1 hcc
    obtain ⟨g, first, cap, ht, hp, Q, hQ, ⟨r0, new0, hq0⟩, hq⟩ := hcall
    have h0 := hq r0 new0 hq0
    dsimp only at h0
    rw [hfl] at h0
    have hcmp : compat (foot base o σ) (foot base c σ) := h0.1 (n, foot base o σ) (by simp) h1 h2
    have hlt := hcmp.2.2.1 _ hcl
    have hwr : ∀ k ∈ (foot base c σ).wr, k ∉ lidsL (hget σ.heap) (argsOf σ f args) ∧ k < σ.heap.length := fun k hk => ⟨fun hm => hcmp.2.1 _ hk (by rw [hrd]; exact hm), hlt k (.inr hk)⟩
    have hnl : ∀ r new, nres base c (landed σ (lidsL (hget σ.heap) (argsOf σ f args)) o.dst r new) = nres base c σ := fun r new => nres_landed a1 (fun k hk => hlt k (.inl hk)) hwr
    have hleft : ∀ {τ : St} {K' : St → Prop}, wstepD P base c τ K' → ∃ y, nres base c τ = some y ∧ K' (after τ c.dst y) := fun hw => by
      rcases hw with hw | ⟨_, f', args', hop', _⟩ | ⟨_, f', args', hop', _⟩
      · exact hw
      · rw [isCall_of hop'] at hcc; simp at hcc
      · rw [hop'] at hcc; simp [AOp.isCall] at hcc
    obtain ⟨y, hy, hk0⟩ := hleft h0.2
    rw [hnl] at hy
    have hyw := nres_ws hy
    have hf2 : foot base o (after σ c.dst y) = foot base o σ := foot_after a3 fun p hp => hcmp.2.1 _ (hyw p hp)
    have hago : Agree o σ (after σ c.dst y) := agree_after a3
    refine ⟨fun p hp => h0.1 p (by simp [hp]), .inl ⟨y, hy, ?_, .inr (.inl ⟨by rw [← hago.wanted_]; exact hwt, f, args, hop, ?_⟩)⟩⟩
    · rw [hf2]
      intro p hp hp1 hp2
      simp only [List.mem_cons] at hp
      rcases hp with rfl | hp
      · exact hcmp.symm
      · exact ho p hp hp1 hp2
    · refine wcallD_same (σ := σ) (K := fun τ => wdops P base bef R ((m, foot base c σ) :: (n, foot base o σ) :: past) (after τ c.dst y) K) hop hago (fun id hid => ?_) (fun r new hk => ?_) ⟨g, first, cap, ht, hp, Q, hQ, ⟨r0, new0, hq0⟩, fun r new hqq => ?_⟩
      · rw [after_heap]
        exact (writes_get _ _ fun p hp he => hcmp.2.1 _ (hyw p hp) (by rw [hrd, he]; exact hid)).symm
      · rw [hf2]
        exact wdops_eqv R _ _ _ _ hK (after_landed a2 fun p hp => hwr _ (hyw p hp)) mem3 hk
      · have h3 := hq r new hqq
        dsimp only at h3
        rw [hfl] at h3
        obtain ⟨y', hy', hk'⟩ := hleft h3.2
        rw [hnl, hy] at hy'
        obtain rfl := Option.some.inj hy'
        exact hk'

theorem take_first (hK : ∀ s t, Eqv s t → K s → K t) {m : Nat} {c : AOper} {R : List (Nat × AOper)} : ∀ (L : List (Nat × AOper)) (past : List (Nat × Foot)) (σ : St), (∀ p ∈ L, p.1 ∉ bef.getD m [] ∧ m ∉ bef.getD p.1 [] ∧ apart p.2 c = true) →
    wdops P base bef (L ++ (m, c) :: R) past σ K → wdops P base bef ((m, c) :: (L ++ R)) past σ K
  | [], _, _, _, h => h
  | (n, o) :: L, past, σ, hL, h => by
    obtain ⟨h1, h2, h3⟩ := hL (n, o) (by simp)
    refine swap hK h1 h2 h3 ?_
    simp only [List.cons_append] at h
    rw [wdops] at h ⊢
    exact ⟨h.1, wstepD_mono (fun s hs => take_first hK L _ s (fun p hp => hL p (by simp [hp])) hs) h.2⟩
end
end Go.Abs
/- Regions; code; loops; bodies. -/
namespace Go.Abs
open Go.RowKit
section
variable {P : Program} {N : Nat} {C0 C : Ctx} {σ : St} {a : Act} {md : Option Nat}

theorem run_ok {muts : List FuncId} (h : Rel N C0 σ C a) {o : Oper} {ao : AOper} {base : Nat} (ht : trOp1 P muts o.op = ao.op) (hdst : ao.dst = o.dst) (hd : dstOk N o.dst = true) {K : St → Prop} (hw : wrun P base ao σ K)
    {Q : Exit → Act → World → Prop} {nxt : Act → World → Prop} (hn : ∀ a' w', Goes N C0 K a' w' → nxt a' w') : o.wpIn (FR md) 0 P a C.w nxt Q := by
  unfold trOp1 at ht
  cases htr : trOp P muts o.op with
  | none =>
    rw [htr] at ht
    simp only [Option.getD_none] at ht
    unfold wrun at hw
    rw [← ht] at hw
    simp [aop] at hw
  | some aop0 =>
  rw [htr] at ht
  simp only [Option.getD_some] at ht
  subst ht
  replace ht := htr
  clear htr
  have hnd : ∀ c, o.op ≠ .defer c := by intro c hc; rw [hc] at ht; simp [trOp] at ht
  unfold wrun at hw
  split at hw
  · rename_i raw f args hop
    rw [hop] at ht
    -- the call's own form
    have : ∃ (f' : Operand) (args' : Array Operand) (ts : Array TypeId), o.op = .call { callee := .value f', args := args', argTypes := ts } ∧ f = opd f' ∧ args = args'.toList.map opd := by
      cases ho : o.op with
      | call c =>
        rw [ho] at ht; simp only [trOp] at ht
        obtain ⟨callee, args', argTypes⟩ := c
        unfold opC at ht
        dsimp only at ht
        split at ht
        · split at ht
          · split at ht <;> simp at ht
          · simp at ht
        · simp at ht
        · simp at ht
        · split at ht
          · split at ht
            · split at ht
              · split at ht <;> simp at ht
              · simp at ht
            · simp at ht
          · simp at ht
        · split at ht
          · split at ht
            · split at ht <;> simp at ht
            · simp at ht
          · simp at ht
        · rename_i f0
          split at ht <;> (simp only [Option.some.injEq, AOp.call.injEq] at ht; obtain ⟨_, rfl, rfl⟩ := ht; exact ⟨_, args', argTypes, rfl, rfl, rfl⟩)
        · simp at ht
      | binOp op t x y ty =>
        rw [ho] at ht
        simp only [trOp, opB] at ht
        repeat' split at ht
        all_goals simp at ht
      | unOp op t x => rw [ho] at ht; cases op <;> simp [trOp] at ht
      | makeMap t r => rw [ho] at ht; cases r <;> simp [trOp] at ht
      | lookup t x k ok => rw [ho] at ht; simp [trOp, Option.bind_eq_some_iff] at ht
      | mapUpdate t x k v => rw [ho] at ht; simp [trOp] at ht
      | _ =>
        rw [ho] at ht
        simp only [trOp] at ht
        repeat' split at ht
        all_goals simp at ht
    obtain ⟨f', args', ts, ho, rfl, rfl⟩ := this
    rw [hdst] at hw
    exact call_ok h ho hd hw hn
  · rename_i hcall
    obtain ⟨hfr, hw⟩ := hw
    split at hw
    · rename_i v ws hop
      have hnc : ao.op.isCall = false := by
        cases hao : ao.op <;> first | rfl | (exact (hcall _ _ _ hao).elim)
      obtain ⟨slots, heap⟩ := σ
      have hh := h.heap
      dsimp only at hh
      subst hh
      obtain ⟨u, w', m', hrun, hs, hR, hc⟩ := ok_op h.rel h.slots ht hfr hnc hop
      have hg : Goes N C0 K (a.put o.dst u) w' := ⟨_, ⟨_, m', w', C.prot⟩, rfl, hw, by rw [hdst]; exact h.put hs hR hd hc⟩
      refine oper_in hnd ?_
      rcases hrun with hrun | ⟨hrun, rfl⟩
      · rw [hrun, Oper.uponIn_value]; exact hn _ _ hg
      · rw [hrun, Oper.uponIn_skip]; exact hn _ _ hg
    · exact hw.elim

theorem guard_ok {ops : Array Oper} {o : Oper} {ao : AOper} (hS : Slots C σ.get a) (hg : trGuard ops o.guard = some ao.guard) {base : Nat} {K : St → Prop} (hw : wstep P base ao σ K) :
    (Region.wanted o (yielded ops a.tmps) = true ∧ wrun P base ao σ K) ∨ (Region.wanted o (yielded ops a.tmps) = false ∧ K (σ.put ao.dst (.lit undef))) := by
  unfold wstep at hw
  cases hog : o.guard with
  | none =>
    rw [hog] at hg
    simp only [trGuard, Option.some.injEq] at hg
    rw [← hg] at hw
    exact .inl ⟨by simp [Region.wanted, hog], hw⟩
  | some p =>
    obtain ⟨j, want⟩ := p
    rw [hog] at hg
    simp only [trGuard, Option.map_eq_some_iff] at hg
    obtain ⟨g, hj, hg⟩ := hg
    rw [← hg] at hw
    dsimp only at hw
    split at hw
    · rename_i b hb
      have hx := hS.at_ g
      rw [hb] at hx
      simp only [Conc] at hx
      have hy : yielded ops a.tmps j = some b := by
        unfold yielded
        rw [hj]
        have : a.tmps[g]? = some (.bool b) := by
          rw [Array.getD_eq_getD_getElem?] at hx
          cases hgt : a.tmps[g]? with
          | none => rw [hgt] at hx; simp [undef] at hx
          | some y => rw [hgt] at hx; simp at hx; rw [hx]
        simp [this]
      by_cases hbw : b = want
      · rw [if_pos hbw] at hw
        exact .inl ⟨by simp [Region.wanted, hog, hy, hbw], hw⟩
      · rw [if_neg hbw] at hw
        exact .inr ⟨by simp [Region.wanted, hog, hy, hbw], hw⟩
    · rename_i xs hb
      have hx := hS.at_ g
      rw [hb] at hx
      simp only [Conc] at hx
      have hy : yielded ops a.tmps j = none := by
        unfold yielded
        rw [hj]
        rw [Array.getD_eq_getD_getElem?] at hx
        cases hgt : a.tmps[g]? with
        | none => simp [hgt]
        | some y => rw [hgt] at hx; simp at hx; subst hx; simp [hgt]
      exact .inr ⟨by simp [Region.wanted, hog, hy], hw⟩
    · exact hw.elim

theorem Rel.undef_ (h : Rel N C0 σ C a) {d : Option Nat} (hd : dstOk N d = true) : Rel N C0 (σ.put d (.lit undef)) C (a.put d undef) := by
  obtain ⟨slots, heap⟩ := σ
  have hh := h.heap
  dsimp only at hh
  subst hh
  exact h.put (Step.refl C) h.rel hd (by simp [Conc])

theorem ops_ok {muts : List FuncId} {ops : Array Oper} {base : Nat} {Q : Exit → Act → World → Prop} {K : St → Prop} (hQ : ∀ a' w', Goes N C0 K a' w' → Q .normal a' w') :
    ∀ (l : List Oper) (k : Nat) (aos : List AOper) (k0 k1 : Nat) (σ : St) (C : Ctx) (a : Act), (∀ j, l[j]? = ops[k + j]?) → trOpers P muts N ops k0 l = some (aos, k1) → Rel N C0 σ C a → wops P base aos σ K → wpOpsIn (FR md) 0 P ops Q (List.range' k l.length) a C.w
  | [], k, aos, k0, k1, σ, C, a, _, ht, h, hw => by
    simp only [trOpers, Option.some.injEq, Prod.mk.injEq] at ht
    obtain ⟨rfl, _⟩ := ht
    exact hQ _ _ ⟨σ, C, rfl, hw, h⟩
  | o :: l, k, aos, k0, k1, σ, C, a, hl, ht, h, hw => by
    have h0 : ops[k]? = some o := by simpa using (hl 0).symm
    have hl' : ∀ j, l[j]? = ops[k + 1 + j]? := fun j => by have := hl (j + 1); simpa [Nat.add_assoc, Nat.add_comm 1 j] using this
    simp only [trOpers, Option.bind_eq_some_iff] at ht
    obtain ⟨g, hg, ht⟩ := ht
    split at ht
    · rename_i hd
      simp only [Option.map_eq_some_iff, Prod.mk.injEq] at ht
      obtain ⟨⟨aos', k'⟩, hrest, rfl, rfl⟩ := ht
      rw [List.length_cons, List.range'_succ]
      simp only [wpOpsIn, h0]
      have hnext : ∀ a' w', Goes N C0 (fun σ' => wops P base aos' σ' K) a' w' → wpOpsIn (FR md) 0 P ops Q (List.range' (k + 1) l.length) a' w' := by
        rintro a' w' ⟨σ', C', rfl, hK, hR⟩
        exact ops_ok hQ l (k + 1) aos' _ k' σ' C' a' hl' hrest hR hK
      rcases guard_ok (ao := ⟨o.dst, trOp1 P muts o.op, g, k0⟩) h.slots hg hw with ⟨hwt, hrun⟩ | ⟨hwt, hK⟩
      · rw [if_pos hwt]
        exact run_ok (ao := ⟨o.dst, trOp1 P muts o.op, g, k0⟩) h rfl rfl hd hrun hnext
      · rw [hwt]
        simp only [Bool.false_eq_true, if_false]
        exact ⟨fun _ _ => trivial, hnext _ _ ⟨_, C, rfl, hK, h.undef_ hd⟩⟩
    · simp at ht

/-- numbers for what a region makes -/
theorem resv_ok (h : Rel N C0 σ C a) (n : Nat) : Rel N C0 ⟨σ.slots, σ.heap ++ List.replicate n .resv⟩ ⟨C.H ++ List.replicate n .resv, C.m ++ List.replicate n none, C.w, C.prot⟩ a := by
  have hg : ∀ (id : Nat) B, B ≠ Blk.resv → (C.H ++ List.replicate n Blk.resv)[id]? = some B → C.H[id]? = some B := by
    intro id B hB hb
    rw [List.getElem?_append] at hb
    split at hb
    · exact hb
    · rw [List.getElem?_replicate] at hb
      split at hb
      · simp at hb; exact (hB hb.symm).elim
      · simp at hb
  have hgm : ∀ (id : Nat) B, C.H[id]? = some B → (C.m ++ List.replicate n none)[id]? = C.m[id]? := fun id B hb => by
    rw [List.getElem?_append_left]; rw [h.rel.len]; exact lt_of_get hb
  have hobj : ObjSame C ⟨C.H ++ List.replicate n .resv, C.m ++ List.replicate n none, C.w, C.prot⟩ :=
    ⟨fun id o => ⟨fun h => hg id _ (by simp) h, fun h => by dsimp only; rw [List.getElem?_append_left (lt_of_get h)]; exact h⟩, fun id o ho => hgm id _ ho, fun id o b x _ _ hx _ => hx, rfl⟩
  have hs : Step C ⟨C.H ++ List.replicate n .resv, C.m ++ List.replicate n none, C.w, C.prot⟩ := by
    refine ⟨rfl, rfl, rfl, rfl, Nat.le_refl _, by simp, fun _ _ _ => rfl, fun _ c _ f h => ⟨c, f, h, rfl⟩, ?_, ?_, hobj.objs, hobj.objr⟩
    · rintro b (⟨id, nil, sz, els, base, h1, h2⟩ | ho)
      rotate_left
      · exact .inl (.inr (hobj.own ho))
      have := hg id _ (by simp) h1
      dsimp only at h2
      rw [hgm id _ this] at h2
      exact .inl (.inl ⟨id, nil, sz, els, base, this, h2⟩)
    · intro id B hB hr
      refine ⟨⟨B, by dsimp only; rw [List.getElem?_append_left (lt_of_get hB)]; exact hB, hr⟩, fun own' nil' sz' els' h1 => ?_⟩
      have := hg id _ (by simp) h1
      rw [hB] at this
      exact ⟨own', els', Option.some.inj this, rfl, fun h => h, hgm id _ hB⟩
  refine ⟨by rw [h.heap], ⟨by simp [h.rel.len], ?_, ?_, h.rel.prot, hobj.obj h.rel, hobj.oinj h.rel, hobj.lps h.rel hs, h.rel.glS hs⟩, h.step.trans hs, ⟨fun t => Conc.mono hs _ _ (h.slots.at_ t)⟩, h.defers.same rfl, h.size⟩
  · intro id own nil sz els h1
    have h2 := hg id _ (by simp) h1
    dsimp only
    rw [hgm id _ h2]
    rcases h.rel.blk id own nil sz els h2 with h3 | ⟨hn, b, base, c, e, h3, h4, h5, h6⟩
    · exact .inl h3
    · exact .inr ⟨hn, b, base, c, e, h3, h4, h5, RowsAt.keep hs els b base sz (fun _ _ _ => rfl) h6⟩
  · intro id id' nil sz1 els1 own' nil' sz2 els2 b base base' hne h1 h2 h3 h4
    have h1' := hg id _ (by simp) h1
    have h2' := hg id' _ (by simp) h2
    dsimp only at h3 h4
    rw [hgm id _ h1'] at h3
    rw [hgm id' _ h2'] at h4
    exact h.rel.inj id id' nil sz1 els1 own' nil' sz2 els2 b base base' hne h1' h2' h3 h4

theorem wstep_of {base : Nat} {o : AOper} {K : St → Prop} (h : wstepD P base o σ K) : wstep P base o σ K := by
  have hrun : ∀ x, (if o.op.makes = true → fresh? σ.heap (base + o.fr) = true then aop (base + o.fr) σ.get (hget σ.heap) o.op else none) = some x → K (after σ o.dst x) → wrun P base o σ K := fun x hx hk => by
    split at hx
    · rename_i hm
      obtain ⟨v, ws⟩ := x
      unfold wrun
      split
      · rename_i hop; rw [hop] at hx; simp [aop] at hx
      · exact ⟨fun h => fresh?_iff.1 (hm h), by rw [hx]; exact hk⟩
    · simp at hx
  rcases h with ⟨x, hx, hk⟩ | ⟨hwt, f, args, hop, g, first, cap, ht, hp, Q, hQ, _, hq⟩ | ⟨hwt, f, args, hop, g, first, cap, ht, Q, hQ, _, hq⟩
  · unfold nres at hx
    unfold wstep
    cases hg : o.guard with
    | none => rw [hg] at hx; exact hrun x hx hk
    | some p =>
      obtain ⟨g, want⟩ := p
      rw [hg] at hx
      dsimp only at hx ⊢
      split at hx
      · rename_i b hb
        rw [hb]
        dsimp only
        by_cases hbw : b = want
        · rw [if_pos hbw] at hx ⊢; exact hrun x hx hk
        · rw [if_neg hbw] at hx ⊢
          obtain rfl := Option.some.inj hx
          exact hk
      · rename_i xs hb
        rw [hb]
        obtain rfl := Option.some.inj hx
        exact hk
      · simp at hx
  · have hr : wrun P base o σ K := by
      unfold wrun
      rw [hop]
      dsimp only
      unfold wcall
      rw [ht]
      have ha : first ++ args.map (ev σ.get) ++ cap = argsOf σ f args := by unfold argsOf; rw [ht]
      dsimp only
      rw [ha]
      exact ⟨hp, hQ.mono fun r new h => hq r new h⟩
    unfold wstep
    unfold wanted at hwt
    cases hg : o.guard with
    | none => exact hr
    | some p =>
      obtain ⟨g', want⟩ := p
      rw [hg] at hwt
      dsimp only at hwt ⊢
      split at hwt
      · rename_i b hb
        rw [hb]
        dsimp only
        rw [if_pos (by simpa using hwt)]; exact hr
      · simp at hwt
  · have hr : wrun P base o σ K := by
      unfold wrun
      rw [hop]
      dsimp only
      unfold wcall
      rw [ht]
      have ha : first ++ args.map (ev σ.get) ++ cap = argsOf σ f args := by unfold argsOf; rw [ht]
      dsimp only
      rw [ha]
      rw [if_pos rfl]
      exact hQ.mono fun r new h => hq r new h
    unfold wstep
    unfold wanted at hwt
    cases hg : o.guard with
    | none => exact hr
    | some p =>
      obtain ⟨g', want⟩ := p
      rw [hg] at hwt
      dsimp only at hwt ⊢
      split at hwt
      · rename_i b hb
        rw [hb]
        dsimp only
        rw [if_pos (by simpa using hwt)]; exact hr
      · simp at hwt

theorem wpOp_ok {muts : List FuncId} {ops : Array Oper} {base i : Nat} {o : Oper} {ao : AOper} {Q : Exit → Act → World → Prop} {K : St → Prop} {nxt : Act → World → Prop} (h : Rel N C0 σ C a) (hi : ops[i]? = some o) (ht : trOp1 P muts o.op = ao.op) (hdst : ao.dst = o.dst) (hd : dstOk N o.dst = true)
    (hg : trGuard ops o.guard = some ao.guard) (hw : wstepD P base ao σ K) (hn : ∀ a' w', Goes N C0 K a' w' → nxt a' w') : wpOpIn (FR md) 0 P ops Q i nxt a C.w := by
  unfold wpOpIn
  rw [hi]
  dsimp only
  rcases guard_ok h.slots hg (wstep_of hw) with ⟨hwt, hrun⟩ | ⟨hwt, hK⟩
  · rw [if_pos hwt]; exact run_ok h ht hdst hd hrun hn
  · rw [hwt]
    simp only [Bool.false_eq_true, if_false]
    exact ⟨fun _ _ => trivial, hn _ _ ⟨_, C, rfl, hK, by rw [hdst]; exact h.undef_ hd⟩⟩

/-! which operations stand before which -/
def edges (o : Oper) : List Nat := o.after.toList.filterMap fun e => if Region.binds .any e then some e.on else none
def befs (ops : List Oper) : List (List Nat) := ops.foldl (fun acc o => acc ++ [(edges o ++ (edges o).flatMap fun j => acc.getD j []).eraseDups]) []
def befOk (ops : Array Oper) (bef : List (List Nat)) : Bool := (List.range ops.size).all fun j => match ops[j]? with
  | some o => (edges o).all (fun k => (bef.getD j []).contains k) && (bef.getD j []).all fun k => decide (k < j) && ((edges o).contains k || (edges o).any fun m => (bef.getD m []).contains k)
  | none => false
def apartOk (bef : List (List Nat)) (aos : List AOper) : Bool := (List.range aos.length).all fun j => (List.range j).all fun i => (bef.getD j []).contains i || match aos[i]?, aos[j]? with
  | some x, some y => apart x y
  | _, _ => false
def number (aos : List AOper) : List (Nat × AOper) := (List.range aos.length).zip aos

theorem mem_number {aos : List AOper} {i : Nat} {x : AOper} : (i, x) ∈ number aos ↔ aos[i]? = some x := by
  unfold number
  rw [List.mem_iff_getElem?]
  constructor
  · rintro ⟨k, hk⟩
    rw [List.getElem?_zip_eq_some] at hk
    obtain ⟨h1, h2⟩ := hk
    rw [List.getElem?_range (lt_of_get h2)] at h1
    simp at h1; subst h1; exact h2
  · intro h
    exact ⟨i, by rw [List.getElem?_zip_eq_some]; exact ⟨List.getElem?_range (lt_of_get h), h⟩⟩
theorem number_sorted (aos : List AOper) : (number aos).Pairwise fun p q => p.1 < q.1 := by
  unfold number
  have h1 : (((List.range aos.length).zip aos).map (·.1)) = List.range aos.length := List.map_fst_zip (by simp)
  have h2 : (List.range aos.length).Pairwise (· < ·) := List.pairwise_lt_range
  rw [← h1] at h2
  exact (List.pairwise_map.1 h2)

theorem trOpers_get {muts : List FuncId} {ops : Array Oper} : ∀ (l : List Oper) (k k' : Nat) (aos : List AOper), trOpers P muts N ops k l = some (aos, k') → aos.length = l.length ∧ ∀ (i : Nat) (o : Oper) (ao : AOper), l[i]? = some o → aos[i]? = some ao → trOp1 P muts o.op = ao.op ∧ ao.dst = o.dst ∧ dstOk N o.dst = true ∧ trGuard ops o.guard = some ao.guard
  | [], k, k', aos, h => by
    simp only [trOpers, Option.some.injEq, Prod.mk.injEq] at h
    obtain ⟨rfl, _⟩ := h
    exact ⟨rfl, fun i o ao h => by simp at h⟩
  | o :: r, k, k', aos, h => by
    simp only [trOpers, Option.bind_eq_some_iff] at h
    obtain ⟨g, hg, h⟩ := h
    split at h
    · rename_i hd
      simp only [Option.map_eq_some_iff, Prod.mk.injEq] at h
      obtain ⟨⟨aos', k2⟩, hr, rfl, rfl⟩ := h
      obtain ⟨h1, h2⟩ := trOpers_get r _ _ _ hr
      refine ⟨by simp [h1], fun i o' ao' hi hi' => ?_⟩
      cases i with
      | zero =>
        simp at hi hi'
        subst hi; subst hi'
        exact ⟨rfl, rfl, hd, hg⟩
      | succ i => exact h2 i o' ao' (by simpa using hi) (by simpa using hi')
    · simp at h

/-- what is still to be done -/
def todo (aos : List AOper) (listed : Array Bool) : List (Nat × AOper) := (number aos).filter fun p => !listed.getD p.1 true

theorem any_ok {muts : List FuncId} {ops : Array Oper} {aos : List AOper} {bef : List (List Nat)} {base : Nat} {Q : Exit → Act → World → Prop} {K : St → Prop} (hK : ∀ s t, Eqv s t → K s → K t) (hlen : aos.length = ops.size)
    (htr : ∀ (i : Nat) (o : Oper) (ao : AOper), ops[i]? = some o → aos[i]? = some ao → trOp1 P muts o.op = ao.op ∧ ao.dst = o.dst ∧ dstOk N o.dst = true ∧ trGuard ops o.guard = some ao.guard)
    (hbef : befOk ops bef = true) (hap : apartOk bef aos = true) (hQ : ∀ a' w', Goes N C0 K a' w' → Q .normal a' w') :
    ∀ (fuel : Nat) (listed : Array Bool) (past : List (Nat × Foot)) (σ : St) (C : Ctx) (a : Act), listed.size = ops.size → (todo aos listed).length ≤ fuel → (∀ j, listed.getD j false = true → ∀ k ∈ bef.getD j [], listed.getD k false = true) →
      Rel N C0 σ C a → wdops P base bef (todo aos listed) past σ K → wpAnyIn (FR md) 0 P .any ops Q fuel listed a C.w := by
  have hb : ∀ {j : Nat} {o : Oper}, ops[j]? = some o → (∀ k ∈ edges o, k ∈ bef.getD j []) ∧ ∀ k ∈ bef.getD j [], k < j ∧ (k ∈ edges o ∨ ∃ m ∈ edges o, k ∈ bef.getD m []) := by
    intro j o hj
    unfold befOk at hbef
    rw [List.all_eq_true] at hbef
    have := hbef j (List.mem_range.2 ((Array.getElem?_eq_some_iff.1 hj).1))
    rw [hj] at this
    simp only [Bool.and_eq_true, List.all_eq_true, List.contains_iff_mem, decide_eq_true_eq, Bool.or_eq_true, List.any_eq_true] at this
    exact ⟨this.1, fun k hk => this.2 k hk⟩
  have hedge : ∀ {o : Oper} {e : Edge}, e ∈ o.after → Region.binds .any e = true → e.on ∈ edges o := fun {o e} he hbd => by
    unfold edges
    rw [List.mem_filterMap]
    exact ⟨e, by simpa using he, by simp [hbd]⟩
  have hedge' : ∀ {o : Oper} {k : Nat}, k ∈ edges o → ∃ e ∈ o.after, Region.binds .any e = true ∧ e.on = k := fun {o k} hk => by
    unfold edges at hk
    rw [List.mem_filterMap] at hk
    obtain ⟨e, he, hk⟩ := hk
    split at hk
    · rename_i hbd; exact ⟨e, by simpa using he, hbd, by simpa using hk⟩
    · simp at hk
  intro fuel
  -- nothing is ready only where nothing is left
  have hready : ∀ (listed : Array Bool), listed.size = ops.size → Region.ready .any ops listed = [] → todo aos listed = [] := by
    intro listed hsz hr
    cases htd : todo aos listed with
    | nil => rfl
    | cons p L =>
      obtain ⟨i, ao⟩ := p
      have hmem : (i, ao) ∈ todo aos listed := by rw [htd]; simp
      have hsort : (todo aos listed).Pairwise fun p q => p.1 < q.1 := (number_sorted aos).filter _
      unfold todo at hmem
      rw [List.mem_filter, mem_number] at hmem
      obtain ⟨hi, hl⟩ := hmem
      have hlt : i < ops.size := by rw [← hlen]; exact lt_of_get hi
      have : i ∈ Region.ready .any ops listed := by
        rw [mem_ready]
        refine ⟨by simpa using hl, ops[i], Array.getElem?_eq_getElem hlt, fun e he hbd => ?_⟩
        have hk := ((hb (Array.getElem?_eq_getElem hlt)).1 _ (hedge he hbd))
        have hki := ((hb (Array.getElem?_eq_getElem hlt)).2 _ hk).1
        cases hgd : listed.getD e.on false with
        | true => rfl
        | false =>
          exfalso
          have hlt' : e.on < aos.length := by rw [hlen]; omega
          have hm : (e.on, aos[e.on]) ∈ todo aos listed := by
            unfold todo
            rw [List.mem_filter, mem_number]
            refine ⟨List.getElem?_eq_getElem hlt', ?_⟩
            have : e.on < listed.size := by omega
            simp only [Array.getD_eq_getD_getElem?, Array.getElem?_eq_getElem this, Option.getD_some] at hgd ⊢
            simp [hgd]
          rw [htd] at hm hsort
          rcases List.mem_cons.1 hm with hm | hm
          · simp only [Prod.mk.injEq] at hm; omega
          · have := (List.pairwise_cons.1 hsort).1 _ hm; dsimp only at this; omega
      rw [hr] at this; simp at this
  induction fuel with
  | zero =>
    intro listed past σ C a hsz hf _ hR hw
    have hnil : todo aos listed = [] := List.length_eq_zero_iff.1 (Nat.le_zero.1 hf)
    rw [hnil] at hw
    refine ⟨?_, hQ _ _ ⟨σ, C, rfl, hw, hR⟩⟩
    cases hr : Region.ready .any ops listed with
    | nil => rfl
    | cons i r =>
      have hm : i ∈ Region.ready .any ops listed := by rw [hr]; simp
      rw [mem_ready] at hm
      obtain ⟨h1, o, ho, _⟩ := hm
      have hlt : i < aos.length := by rw [hlen]; exact (Array.getElem?_eq_some_iff.1 ho).1
      have : (i, aos[i]) ∈ todo aos listed := by
        unfold todo
        rw [List.mem_filter, mem_number]
        exact ⟨List.getElem?_eq_getElem hlt, by simpa using h1⟩
      rw [hnil] at this; simp at this
  | succ fuel ih =>
    intro listed past σ C a hsz hf hdown hR hw
    refine ⟨fun hr => ?_, fun i hi => ?_⟩
    · have := hready listed hsz hr
      rw [this] at hw
      exact hQ _ _ ⟨σ, C, rfl, hw, hR⟩
    · have hi' := hi
      rw [mem_ready] at hi
      obtain ⟨hl, o, ho, hall⟩ := hi
      have hlt : i < aos.length := by rw [hlen]; exact (Array.getElem?_eq_some_iff.1 ho).1
      have hao : aos[i]? = some aos[i] := List.getElem?_eq_getElem hlt
      have hsort : (todo aos listed).Pairwise fun p q => p.1 < q.1 := (number_sorted aos).filter _
      have hmem : (i, aos[i]) ∈ todo aos listed := by
        unfold todo
        rw [List.mem_filter, mem_number]
        exact ⟨hao, by simpa using hl⟩
      obtain ⟨L1, R, hLR⟩ := List.append_of_mem hmem
      rw [hLR] at hsort
      obtain ⟨_, hs2, hs3⟩ := List.pairwise_append.1 hsort
      have hs4 := List.pairwise_cons.1 hs2
      have hbefl : ∀ k ∈ bef.getD i [], listed.getD k false = true := fun k hk => by
        rcases ((hb ho).2 k hk).2 with hk | ⟨m, hm, hk⟩
        · obtain ⟨e, he, hbd, rfl⟩ := hedge' hk; exact hall e he hbd
        · obtain ⟨e, he, hbd, rfl⟩ := hedge' hm; exact hdown _ (hall e he hbd) k hk
      have hL1 : ∀ p ∈ L1, p.1 ∉ bef.getD i [] ∧ i ∉ bef.getD p.1 [] ∧ apart p.2 aos[i] = true := by
        intro p hp
        have hpi : p.1 < i := hs3 p hp (i, aos[i]) (by simp)
        have hpm : p ∈ todo aos listed := by rw [hLR]; simp [hp]
        unfold todo at hpm
        rw [List.mem_filter] at hpm
        have hpn : aos[p.1]? = some p.2 := mem_number.1 hpm.1
        have h1 : p.1 ∉ bef.getD i [] := fun hin => by
          have h2 := hbefl _ hin
          have h3 := hpm.2
          have : p.1 < listed.size := by rw [hsz, ← hlen]; omega
          simp only [Array.getD_eq_getD_getElem?, Array.getElem?_eq_getElem this, Option.getD_some] at h2 h3
          rw [h2] at h3; simp at h3
        have hop : ops[p.1]? = some (ops[p.1]'(by rw [← hlen]; omega)) := Array.getElem?_eq_getElem _
        refine ⟨h1, fun hin => ?_, ?_⟩
        · have := ((hb hop).2 _ hin).1; omega
        · unfold apartOk at hap
          rw [List.all_eq_true] at hap
          have := hap i (List.mem_range.2 hlt)
          rw [List.all_eq_true] at this
          have := this p.1 (List.mem_range.2 hpi)
          rw [hpn, hao] at this
          simp only [Bool.or_eq_true, List.contains_iff_mem] at this
          exact this.resolve_left h1
      rw [hLR] at hw
      have hw' := take_first hK L1 past σ hL1 hw
      have htodo : todo aos (listed.setIfInBounds i true) = L1 ++ R := by
        have h1 : todo aos (listed.setIfInBounds i true) = (todo aos listed).filter fun p => p.1 != i := by
          unfold todo
          rw [List.filter_filter]
          refine List.filter_congr fun p hp => ?_
          by_cases hpi : p.1 = i
          · rw [hpi]
            have : i < listed.size := by rw [hsz, ← hlen]; exact hlt
            simp [Array.getD_eq_getD_getElem?, this]
          · rw [getD_set_ne true (Ne.symm hpi)]
            simp [hpi]
        rw [h1, hLR, List.filter_append, List.filter_cons]
        simp only [bne_self_eq_false, Bool.false_eq_true, if_false]
        congr 1
        · exact List.filter_eq_self.2 fun p hp => by have := hs3 p hp (i, aos[i]) (by simp); dsimp only at this; simp; omega
        · exact List.filter_eq_self.2 fun p hp => by have := hs4.1 p hp; dsimp only at this; simp; omega
      simp only [wdops] at hw'
      obtain ⟨t1, t2, t3, t4⟩ := htr i o aos[i] ho hao
      refine wpOp_ok hR ho t1 t2 t3 t4 hw'.2 ?_
      rintro a' w' ⟨σ', C', rfl, hK', hR'⟩
      refine ih _ _ σ' C' a' (by simp [hsz]) ?_ ?_ hR' (by rw [htodo]; exact hK')
      · have : (todo aos listed).length = (L1 ++ R).length + 1 := by rw [hLR]; simp; omega
        rw [htodo]; omega
      · intro j hj k hk
        by_cases hji : j = i
        · subst hji; exact getD_set_true (hbefl k hk)
        · rw [getD_set_ne false (Ne.symm hji)] at hj
          exact getD_set_true (hdown j hj k hk)

/-! code -/
def trReg (P : Program) (muts : List FuncId) (N : Nat) (ops : Array Oper) (draw : Bool) : Option ACode :=
  (trOpers P muts N ops 0 ops.toList).bind fun x =>
    if draw then (if P.follows .mixedOrders && befOk ops (befs ops.toList) && apartOk (befs ops.toList) x.1 then some (.dreg x.2 (number x.1) (befs ops.toList)) else none) else some (.reg x.2 x.1)
def trCode (P : Program) (muts : List FuncId) (N : Nat) : Code → Option ACode
  | .skip => some .skip
  | .region _ ops draw => trReg P muts N ops draw
  | .seq x y => (trCode P muts N x).bind fun p => (trCode P muts N y).map fun q => .seq p q
  | .cond c x y => (trCode P muts N x).bind fun p => (trCode P muts N y).map fun q => .cond (opd c) p q
  | .block id x => (trCode P muts N x).map (.block id)
  | .loop x => (trCode P muts N x).map .loop
  | .exit id => some (.exit id)
  | .ret => some .ret
  | .rangeFunc g ps x y => if ps.toList.all (fun t => decide (t < N)) then (trCode P muts N x).bind fun p => (trCode P muts N y).map fun q => .range (opd g) ps.toList p q else none
  | _ => none

/-- what code comes to, from an abstract state; 'b': so many blocks are the caller's -/
def T (md : Option Nat) (P : Program) (muts : List FuncId) (N b : Nat) (ac : ACode) (σ : St) (K : Exit → St → Prop) : Prop :=
  ∀ c, trCode P muts N c = some ac → ∀ C0 C a, C0.H.length = b → Rel N C0 σ C a → c.wpIn (FR md) 0 P (fun e a' w' => Goes N C0 (K e) a' w') a C.w

/-- a state that says less -/
def Weak (N b : Nat) (σ σ' : St) : Prop := ∀ C0 C a, C0.H.length = b → Rel N C0 σ C a → ∃ C', C'.w = C.w ∧ Rel N C0 σ' C' a
end

section
variable {P : Program} {muts : List FuncId} {N b : Nat} {σ : St} {K : Exit → St → Prop} {md : Option Nat}

theorem T_mono {ac : ACode} {K' : Exit → St → Prop} (h : T md P muts N b ac σ K) (hk : ∀ e s, K e s → K' e s) : T md P muts N b ac σ K' := fun c hc C0 C a hb hR =>
  wpIn_mono (h c hc C0 C a hb hR) fun _ _ _ ⟨σ', C', hw, hK, hR'⟩ => ⟨σ', C', hw, hk _ _ hK, hR'⟩

theorem T_weak {ac : ACode} {σ' : St} (hw : Weak N b σ σ') (h : T md P muts N b ac σ' K) : T md P muts N b ac σ K := fun c hc C0 C a hb hR => by
  obtain ⟨C', hw', hR'⟩ := hw C0 C a hb hR
  have := h c hc C0 C' a hb hR'
  rw [hw'] at this
  exact this

theorem trReg_shape {ops : Array Oper} {draw : Bool} {ac : ACode} (h : trReg P muts N ops draw = some ac) : ∃ aos n, trOpers P muts N ops 0 ops.toList = some (aos, n) ∧
    ((draw = false ∧ ac = .reg n aos) ∨ (draw = true ∧ P.follows .mixedOrders = true ∧ befOk ops (befs ops.toList) = true ∧ apartOk (befs ops.toList) aos = true ∧ ac = .dreg n (number aos) (befs ops.toList))) := by
  unfold trReg at h
  rw [Option.bind_eq_some_iff] at h
  obtain ⟨⟨aos, n⟩, h1, h⟩ := h
  refine ⟨aos, n, h1, ?_⟩
  split at h
  · rename_i hd
    split at h
    · rename_i hc
      simp only [Bool.and_eq_true] at hc
      exact .inr ⟨hd, hc.1.1, hc.1.2, hc.2, (Option.some.inj h).symm⟩
    · simp at h
  · rename_i hd
    exact .inl ⟨by simpa using hd, (Option.some.inj h).symm⟩
theorem no_reg {ops : Array Oper} {draw : Bool} {ac : ACode} (h : trReg P muts N ops draw = some ac) : (∃ n aos, ac = .reg n aos) ∨ ∃ n l b, ac = .dreg n l b := by
  obtain ⟨aos, n, _, ⟨_, h⟩ | ⟨_, _, _, _, h⟩⟩ := trReg_shape h
  · exact .inl ⟨_, _, h⟩
  · exact .inr ⟨_, _, _, h⟩
theorem tr_skip {c : Code} (h : trCode P muts N c = some .skip) : c = .skip := by
  cases c <;> simp [trCode, Option.bind_eq_some_iff, Option.map_eq_some_iff] at h ⊢
  simpa using no_reg h
theorem tr_ret {c : Code} (h : trCode P muts N c = some .ret) : c = .ret := by
  cases c <;> simp [trCode, Option.bind_eq_some_iff, Option.map_eq_some_iff] at h ⊢
  simpa using no_reg h
theorem tr_exit {c : Code} {id : Nat} (h : trCode P muts N c = some (.exit id)) : c = .exit id := by
  cases c <;> simp [trCode, Option.bind_eq_some_iff, Option.map_eq_some_iff] at h ⊢
  · simpa using no_reg h
  · exact h
theorem tr_reg {c : Code} {n : Nat} {aos : List AOper} (h : trCode P muts N c = some (.reg n aos)) : ∃ id ops, c = .region id ops false ∧ trOpers P muts N ops 0 ops.toList = some (aos, n) := by
  cases c <;> simp [trCode, Option.bind_eq_some_iff, Option.map_eq_some_iff] at h ⊢
  obtain ⟨aos', n', h1, ⟨h2, h3⟩ | ⟨_, _, _, _, h3⟩⟩ := trReg_shape h
  · simp only [ACode.reg.injEq] at h3; obtain ⟨rfl, rfl⟩ := h3; exact ⟨_, _, ⟨rfl, rfl, h2⟩, h1⟩
  · simp at h3
theorem tr_dreg {c : Code} {n : Nat} {l : List (Nat × AOper)} {bef : List (List Nat)} (h : trCode P muts N c = some (.dreg n l bef)) : ∃ id ops aos, c = .region id ops true ∧ trOpers P muts N ops 0 ops.toList = some (aos, n) ∧
    P.follows .mixedOrders = true ∧ befOk ops bef = true ∧ apartOk bef aos = true ∧ l = number aos := by
  cases c <;> simp [trCode, Option.bind_eq_some_iff, Option.map_eq_some_iff] at h ⊢
  obtain ⟨aos', n', h1, ⟨h2, h3⟩ | ⟨h2, h4, h5, h6, h3⟩⟩ := trReg_shape h
  · simp at h3
  · simp only [ACode.dreg.injEq] at h3; obtain ⟨rfl, rfl, rfl⟩ := h3; exact ⟨_, _, ⟨rfl, rfl, h2⟩, _, h1, h4, h5, h6, rfl⟩
theorem tr_seq {c : Code} {p q : ACode} (h : trCode P muts N c = some (.seq p q)) : ∃ x y, c = .seq x y ∧ trCode P muts N x = some p ∧ trCode P muts N y = some q := by
  cases c <;> simp [trCode, Option.bind_eq_some_iff, Option.map_eq_some_iff] at h ⊢
  case region => simpa using no_reg h
  exact ⟨_, _, ⟨rfl, rfl⟩, h⟩
theorem tr_cond {c : Code} {o : Opd} {p q : ACode} (h : trCode P muts N c = some (.cond o p q)) : ∃ x c1 c2, c = .cond x c1 c2 ∧ o = opd x ∧ trCode P muts N c1 = some p ∧ trCode P muts N c2 = some q := by
  cases c <;> simp [trCode, Option.bind_eq_some_iff, Option.map_eq_some_iff] at h ⊢
  case region => simpa using no_reg h
  obtain ⟨p', hp, q', hq, rfl, rfl, rfl⟩ := h
  exact ⟨_, _, _, ⟨rfl, rfl, rfl⟩, rfl, hp, hq⟩
theorem tr_block {c : Code} {id : Nat} {p : ACode} (h : trCode P muts N c = some (.block id p)) : ∃ x, c = .block id x ∧ trCode P muts N x = some p := by
  cases c <;> simp [trCode, Option.bind_eq_some_iff, Option.map_eq_some_iff] at h ⊢
  case region => simpa using no_reg h
  exact ⟨_, ⟨h.2, rfl⟩, h.1⟩
theorem tr_loop {c : Code} {p : ACode} (h : trCode P muts N c = some (.loop p)) : ∃ x, c = .loop x ∧ trCode P muts N x = some p := by
  cases c <;> simp [trCode, Option.bind_eq_some_iff, Option.map_eq_some_iff] at h ⊢
  case region => simpa using no_reg h
  exact h

theorem tr_range {c : Code} {f : Opd} {ps : List Nat} {p q : ACode} (h : trCode P muts N c = some (.range f ps p q)) : ∃ g ps' x y, c = .rangeFunc g ps' x y ∧ f = opd g ∧ ps = ps'.toList ∧ (∀ t ∈ ps, t < N) ∧ trCode P muts N x = some p ∧ trCode P muts N y = some q := by
  cases c <;> simp [trCode, Option.bind_eq_some_iff, Option.map_eq_some_iff] at h ⊢
  case region => simpa using no_reg h
  obtain ⟨h0, p', hp, q', hq, rfl, rfl, rfl, rfl⟩ := h
  exact ⟨_, _, _, _, ⟨rfl, rfl, rfl, rfl⟩, rfl, rfl, fun t ht => by obtain ⟨i, hi, rfl⟩ := Array.mem_iff_getElem.1 (Array.mem_toList_iff.1 ht); exact h0 i hi, hp, hq⟩

theorem T_skip (h : K .normal σ) : T md P muts N b .skip σ K := fun c hc C0 C a _ hR => by
  rw [tr_skip hc]
  exact wpIn_skip ⟨σ, C, rfl, h, hR⟩
theorem T_ret (h : K .ret σ) : T md P muts N b .ret σ K := fun c hc C0 C a _ hR => by
  rw [tr_ret hc]
  exact wpIn_ret ⟨σ, C, rfl, h, hR⟩
theorem T_exit {id : Nat} (h : K (.exit id) σ) : T md P muts N b (.exit id) σ K := fun c hc C0 C a _ hR => by
  rw [tr_exit hc]
  exact wpIn_exit ⟨σ, C, rfl, h, hR⟩
theorem T_reg {n : Nat} {aos : List AOper} (h : wops P σ.heap.length aos ⟨σ.slots, σ.heap ++ List.replicate n .resv⟩ (K .normal)) : T md P muts N b (.reg n aos) σ K := fun c hc C0 C a _ hR => by
  obtain ⟨id, ops, rfl, ht⟩ := tr_reg hc
  refine wpIn_region ?_
  have := ops_ok (md := md) (P := P) (muts := muts) (ops := ops) (base := σ.heap.length) (C0 := C0) (N := N) (Q := fun e a' w' => Goes N C0 (K e) a' w') (K := K .normal) (fun a' w' h => h) ops.toList 0 aos 0 n _ _ a (fun j => by simp) ht (resv_ok hR n) h
  rw [List.range_eq_range']
  simpa using this
theorem eqv_rel {C0 C : Ctx} {σ τ : St} {a : Act} (h : Eqv σ τ) (hR : Rel N C0 τ C a) : Rel N C0 σ C a :=
  ⟨by rw [hR.heap, h.1], hR.rel, hR.step, ⟨fun t => by rw [h.2]; exact hR.slots.at_ t⟩, hR.defers, hR.size⟩
theorem drawn_ok {C0 C : Ctx} {σ : St} {a : Act} (hR : Rel N C0 σ C a) : Rel N C0 σ ⟨C.H, C.m, { C.w with drawn := C.w.drawn + 1 }, C.prot⟩ a := by
  have hs : Step C ⟨C.H, C.m, { C.w with drawn := C.w.drawn + 1 }, C.prot⟩ :=
    ⟨rfl, rfl, rfl, rfl, Nat.le_refl _, Nat.le_refl _, fun _ _ _ => rfl, fun _ c _ f h => ⟨c, f, h, rfl⟩, fun _ h => .inl h,
      fun _ B hB hr => ⟨⟨B, hB, hr⟩, fun own' _ _ els' h => ⟨own', els', by dsimp only at h; rw [hB] at h; exact Option.some.inj h, rfl, fun h => h, rfl⟩⟩, fun _ o h => ⟨o, h, rfl, rfl⟩, fun _ o B h h' _ => ⟨o, by dsimp only at h; rw [h] at h'; exact (Option.some.inj h').symm⟩⟩
  refine ⟨hR.heap, ⟨hR.rel.len, ?_, hR.rel.inj, hR.rel.prot, hR.rel.obj, hR.rel.oinj, fun id r s ho t => Conc.mono hs _ _ (hR.rel.lps id r s ho t), hR.rel.glS hs⟩, hR.step.trans hs, ⟨fun t => Conc.mono hs _ _ (hR.slots.at_ t)⟩, hR.defers.same rfl, hR.size⟩
  intro id own nil sz els h1
  rcases hR.rel.blk id own nil sz els h1 with h3 | ⟨hn, b, base, c, e, h3, h4, h5, h6⟩
  · exact .inl h3
  · exact .inr ⟨hn, b, base, c, e, h3, h4, h5, RowsAt.keep hs els b base sz (fun _ _ _ => rfl) h6⟩
theorem T_dreg {n : Nat} {l : List (Nat × AOper)} {bef : List (List Nat)} (h : wdops P σ.heap.length bef l [] ⟨σ.slots, σ.heap ++ List.replicate n .resv⟩ (K .normal)) : T md P muts N b (.dreg n l bef) σ K := fun c hc C0 C a _ hR => by
  obtain ⟨id, ops, aos, rfl, ht, hm, hb, ha, rfl⟩ := tr_dreg hc
  obtain ⟨h1, h2⟩ := trOpers_get _ _ _ _ ht
  have hlen : aos.length = ops.size := by simpa using h1
  have h0 : ∀ i, i < ops.size → (Array.replicate ops.size false).getD i true = false := fun i hi => by simp [Array.getD_eq_getD_getElem?, hi]
  have htodo : todo aos (Array.replicate ops.size false) = number aos := List.filter_eq_self.2 fun p hp => by
    have : aos[p.1]? = some p.2 := mem_number.1 hp
    rw [h0 _ (by rw [← hlen]; exact lt_of_get this)]; rfl
  refine wpIn_region_any hm (any_ok (md := md) (P := P) (muts := muts) (aos := aos) (bef := bef) (base := σ.heap.length) (C0 := C0) (N := N) (K := fun τ => ∃ υ, Eqv τ υ ∧ K .normal υ) (fun s t hst ⟨υ, h1, h2⟩ => ⟨υ, hst.symm.trans h1, h2⟩) hlen (fun i o ao hi => h2 i o ao (by simpa using hi)) hb ha ?_ _ _ [] _ _ a (by simp) ?_ ?_ (drawn_ok (resv_ok hR n)) ?_)
  · rintro a' w' ⟨σ', C', rfl, ⟨υ, h3, h4⟩, hR'⟩
    exact ⟨υ, C', rfl, h4, eqv_rel h3.symm hR'⟩
  · rw [htodo, ← hlen]; unfold number; simp
  · intro j hj
    exfalso
    by_cases hjs : j < ops.size
    · simp [Array.getD_eq_getD_getElem?, hjs] at hj
    · simp [Array.getD_eq_getD_getElem?, hjs] at hj
  · rw [htodo]
    exact wdops_mono _ _ _ (fun s hs => ⟨s, Eqv.refl s, hs⟩) h
/-- what is asked of what stands behind -/
def thenK (k : St → Prop) (K : Exit → St → Prop) : Exit → St → Prop
  | .normal, s => k s
  | e, s => K e s
theorem T_seq {p q : ACode} (h : T md P muts N b p σ (thenK (fun s => T md P muts N b q s K) K)) : T md P muts N b (.seq p q) σ K := fun c hc C0 C a hb hR => by
  obtain ⟨x, y, rfl, hx, hy⟩ := tr_seq hc
  refine wpIn_seq (wpIn_mono (h x hx C0 C a hb hR) ?_)
  rintro e a' w' ⟨σ', C', rfl, hK, hR'⟩
  cases e with
  | normal => exact hK y hy C0 C' a' hb hR'
  | _ => exact ⟨σ', C', rfl, hK, hR'⟩
theorem T_cond {o : Opd} {p q : ACode} {t : Bool} (hv : ev σ.get o = .lit (.bool t)) (h1 : t = true → T md P muts N b p σ K) (h2 : t = false → T md P muts N b q σ K) : T md P muts N b (.cond o p q) σ K := fun c hc C0 C a hb hR => by
  obtain ⟨x, c1, c2, rfl, rfl, hp, hq⟩ := tr_cond hc
  have := hR.slots.lit hv
  exact wpIn_cond_split this (fun ht => h1 ht c1 hp C0 C a hb hR) (fun ht => h2 ht c2 hq C0 C a hb hR)
def blockK (id : Nat) (K : Exit → St → Prop) : Exit → St → Prop
  | .exit i, s => if i = id then K .normal s else K (.exit i) s
  | e, s => K e s
theorem T_block {id : Nat} {p : ACode} (h : T md P muts N b p σ (blockK id K)) : T md P muts N b (.block id p) σ K := fun c hc C0 C a hb hR => by
  obtain ⟨x, rfl, hx⟩ := tr_block hc
  refine wpIn_block (wpIn_mono (h x hx C0 C a hb hR) ?_)
  rintro e a' w' ⟨σ', C', rfl, hK, hR'⟩
  cases e with
  | exit i =>
    simp only [blockK] at hK
    simp only [Exit.inBlock]
    split at hK
    · rename_i hi; rw [if_pos hi]; exact ⟨σ', C', rfl, hK, hR'⟩
    · rename_i hi; rw [if_neg hi]; exact ⟨σ', C', rfl, hK, hR'⟩
  | _ => exact ⟨σ', C', rfl, hK, hR'⟩
theorem exists_least {p : Nat → Prop} (h : ∃ n, p n) : ∃ n, p n ∧ ∀ m, p m → n ≤ m := by
  obtain ⟨n, hn⟩ := h
  induction n using Nat.strongRecOn with
  | _ n ih =>
    by_cases hs : ∃ m, m < n ∧ p m
    · obtain ⟨m, hm, hp⟩ := hs; exact ih m hm hp
    · exact ⟨n, hn, fun m hm => Nat.le_of_not_lt fun hlt => hs ⟨m, hlt, hm⟩⟩
noncomputable def least (p : Nat → Prop) : Nat := @dite Nat (∃ n, p n) (Classical.propDecidable _) (fun h => Classical.choose (exists_least h)) (fun _ => 0)
theorem least_spec {p : Nat → Prop} (h : ∃ n, p n) : p (least p) ∧ ∀ m, p m → least p ≤ m := by
  unfold least; rw [dif_pos h]; exact Classical.choose_spec (exists_least h)

/-- a loop: what holds at every round's head, with a number that falls -/
theorem T_loop {p : ACode} (I : Nat → St → Prop) (n : Nat) (h0 : I n σ) (h : ∀ n s, I n s → T md P muts N b p s (thenK (fun s' => ∃ n', n' < n ∧ ∃ s'', Weak N b s' s'' ∧ I n' s'') K)) : T md P muts N b (.loop p) σ K := fun c hc C0 C a hb hR => by
  obtain ⟨x, rfl, hx⟩ := tr_loop hc
  let J : Nat → Act → World → Prop := fun n a w => ∃ σ C, C.w = w ∧ I n σ ∧ Rel N C0 σ C a
  refine wpIn_loop (fun a w => ∃ n, J n a w) (fun a w => least fun n => J n a w) ⟨n, σ, C, rfl, h0, hR⟩ ?_
  intro a w hI
  obtain ⟨s, C1, rfl, hIn, hR1⟩ := (least_spec hI).1
  refine wpIn_mono (h _ s hIn x hx C0 C1 a hb hR1) ?_
  rintro e a' w' ⟨σ', C', rfl, hK, hR'⟩
  cases e with
  | normal =>
    obtain ⟨n', hlt, s'', hw, hI'⟩ := hK
    obtain ⟨C'', hw'', hR''⟩ := hw C0 C' a' hb hR'
    have hJ : J n' a' C'.w := ⟨s'', C'', hw'', hI', hR''⟩
    have hex : ∃ n, J n a' C'.w := ⟨n', hJ⟩
    exact ⟨hex, Nat.lt_of_le_of_lt ((least_spec hex).2 _ hJ) hlt⟩
  | _ => exact ⟨σ', C', rfl, hK, hR'⟩
end
end Go.Abs
/- What is forgotten; bodies of functions. -/
namespace Go.Abs
open Go.RowKit

def pos : List Nat → Nat → Option Nat
  | [], _ => none
  | i :: r, id => if i = id then some 0 else (pos r id).map (· + 1)
def keepρ (b : Nat) (ids : List Nat) (id : Nat) : Option Nat := if id < b then some id else (pos ids id).map (b + ·)
def St.keep (σ : St) (b : Nat) (ts ids : List Nat) : St :=
  ⟨ts.map fun t => (t, ren (keepρ b ids) (σ.get t)), (σ.heap.take b).map (renB (keepρ b ids)) ++ ids.map fun id => renB (keepρ b ids) (hget σ.heap id)⟩

theorem pos_get : ∀ {ids : List Nat} {id k : Nat}, pos ids id = some k → ids[k]? = some id
  | [], id, k, h => by simp [pos] at h
  | i :: r, id, k, h => by
    simp only [pos] at h
    split at h
    · rename_i hi; simp at h; subst h hi; rfl
    · simp only [Option.map_eq_some_iff] at h
      obtain ⟨k', h1, rfl⟩ := h
      simpa using pos_get h1

theorem look_map (f : Nat → AV) : ∀ (ts : List Nat) (t : Nat), look (ts.map fun t => (t, f t)) t = if t ∈ ts then f t else .top
  | [], t => by simp [look]
  | u :: ts, t => by
    simp only [List.map_cons, look, look_map f ts t, List.mem_cons]
    by_cases h : u = t
    · subst h; simp
    · rw [if_neg h]; simp [Ne.symm h]

section
variable {N b : Nat} {σ : St}
theorem keep_ok {ts ids : List Nat} (hb : b ≤ σ.heap.length) (hids : ∀ id ∈ ids, b ≤ id ∧ id < σ.heap.length) (hnd : ids.Nodup) {C0 C : Ctx} {a : Act} (hb0 : C0.H.length = b) (hR : Rel N C0 σ C a) :
    ∃ C', C'.w = C.w ∧ Rel N C0 (σ.keep b ts ids) C' a ∧ Renamed (keepρ b ids) C C' := by
  obtain ⟨slots, heap⟩ := σ
  have hh := hR.heap
  dsimp only at hh
  subst hh
  dsimp only at hb hids
  have hmlen := hR.rel.len
  have hHlen : ((C.H.take b).map (renB (keepρ b ids)) ++ ids.map fun id => renB (keepρ b ids) (hget C.H id)).length = b + ids.length := by simp; omega
  -- which block a number stands for
  have hold : ∀ (k : Nat) B, ((C.H.take b).map (renB (keepρ b ids)) ++ ids.map fun id => renB (keepρ b ids) (hget C.H id))[k]? = some B →
      ∃ id B0, C.H[id]? = some B0 ∧ B = renB (keepρ b ids) B0 ∧ (C.m.take b ++ ids.map fun id => (C.m[id]?).getD none)[k]? = C.m[id]? ∧ (k < b → id = k) ∧ (b ≤ k → ids[k - b]? = some id) := by
    intro k B h
    have hkl := lt_of_get h
    rw [hHlen] at hkl
    have hl1 : ((C.H.take b).map (renB (keepρ b ids))).length = b := by simp; omega
    have hl2 : (C.m.take b).length = b := by simp [hmlen]; omega
    by_cases hkb : k < b
    · rw [List.getElem?_append_left (by omega), List.getElem?_map, List.getElem?_take, if_pos hkb, Option.map_eq_some_iff] at h
      obtain ⟨B0, h1, rfl⟩ := h
      exact ⟨k, B0, h1, rfl, by rw [List.getElem?_append_left (by omega), List.getElem?_take, if_pos hkb], fun _ => rfl, fun h => by omega⟩
    · rw [List.getElem?_append_right (by omega), hl1, List.getElem?_map, Option.map_eq_some_iff] at h
      obtain ⟨id, h1, rfl⟩ := h
      have hid := hids id (List.mem_of_getElem? h1)
      have hm1 : C.m[id]? = some (C.m[id]'(by omega)) := List.getElem?_eq_getElem (by omega)
      refine ⟨id, C.H[id]'hid.2, List.getElem?_eq_getElem hid.2, by simp [hget, List.getElem?_eq_getElem hid.2], ?_, fun h => by omega, fun _ => h1⟩
      rw [List.getElem?_append_right (by omega), hl2, List.getElem?_map, h1]
      simp [hm1]
  have hcell : ∀ (k : Nat) own nil sz els, ((C.H.take b).map (renB (keepρ b ids)) ++ ids.map fun id => renB (keepρ b ids) (hget C.H id))[k]? = some (Blk.cells own nil sz els) →
      ∃ id els0, C.H[id]? = some (Blk.cells own nil sz els0) ∧ els = renR (keepρ b ids) els0 ∧ (C.m.take b ++ ids.map fun id => (C.m[id]?).getD none)[k]? = C.m[id]? ∧ (k < b → id = k) ∧ (b ≤ k → ids[k - b]? = some id) := by
    intro k own nil sz els h
    obtain ⟨id, B0, h1, h2, h3⟩ := hold k _ h
    cases B0 with
    | cells o n s e => simp only [renB, Blk.cells.injEq] at h2; obtain ⟨rfl, rfl, rfl, rfl⟩ := h2; exact ⟨id, e, h1, rfl, h3⟩
    | _ => simp [renB] at h2
  have hinj : ∀ k k' id : Nat, (k < b → id = k) → (b ≤ k → ids[k - b]? = some id) → (k' < b → id = k') → (b ≤ k' → ids[k' - b]? = some id) → k = k' := by
    intro k k' id h1 h2 h3 h4
    by_cases hk : k < b
    · have := h1 hk; subst this
      by_cases hk' : k' < b
      · exact h3 hk'
      · have := h4 (by omega)
        have := hids _ (List.mem_of_getElem? this); omega
    · have h5 := h2 (by omega)
      have h6 := hids _ (List.mem_of_getElem? h5)
      by_cases hk' : k' < b
      · have := h3 hk'; omega
      · have h7 := h4 (by omega)
        have hl1 := lt_of_get h5
        have hl2 := lt_of_get h7
        have e1 := (List.getElem?_eq_some_iff.1 h5).2
        have e2 := (List.getElem?_eq_some_iff.1 h7).2
        have := (List.getElem_inj hnd).1 (e1.trans e2.symm)
        omega
  have hobj : ∀ (k : Nat) (o : Ob), ((C.H.take b).map (renB (keepρ b ids)) ++ ids.map fun id => renB (keepρ b ids) (hget C.H id))[k]? = some (Blk.obj o) →
      ∃ id o0, C.H[id]? = some (Blk.obj o0) ∧ o = renO (keepρ b ids) o0 ∧ (C.m.take b ++ ids.map fun id => (C.m[id]?).getD none)[k]? = C.m[id]? ∧ (k < b → id = k) ∧ (b ≤ k → ids[k - b]? = some id) := by
    intro k o h
    obtain ⟨id, B0, h1, h2, h3⟩ := hold k _ h
    cases B0 with
    | obj o' => simp only [renB, Blk.obj.injEq] at h2; subst h2; exact ⟨id, o', h1, rfl, h3⟩
    | _ => simp [renB] at h2
  have hown : ∀ x, Ctx.own ⟨(C.H.take b).map (renB (keepρ b ids)) ++ ids.map fun id => renB (keepρ b ids) (hget C.H id), C.m.take b ++ ids.map fun id => (C.m[id]?).getD none, C.w, C.prot⟩ x → C.own x := by
    rintro x (⟨k, nil, sz, els, base, h1, h2⟩ | ⟨k, o, h1, h0, h2⟩)
    · obtain ⟨id, els0, h3, _, h4, _⟩ := hcell k true nil sz els h1
      dsimp only at h2
      rw [h4] at h2
      exact .inl ⟨id, nil, sz, els0, base, h3, h2⟩
    · obtain ⟨id, o0, h3, e3, h4, _⟩ := hobj k o h1
      dsimp only at h2
      rw [h4] at h2
      exact .inr ⟨id, o0, h3, renO_nx _ (e3 ▸ h0), h2⟩
  have hren : Renamed (keepρ b ids) C ⟨(C.H.take b).map (renB (keepρ b ids)) ++ ids.map fun id => renB (keepρ b ids) (hget C.H id), C.m.take b ++ ids.map fun id => (C.m[id]?).getD none, C.w, C.prot⟩ := by
    refine ⟨rfl, fun x hx => ?_, fun id k hk B hB => ?_⟩
    · rintro (h | h)
      · exact hx (.inl (hown x h))
      · exact hx (.inr h)
    · have hl1 : ((C.H.take b).map (renB (keepρ b ids))).length = b := by simp; omega
      have hl2 : (C.m.take b).length = b := by simp [hmlen]; omega
      unfold keepρ at hk
      dsimp only
      split at hk
      · rename_i hlt
        simp at hk
        subst hk
        rw [List.getElem?_append_left (by omega), List.getElem?_append_left (by omega), List.getElem?_map, List.getElem?_take, List.getElem?_take, if_pos hlt, if_pos hlt, hB]
        exact ⟨rfl, rfl⟩
      · simp only [Option.map_eq_some_iff] at hk
        obtain ⟨j, hj, rfl⟩ := hk
        have hj' := pos_get hj
        rw [List.getElem?_append_right (by omega), List.getElem?_append_right (by omega), hl1, hl2, Nat.add_sub_cancel_left, List.getElem?_map, List.getElem?_map, hj']
        have hlt := lt_of_get hB
        have hm1 : C.m[id]? = some (C.m[id]'(by omega)) := List.getElem?_eq_getElem (by omega)
        simp [hget, hB, hm1]
  refine ⟨⟨(C.H.take b).map (renB (keepρ b ids)) ++ ids.map fun id => renB (keepρ b ids) (hget C.H id), C.m.take b ++ ids.map fun id => (C.m[id]?).getD none, C.w, C.prot⟩, rfl, ?_, hren⟩
  refine ⟨rfl, ⟨by simp [hmlen], ?_, ?_, hR.rel.prot, ?_, ?_, ?_, hR.rel.gl⟩, ?_, ⟨fun t => ?_⟩, hR.defers.same rfl, hR.size⟩
  · intro k own nil sz els h
    obtain ⟨id, els0, h1, rfl, h2, _⟩ := hcell k own nil sz els h
    dsimp only
    rw [h2, renR_len]
    rcases hR.rel.blk id own nil sz els0 h1 with h3 | ⟨hn, x, base, c, e, h3, h4, h5, h6⟩
    · exact .inl h3
    · exact .inr ⟨hn, x, base, c, e, h3, h4, h5, RowsAt.ren hren els0 x base sz h6⟩
  · intro k k' nil sz1 els1 own' nil' sz2 els2 x base base' hne h1 h2 h3 h4
    obtain ⟨id, e1, g1, _, g2, g3, g4⟩ := hcell k true nil sz1 els1 h1
    obtain ⟨id', e2, g1', _, g2', g3', g4'⟩ := hcell k' own' nil' sz2 els2 h2
    dsimp only at h3 h4
    rw [g2] at h3
    rw [g2'] at h4
    refine hR.rel.inj id id' nil sz1 e1 own' nil' sz2 e2 x base base' ?_ g1 g1' h3 h4
    rintro rfl
    exact hne (hinj k k' id g3 g4 g3' g4')
  · intro k o h hx0
    obtain ⟨id, o0, h1, rfl, h2, _⟩ := hobj k o h
    obtain ⟨x, y, h3, h4, h5, h6⟩ := hR.rel.obj id o0 h1 (renO_nx _ hx0)
    exact ⟨x, y, h2.trans h3, h4, h5, (renO_is _ _ _).2 h6⟩
  · intro k k' o o' x base base' hne hx1 hx2 h1 h2 h3 h4
    obtain ⟨id, o0, g1, e1, g2, g3, g4⟩ := hobj k o h1
    obtain ⟨id', o1, g1', e2, g2', g3', g4'⟩ := hobj k' o' h2
    dsimp only at h3 h4
    rw [g2] at h3
    rw [g2'] at h4
    refine hR.rel.oinj id id' o0 o1 x base base' ?_ (renO_nx _ (e1 ▸ hx1)) (renO_nx _ (e2 ▸ hx2)) g1 g1' h3 h4
    rintro rfl
    exact hne (hinj k k' id g3 g4 g3' g4')
  · intro k r s ho t
    obtain ⟨id, o0, g1, g2, _⟩ := hobj k _ ho
    cases o0 with
    | smap kd es => simp [renO] at g2
    | lpx => simp [renO] at g2
    | lp r0 s0 =>
      simp only [renO, Ob.lp.injEq] at g2
      obtain ⟨rfl, rfl⟩ := g2
      rw [look_ren]
      exact Conc.ren hren _ _ (hR.rel.lps _ _ _ g1 t)
  · -- the caller's blocks are where they were
    have hst := hR.step
    refine ⟨hst.os, hst.tape, hst.output, hst.prot, hst.size, by dsimp only; rw [hHlen]; omega, hst.blk, hst.grow, fun x hx => hst.own x (hown x hx), ?_, ?_, ?_⟩
    intro id B hB hr
    have hid : id < b := by rw [← hb0]; exact lt_of_get hB
    obtain ⟨⟨B', hB', hr'⟩, h2⟩ := hst.ids id B hB hr
    obtain ⟨h3, h4⟩ := hren.blk id id (by simp [keepρ, hid]) B' hB'
    refine ⟨⟨_, h3, by cases B' <;> simp [renB]; exact (hr' rfl).elim⟩, fun own' nil' sz' els' h => ?_⟩
    rw [h3] at h
    cases B' with
    | cells o n s e =>
      simp only [renB, Option.some.injEq, Blk.cells.injEq] at h
      obtain ⟨rfl, rfl, rfl, rfl⟩ := h
      obtain ⟨own0, els0, g1, g2, g3, g4⟩ := h2 _ _ _ _ hB'
      exact ⟨own0, els0, g1, by rw [renR_len]; exact g2, g3, h4.trans g4⟩
    | _ => simp [renB] at h
    · intro id o ho
      have hid : id < b := by rw [← hb0]; exact lt_of_get ho
      obtain ⟨o', h1, h2, h3⟩ := hst.objs id o ho
      obtain ⟨h4, h5⟩ := hren.blk id id (by simp [keepρ, hid]) _ h1
      exact ⟨_, h4, h5.trans h2, (renO_key _ _).trans h3⟩
    · intro id o B ho hB hr
      have hid : id < b := by rw [← hb0]; exact lt_of_get hB
      obtain ⟨id', o0, h1, _, _, h2, _⟩ := hobj id o ho
      obtain rfl := h2 hid
      exact hst.objr id' o0 B h1 hB hr
  · show Conc _ (look (ts.map fun t => (t, ren (keepρ b ids) (St.get ⟨slots, C.H⟩ t))) t) _
    rw [look_map (fun t => ren (keepρ b ids) (St.get ⟨slots, C.H⟩ t))]
    split
    · exact Conc.ren hren _ _ (hR.slots.at_ t)
    · trivial

theorem weak_keep {ts ids : List Nat} (hb : b ≤ σ.heap.length) (hids : ∀ id ∈ ids, b ≤ id ∧ id < σ.heap.length) (hnd : ids.Nodup) : Weak N b σ (σ.keep b ts ids) :=
  fun _ _ _ hb0 hR => let ⟨C', h1, h2, _⟩ := keep_ok hb hids hnd hb0 hR; ⟨C', h1, h2⟩
end

/-! bodies -/
inductive ARes where
  | tmp (t : Nat)
  | cell (n : Nat) (isAgg : Bool) (p : Nat)
def trRes (P : Program) : List ResultVar → Option (List ARes)
  | [] => some []
  | .tmp t :: l => (trRes P l).map (.tmp t :: ·)
  | .cell p t :: l => (sizeT P t).bind fun n => (isAggT P t).bind fun g => (trRes P l).map (.cell n g p :: ·)
def resAV (σ : St) : ARes → Option AV
  | .tmp t => some (σ.get t)
  | .cell n g p => (aop 0 σ.get (hget σ.heap) (.load n g (.tmp p))).map (·.1)
def resL (σ : St) : List ARes → Option (List AV)
  | [] => some []
  | r :: l => (resAV σ r).bind fun v => (resL σ l).map (v :: ·)
def tupOf : List AV → AV
  | [v] => v
  | vs => .tup vs

def resSem (tmps : Array Value) (r : ResultVar) : Sem Value :=
  match r with
  | .tmp t => pure (tmps.getD t undef)
  | .cell p t => do loadVar t (← asAddr (tmps.getD p undef))

theorem cell_row {P : Program} {C : Ctx} {t : TypeId} {n b base off : Nat} {isAgg : Bool} {row : List AV} {v : AV} (h1 : isAggT P t = some isAgg) (h2 : sizeT P t = some n)
    (hc : CellsAt C b base row) (hv : value n isAgg (cut row off n) = some v) : ∃ u, (loadVar t ⟨b, base + off, none⟩).run P C.w = .ok u C.w ∧ Conc C v u := by
  obtain ⟨hn, hb⟩ := value_len hv
  have hc' : CellsAt C b (base + off) (cut row off n) := (hc.drop off).take n
  obtain ⟨us, hl, hcell, _⟩ := hc'.vals
  obtain ⟨u, hu, hvo⟩ := run_loadVar_cells (P := P) (w := C.w) h1 h2 (by rw [hl.length, hn]) hb hcell
  refine ⟨u, hu, ?_⟩
  rcases hvo with ⟨rfl, rfl⟩ | ⟨rfl, rfl⟩
  · unfold value at hv
    simp only [hn, if_true, Option.some.injEq] at hv
    subst hv
    exact conc_mkAgg hl
  · have h1 := hb rfl
    subst h1
    unfold value at hv
    simp only [hn, if_true, Bool.false_eq_true, if_false] at hv
    split at hv
    · rename_i c hcc
      simp only [Option.some.injEq] at hv
      subst hv
      rw [hcc] at hl
      simp only [ConcL] at hl
      obtain ⟨u', us', he, h3, h4⟩ := hl
      simp at he
      rw [he.1]
      exact h3
    · simp at hv

theorem cell_val {P : Program} {C : Ctx} {t : TypeId} {n : Nat} {isAgg : Bool} {x v : AV} {y : Value} {s : Nat → AV} {p : Nat} (hR : HeapRel C) (hx : Conc C x y) (hsx : s p = x) (h1 : isAggT P t = some isAgg) (h2 : sizeT P t = some n)
    {ws : List (Nat × Blk)} (h : aop 0 s (hget C.H) (.load n isAgg (.tmp p)) = some (v, ws)) : ∃ ad, y = .pointer (some ad) ∧ ∃ u, (loadVar t ad).run P C.w = .ok u C.w ∧ Conc C v u := by
  simp only [aop, ev, hsx] at h
  split at h
  · rename_i sz els i off
    simp only [Option.map_eq_some_iff, Prod.mk.injEq] at h
    obtain ⟨r, hr, rfl, rfl⟩ := h
    simp only [Conc] at hx
    obtain ⟨b, base, hu, hi, _, _, hrows⟩ := hx
    exact ⟨_, hu, cell_row h1 h2 (hrows.get (getD_some hi)).2 hr⟩
  · rename_i id i off
    split at h
    · rename_i own nil sz els hl
      simp only [Option.map_eq_some_iff, Prod.mk.injEq] at h
      obtain ⟨r, hr, rfl, rfl⟩ := h
      have hH := hget_cells hl
      simp only [Conc, hH] at hx
      obtain ⟨b, base, hm, hu⟩ := hx
      rcases hR.blk id own nil sz els hH with ⟨hm', _⟩ | ⟨_, b', base', c, e, hm', _, _, hrows⟩
      · rw [hm] at hm'; simp at hm'
      · rw [hm] at hm'
        simp at hm'
        obtain ⟨rfl, rfl⟩ := hm'
        refine ⟨_, hu, ?_⟩
        by_cases hi : i < els.length
        · exact cell_row h1 h2 (hrows.get (getD_some hi)).2 hr
        · have hn := value_len hr
          have : els.getD i [] = [] := by simp [List.getD, hi]
          rw [this] at hn hr
          have hn0 : n = 0 := by simpa [cut] using hn.1.symm
          subst hn0
          exact cell_row (row := []) (base := base + i * sz) h1 h2 trivial hr
    · simp at h
  · simp at h

theorem resL_run {P : Program} {N : Nat} {C0 C : Ctx} {σ : St} {a : Act} (h : Rel N C0 σ C a) : ∀ {rs : List ResultVar} {ars : List ARes} {vs : List AV}, trRes P rs = some ars → resL σ ars = some vs → ∃ us, (rs.mapM (resSem a.tmps)).run P C.w = Result.ok us C.w ∧ ConcL C vs us
  | [], ars, vs, ht, hr => by simp [trRes] at ht; subst ht; simp [resL] at hr; subst hr; exact ⟨[], by simp, rfl⟩
  | .tmp t :: rs, ars, vs, ht, hr => by
    simp only [trRes, Option.map_eq_some_iff] at ht
    obtain ⟨ars', ht', rfl⟩ := ht
    simp only [resL, Option.bind_eq_some_iff, Option.map_eq_some_iff] at hr
    obtain ⟨v, hv, vs', hvs, rfl⟩ := hr
    obtain ⟨us, h1, h2⟩ := resL_run (P := P) h ht' hvs
    simp only [resAV, Option.some.injEq] at hv
    subst hv
    exact ⟨a.tmps.getD t undef :: us, by simp [List.mapM_cons, resSem, h1], by simp only [ConcL]; exact ⟨_, _, rfl, h.slots.at_ t, h2⟩⟩
  | .cell p t :: rs, ars, vs, ht, hr => by
    simp only [trRes, Option.map_eq_some_iff, Option.bind_eq_some_iff] at ht
    obtain ⟨n, hn, g, hg, ars', ht', rfl⟩ := ht
    simp only [resL, Option.bind_eq_some_iff, Option.map_eq_some_iff, resAV] at hr
    obtain ⟨v, ⟨⟨v', ws⟩, hv, rfl⟩, vs', hvs, rfl⟩ := hr
    obtain ⟨us, h1, h2⟩ := resL_run (P := P) h ht' hvs
    rw [← h.heap] at hv
    obtain ⟨ad, h3, u, h4, h5⟩ := cell_val h.rel (h.slots.at_ p) rfl hg hn hv
    exact ⟨u :: us, by simp [List.mapM_cons, resSem, asAddr, h1, h3, h4], by simp only [ConcL]; exact ⟨_, _, rfl, h5, h2⟩⟩

theorem results_eq (fn : Func) (tmps : Array Value) : results fn tmps = (fn.results.mapM (resSem tmps)) >>= fun vs => pure (if h : vs.size = 1 then vs[0] else .tuple vs) := by
  unfold results
  congr 1

theorem conc_tupOf {C : Ctx} {vs : List AV} {us : List Value} (h : ConcL C vs us) : Conc C (tupOf vs) (if h : us.toArray.size = 1 then us.toArray[0] else .tuple us.toArray) := by
  match vs, us, h with
  | [], us, h =>
    simp only [ConcL] at h
    subst h
    simp only [tupOf, Conc]
    exact ⟨#[], by simp, rfl⟩
  | [v], us, h =>
    simp only [ConcL] at h
    obtain ⟨u, us', rfl, h1, rfl⟩ := h
    simpa [tupOf] using h1
  | v :: v2 :: vs, us, h =>
    have hl := h.length
    simp only [tupOf, Conc]
    exact ⟨us.toArray, by rw [dif_neg (by simp [hl])], by simpa using h⟩

/-- the marks' blocks are shut -/
def shut (w : World) : List Nat → World
  | [] => w
  | b :: bs => shut (w.putObj b (.deferred none)) bs
theorem shut_rest : ∀ (bs : List Nat) (w : World), (shut w bs).os = w.os ∧ (shut w bs).tape = w.tape ∧ (shut w bs).output = w.output ∧ (shut w bs).heap.size = w.heap.size ∧ ∀ k, k ∉ bs → (shut w bs).heap[k]? = w.heap[k]?
  | [], w => ⟨rfl, rfl, rfl, rfl, fun _ _ => rfl⟩
  | b :: bs, w => by
    obtain ⟨h1, h2, h3, h4, h5⟩ := shut_rest bs (w.putObj b (.deferred none))
    refine ⟨h1, h2, h3, by rw [shut, h4]; simp, fun k hk => ?_⟩
    simp only [List.mem_cons, not_or] at hk
    rw [shut, h5 k hk.2, World.putObj_heap_other hk.1]
theorem shut_at : ∀ (bs : List Nat) (w : World), (∀ b ∈ bs, b < w.heap.size) → ∀ k ∈ bs, ∃ ds, (shut w bs).heap[k]? = some (.deferred ds)
  | [], w, _, k, hk => by simp at hk
  | b :: bs, w, hb, k, hk => by
    have hb' : ∀ x ∈ bs, x < (w.putObj b (.deferred none)).heap.size := fun x hx => by simp; exact hb x (by simp [hx])
    by_cases hkb : k ∈ bs
    · exact shut_at bs _ hb' k hkb
    · have : k = b := by simpa [hkb] using hk
      subst this
      exact ⟨none, by rw [shut, (shut_rest bs _).2.2.2.2 k hkb, World.putObj_heap_same (hb k (by simp))]⟩
theorem leaves_marks {P : Program} {fn : Func} {tmps : Array Value} {R : Ending → World → Prop} : ∀ (bs : List Nat) (w : World), bs.Nodup → (∀ b ∈ bs, w.heap[b]? = some (.deferred (some []))) → LeavesIn (FR none) 0 P fn tmps R [] .returning (shut w bs) →
    LeavesInM (FR none) 0 P fn tmps R (bs.map fun b => { target := .collected b, args := #[] }) .returning w
  | [], w, _, _, h => h
  | b :: bs, w, hnd, hb, h => by
    rw [List.map_cons]
    simp only [List.nodup_cons] at hnd
    refine ⟨by simp, .inl ⟨b, w.putObj b (.deferred none), rfl, run_takeDeferred (hb b (by simp)), leaves_marks bs _ hnd.2 (fun x hx => ?_) h⟩⟩
    have : x ≠ b := by rintro rfl; exact hnd.1 hx
    rw [World.putObj_heap_other this]
    exact hb x (by simp [hx])

theorem shut_ok {N : Nat} {C0 C : Ctx} {σ : St} {a : Act} (h : Rel N C0 σ C a) {bs : List Nat} (hb : ∀ b ∈ bs, C0.w.heap.size ≤ b ∧ C.w.heap[b]? = some (.deferred (some []))) :
    Rel N C0 σ ⟨C.H, C.m, shut C.w bs, C.prot⟩ { a with defers := [] } := by
  obtain ⟨h1, h2, h3, h4, h5⟩ := shut_rest bs C.w
  have hlt : ∀ b ∈ bs, b < C.w.heap.size := fun b hbb => lt_of_heap (hb b hbb).2
  have hsame : ∀ k x, C.w.heap[k]? = some x → (∀ ds, x ≠ Obj.deferred ds) → (shut C.w bs).heap[k]? = some x := fun k x hx hd => by
    have : k ∉ bs := fun hk => by have := (hb k hk).2; rw [hx] at this; exact hd _ (Option.some.inj this)
    rw [h5 k this]; exact hx
  have hcell : ∀ k o, (shut C.w bs).cell? ⟨k, o, none⟩ = C.w.cell? ⟨k, o, none⟩ := fun k o => by
    by_cases hk : k ∈ bs
    · obtain ⟨ds, hd⟩ := shut_at bs C.w hlt k hk
      simp [World.cell?, hd, (hb k hk).2]
    · exact World.cell?_of_block (w := C.w) (h5 k hk)
  have hw : StepW C ⟨C.H, C.m, shut C.w bs, C.prot⟩ :=
    ⟨rfl, by simp [h4], fun b o _ _ => hcell b o, fun b c e f hx => ⟨c, f, hsame b _ hx (by simp), rfl⟩, fun b _ hbo => hbo,
      fun _ B hB hr => ⟨⟨B, hB, hr⟩, fun own' _ _ els' h => ⟨own', els', by dsimp only at h; rw [hB] at h; exact Option.some.inj h, rfl, fun h => h, rfl⟩⟩, fun _ o h => ⟨o, h, rfl, rfl⟩, fun _ o B h h' _ => ⟨o, by dsimp only at h; rw [h] at h'; exact (Option.some.inj h').symm⟩⟩
  have hst := h.step
  refine ⟨h.heap, ⟨h.rel.len, ?_, h.rel.inj, fun b hbp => by have := h.rel.prot b hbp; simp [h4]; omega, ?_, h.rel.oinj, fun id r s ho t => Conc.monoW hw _ _ (h.rel.lps id r s ho t), fun p hp => by obtain ⟨g1, c, e, f, g2, g3⟩ := h.rel.gl p hp; exact ⟨g1, c, e, f, hsame _ _ g2 (by simp), g3⟩⟩, ?_, ⟨fun t => Conc.monoW hw _ _ (h.slots.at_ t)⟩, Marks.nil _ _, h.size⟩
  · intro id own nil sz els h6
    rcases h.rel.blk id own nil sz els h6 with h7 | ⟨hn, b, base, c, e, h7, h8, h9, h10⟩
    · exact .inl h7
    · exact .inr ⟨hn, b, base, c, e, h7, h8, hsame b _ h9 (by simp), RowsAt.keepW hw els b base sz (fun o _ _ => hcell b o) h10⟩
  · intro id o ho hx0
    obtain ⟨b, x, h6, h7, h8, h9⟩ := h.rel.obj id o ho hx0
    exact ⟨b, x, h6, h7, hsame b x h8 (fun ds hd => by subst hd; cases o <;> exact h9), h9⟩
  · refine ⟨h1.trans hst.os, h2.trans hst.tape, h3.trans hst.output, hst.prot, by simp [h4]; exact hst.size, hst.hlen, fun b hbs hno => ?_, fun b c e f hx => ?_, hst.own, hst.ids, hst.objs, hst.objr⟩
    · have : b ∉ bs := fun hk => by have := (hb b hk).1; omega
      exact (h5 b this).trans (hst.blk b hbs hno)
    · obtain ⟨c', f', h6, h7⟩ := hst.grow b c e f hx
      exact ⟨c', f', hsame b _ h6 (by simp), h7⟩

/-- what a body leaves, handed to the caller -/
def leave (b : Nat) (rs : List ARes) (Q : AV → List Blk → Prop) : Exit → St → Prop
  | .normal, σ | .ret, σ => ∃ vs ids, resL σ rs = some vs ∧ b ≤ σ.heap.length ∧ (∀ id ∈ ids, b ≤ id ∧ id < σ.heap.length) ∧ ids.Nodup ∧ Q (ren (keepρ b ids) (tupOf vs)) (σ.keep b [] ids).heap
  | _, _ => False

theorem slots_args {C : Ctx} : ∀ {args : List AV} {cargs : List Value} {n k t : Nat}, ConcL C args cargs → Conc C (look ((args.zipIdx k).map fun (x : AV × Nat) => (x.2, x.1)) (k + t)) ((cargs ++ List.replicate n undef).getD t undef)
  | [], cargs, n, k, t, h => by simp [look, Conc]
  | v :: args, cargs, n, k, t, h => by
    simp only [ConcL] at h
    obtain ⟨u, us, rfl, h1, h2⟩ := h
    simp only [List.zipIdx_cons, List.map_cons, look]
    cases t with
    | zero => simpa using h1
    | succ t =>
      rw [if_neg (by omega)]
      have := slots_args (n := n) (k := k + 1) (t := t) h2
      rw [show k + (t + 1) = k + 1 + t by omega]
      simpa using this

theorem acall_of {P : Program} {muts : List FuncId} {g : FuncId} {fn : Func} {c : Code} {ac : ACode} {rs : List ARes} {n : Nat} {args : List AV} {H : List Blk} {Q : AV → List Blk → Prop}
    (hcf : ∀ cargs w, (callFunc g cargs).run P w = .ok (.enter g cargs) w) (hf : P.funcs[g]? = some fn) (hbody : fn.body = some c) (hrs : trRes P fn.results.toList = some rs) (hn : fn.ntmps = n) (hc : trCode P muts n c = some ac)
    (h : T none P muts n H.length ac ⟨(args.zipIdx 0).map fun (x : AV × Nat) => (x.2, x.1), H⟩ (leave H.length rs Q)) : ACall P g args H Q := by
  refine ⟨hcf, fun C cargs hH hR hl => ?_⟩
  subst hH
  refine callsIn_wide.1 (callsIn_of_wp_marks (F := FR none) (n := 0) hf hbody trivial ?_ rfl)
  have hrel : Rel n C ⟨(args.zipIdx 0).map fun (x : AV × Nat) => (x.2, x.1), C.H⟩ C { tmps := cargs.toArray ++ Array.replicate (fn.ntmps - cargs.toArray.size) undef, defers := [] } := by
    refine ⟨rfl, hR, Step.refl C, ⟨fun t => ?_⟩, Marks.nil _ _, by simp [hn]; omega⟩
    have := slots_args (n := fn.ntmps - cargs.length) (k := 0) (t := t) hl
    rw [Nat.zero_add] at this
    show Conc C (look _ t) _
    have e : ({ tmps := cargs.toArray ++ Array.replicate (fn.ntmps - cargs.toArray.size) undef, defers := [] } : Act).tmps.getD t undef = (cargs ++ List.replicate (fn.ntmps - cargs.length) undef).getD t undef := by
      rw [Array.getD_eq_getD_getElem?, List.getD_eq_getElem?_getD]
      congr 1
      rw [← Array.getElem?_toList]
      simp
    rw [e]; exact this
  refine wpIn_mono (h c hc C C _ rfl hrel) ?_
  rintro e a' w' ⟨σ', C', rfl, hK, hR'⟩
  have fin : leave C.H.length rs Q .normal σ' → LeavesInM (FR none) 0 P fn a'.tmps (fun e w' => ∃ u r H' m', e = .returned u ∧ Q r H' ∧ Step C ⟨H', m', w', C.prot⟩ ∧ HeapRel ⟨H', m', w', C.prot⟩ ∧ Conc ⟨H', m', w', C.prot⟩ r u) a'.defers .returning C'.w := by
    rintro ⟨vs, ids, h1, h2, h3, h4, h5⟩
    obtain ⟨bs, hds, hnd, hbs⟩ := hR'.defers
    rw [hds]
    refine leaves_marks bs _ hnd (fun b hb => (hbs b hb).2) ?_
    have hR3 := shut_ok hR' hbs
    obtain ⟨us, hrun, hus⟩ := resL_run (P := P) hR3 hrs h1
    dsimp only at hrun
    have hres : (results fn a'.tmps).run P (shut C'.w bs) = .ok (if h : us.toArray.size = 1 then us.toArray[0] else .tuple us.toArray) (shut C'.w bs) := by
      rw [results_eq, Array.mapM_eq_mapM_toList]
      simp only [Sem.run_bind, Sem.run_map, hrun, Result.andThen_ok, Sem.run_pure]
    obtain ⟨C2, hw2, hR2, hren⟩ := keep_ok (N := n) (ts := []) h2 h3 h4 rfl hR3
    refine ⟨_, hres, _, ren (keepρ C.H.length ids) (tupOf vs), C2.H, C2.m, rfl, by rw [hR2.heap]; exact h5, ?_⟩
    have hp : C2.prot = C.prot := hR2.step.prot
    obtain ⟨H2, m2, w2, p2⟩ := C2
    dsimp only at hw2 hp ⊢
    subst hw2 hp
    exact ⟨hR2.step, hR2.rel, Conc.ren hren _ _ (conc_tupOf hus)⟩
  cases e with
  | normal => exact fin hK
  | ret => exact fin hK
  | _ => exact hK.elim

/-- the blocks as they are -/
def leaveA (rs : List ARes) (Q : AV → List Blk → Prop) : Exit → St → Prop
  | .normal, σ | .ret, σ => ∃ vs, resL σ rs = some vs ∧ Q (tupOf vs) σ.heap
  | _, _ => False
theorem acall_all {P : Program} {muts : List FuncId} {g : FuncId} {fn : Func} {c : Code} {ac : ACode} {rs : List ARes} {n : Nat} {args : List AV} {H : List Blk} {Q : AV → List Blk → Prop}
    (hcf : ∀ cargs w, (callFunc g cargs).run P w = .ok (.enter g cargs) w) (hf : P.funcs[g]? = some fn) (hbody : fn.body = some c) (hrs : trRes P fn.results.toList = some rs) (hn : fn.ntmps = n) (hc : trCode P muts n c = some ac)
    (h : T none P muts n H.length ac ⟨(args.zipIdx 0).map fun (x : AV × Nat) => (x.2, x.1), H⟩ (leaveA rs Q)) : ACall P g args H Q := by
  refine ⟨hcf, fun C cargs hH hR hl => ?_⟩
  subst hH
  refine callsIn_wide.1 (callsIn_of_wp_marks (F := FR none) (n := 0) hf hbody trivial ?_ rfl)
  have hrel : Rel n C ⟨(args.zipIdx 0).map fun (x : AV × Nat) => (x.2, x.1), C.H⟩ C { tmps := cargs.toArray ++ Array.replicate (fn.ntmps - cargs.toArray.size) undef, defers := [] } := by
    refine ⟨rfl, hR, Step.refl C, ⟨fun t => ?_⟩, Marks.nil _ _, by simp [hn]; omega⟩
    have := slots_args (n := fn.ntmps - cargs.length) (k := 0) (t := t) hl
    rw [Nat.zero_add] at this
    show Conc C (look _ t) _
    have e : ({ tmps := cargs.toArray ++ Array.replicate (fn.ntmps - cargs.toArray.size) undef, defers := [] } : Act).tmps.getD t undef = (cargs ++ List.replicate (fn.ntmps - cargs.length) undef).getD t undef := by
      rw [Array.getD_eq_getD_getElem?, List.getD_eq_getElem?_getD]
      congr 1
      rw [← Array.getElem?_toList]
      simp
    rw [e]; exact this
  refine wpIn_mono (h c hc C C _ rfl hrel) ?_
  rintro e a' w' ⟨σ', C', rfl, hK, hR'⟩
  have fin : leaveA rs Q .normal σ' → LeavesInM (FR none) 0 P fn a'.tmps (fun e w' => ∃ u r H' m', e = .returned u ∧ Q r H' ∧ Step C ⟨H', m', w', C.prot⟩ ∧ HeapRel ⟨H', m', w', C.prot⟩ ∧ Conc ⟨H', m', w', C.prot⟩ r u) a'.defers .returning C'.w := by
    rintro ⟨vs, h1, h5⟩
    obtain ⟨bs, hds, hnd, hbs⟩ := hR'.defers
    rw [hds]
    refine leaves_marks bs _ hnd (fun b hb => (hbs b hb).2) ?_
    have hR3 := shut_ok hR' hbs
    obtain ⟨us, hrun, hus⟩ := resL_run (P := P) hR3 hrs h1
    dsimp only at hrun
    have hres : (results fn a'.tmps).run P (shut C'.w bs) = .ok (if h : us.toArray.size = 1 then us.toArray[0] else .tuple us.toArray) (shut C'.w bs) := by
      rw [results_eq, Array.mapM_eq_mapM_toList]
      simp only [Sem.run_bind, Sem.run_map, hrun, Result.andThen_ok, Sem.run_pure]
    refine ⟨_, hres, _, tupOf vs, σ'.heap, C'.m, rfl, h5, ?_⟩
    have hp : C'.prot = C.prot := hR3.step.prot
    have hH : C'.H = σ'.heap := hR3.heap
    have e1 := hR3.step
    have e2 := hR3.rel
    have e3 := conc_tupOf hus
    obtain ⟨H2, m2, w2, p2⟩ := C'
    dsimp only at hp hH e1 e2 e3 ⊢
    subst hp hH
    exact ⟨e1, e2, e3⟩
  cases e with
  | normal => exact fin hK
  | ret => exact fin hK
  | _ => exact hK.elim

theorem callFunc_ok {P : Program} {g : FuncId} {fn : Func} (hf : P.funcs[g]? = some fn) (hb : fn.body.isNone = false) (hn : (fn.name == "runtime.NumGoroutine") = false) (args : Array Value) (w : World) : (callFunc g args).run P w = .ok (.enter g args) w := by
  simp only [callFunc, Sem.run_bind, run_program, Result.andThen_ok, hf, hn, hb, Bool.false_eq_true, if_false, Sem.run_pure]
end Go.Abs
