/- Operations that no order binds: any of them may be taken first. -/
import Derived.Test.YtodheeifecoebaaAbs15
set_option linter.all false
set_option linter.unusedVariables false
set_option linter.unusedSimpArgs false
set_option linter.unusedSectionVars false
namespace Go.Abs
open Go.RowKit

theorem alike_of {H H' : List Blk} {k : Nat} (h : H[k]? = H'[k]?) : Alike (hget H k) (hget H' k) := .inl (by unfold hget; rw [h])

def Eqv (σ τ : St) : Prop := σ.heap = τ.heap ∧ ∀ t, σ.get t = τ.get t
theorem Eqv.refl (σ : St) : Eqv σ σ := ⟨rfl, fun _ => rfl⟩
theorem Eqv.symm {σ τ : St} (h : Eqv σ τ) : Eqv τ σ := ⟨h.1.symm, fun t => (h.2 t).symm⟩
theorem Eqv.trans {σ τ υ : St} (h : Eqv σ τ) (g : Eqv τ υ) : Eqv σ υ := ⟨h.1.trans g.1, fun t => (h.2 t).trans (g.2 t)⟩
theorem Eqv.agree {σ τ : St} (h : Eqv σ τ) (o : AOper) : Agree o σ τ := fun t _ => h.2 t
theorem put_heap (σ : St) (d : Option Nat) (v : AV) : (σ.put d v).heap = σ.heap := by cases d <;> rfl
theorem Eqv.put_ {sl sl' : List (Nat × AV)} {H H' : List Blk} (hs : ∀ t, look sl t = look sl' t) (hH : H = H') (d : Option Nat) (v : AV) : Eqv (St.put ⟨sl, H⟩ d v) (St.put ⟨sl', H'⟩ d v) :=
  ⟨by rw [put_heap, put_heap]; exact hH, fun t => by rw [get_put, get_put]; split; rfl; exact hs t⟩
theorem Eqv.after_ {σ τ : St} (h : Eqv σ τ) (d : Option Nat) (x : AV × List (Nat × Blk)) : Eqv (after σ d x) (after τ d x) := Eqv.put_ h.2 (by rw [h.1]) d _
theorem Eqv.landed_ {σ τ : St} (h : Eqv σ τ) (ids : List Nat) (d : Option Nat) (r : AV) (new : List Blk) : Eqv (landed σ ids d r new) (landed τ ids d r new) := by
  unfold landed
  rw [h.1]
  exact Eqv.put_ h.2 rfl d _
theorem Eqv.nres_ {σ τ : St} (h : Eqv σ τ) (base : Nat) (o : AOper) : nres base o σ = nres base o τ :=
  nres_same (h.agree o) ⟨fun _ _ => alike_of (by rw [h.1]), fun _ _ => by rw [h.1]⟩
theorem Eqv.foot_ {σ τ : St} (h : Eqv σ τ) (base : Nat) (o : AOper) : foot base o σ = foot base o τ := (h.agree o).foot_ base fun _ => ⟨by rw [h.1], fun _ _ => by rw [h.1]⟩

section
variable {P : Program} {base : Nat} {σ τ : St} {o c : AOper}

/-- a call sees the same from two states -/
theorem wcallD_same {raw : Bool} {f : Opd} {args : List Opd} (ho : o.op = .call raw f args) (ha : Agree o σ τ) (hh : ∀ id ∈ lidsL (hget σ.heap) (argsOf σ f args), σ.heap[id]? = τ.heap[id]?) {d : Option Nat} {K K' : St → Prop}
    (hK : ∀ r new, K (landed σ (lidsL (hget σ.heap) (argsOf σ f args)) d r new) → K' (landed τ (lidsL (hget σ.heap) (argsOf σ f args)) d r new)) (h : wcallD P f args d σ K) : wcallD P f args d τ K' := by
  obtain ⟨g, first, cap, ht, hp, Q, hQ, hne, hq⟩ := h
  obtain ⟨h1, h2⟩ := ha.args_ ho
  have hcg := lidsL_congr (h := hget σ.heap) (h' := hget τ.heap) (l := argsOf σ f args) fun id hi => by unfold hget; rw [hh id hi]
  have hr : rfyL (hget σ.heap) (argsOf σ f args) = rfyL (hget τ.heap) (argsOf τ f args) := by rw [← h2]; exact hcg.2
  exact ⟨g, first, cap, h1 ▸ ht, hr ▸ hp, Q, hr ▸ hQ, hne, fun r new hr' => by rw [← h2, ← hcg.1]; exact hK r new (hq r new hr')⟩

theorem wstepD_eqv (h : Eqv σ τ) {K K' : St → Prop} (hK : ∀ s t, Eqv s t → K s → K' t) (hw : wstepD P base o σ K) : wstepD P base o τ K' := by
  rcases hw with ⟨x, hx, hk⟩ | ⟨hwt, f, args, ho, hc⟩
  · exact .inl ⟨x, by rw [← h.nres_]; exact hx, hK _ _ (h.after_ _ _) hk⟩
  · exact .inr ⟨by rw [← (h.agree o).wanted_]; exact hwt, f, args, ho, wcallD_same ho (h.agree o) (fun _ _ => by rw [h.1]) (fun r new => hK _ _ (h.landed_ _ _ _ _)) hc⟩
theorem wstepD_mono {K K' : St → Prop} (hK : ∀ s, K s → K' s) (hw : wstepD P base o σ K) : wstepD P base o σ K' := by
  rcases hw with ⟨x, hx, hk⟩ | ⟨hwt, f, args, ho, g, first, cap, ht, hp, Q, hQ, hne, hq⟩
  · exact .inl ⟨x, hx, hK _ hk⟩
  · exact .inr ⟨hwt, f, args, ho, g, first, cap, ht, hp, Q, hQ, hne, fun r new h => hK _ (hq r new h)⟩

theorem agree_after {x : AV × List (Nat × Blk)} {d : Option Nat} (h : ∀ e, d = some e → e ∉ looks c) : Agree c σ (after σ d x) := fun t ht => by
  unfold after
  rw [get_put, if_neg fun hd => h t hd ht]; rfl
theorem agree_landed {ids : List Nat} {r : AV} {new : List Blk} {d : Option Nat} (h : ∀ e, d = some e → e ∉ looks c) : Agree c σ (landed σ ids d r new) := fun t ht => by
  unfold landed
  rw [get_put, if_neg fun hd => h t hd ht]; rfl
theorem after_heap {x : AV × List (Nat × Blk)} {d : Option Nat} : (after σ d x).heap = writes σ.heap x.2 := put_heap _ _ _
theorem landed_heap {ids : List Nat} {r : AV} {new : List Blk} {d : Option Nat} : (landed σ ids d r new).heap = freeze σ.heap ids ++ new.map (renB (shiftρ σ.heap.length)) := put_heap _ _ _

theorem foot_after {x : AV × List (Nat × Blk)} {d : Option Nat} (h : ∀ e, d = some e → e ∉ looks c) (hd : ∀ p ∈ x.2, p.1 ∉ (foot base c σ).rd) : foot base c (after σ d x) = foot base c σ :=
  ((agree_after h).foot_ base fun _ => ⟨by rw [after_heap, writes_len], fun id hid => by rw [after_heap]; exact (writes_get _ _ fun p hp he => hd p hp (he ▸ hid)).symm⟩).symm
theorem foot_after' {x : AV × List (Nat × Blk)} {d : Option Nat} (h : ∀ e, d = some e → e ∉ looks c) (hd : ∀ p ∈ x.2, p.1 ∉ (foot base c (after σ d x)).rd) : foot base c (after σ d x) = foot base c σ :=
  Agree.foot_ (fun t ht => (agree_after h t ht).symm) base fun _ => ⟨by rw [after_heap, writes_len], fun id hid => by rw [after_heap]; exact writes_get _ _ fun p hp he => hd p hp (he ▸ hid)⟩
theorem nres_after {x : AV × List (Nat × Blk)} {d : Option Nat} (h : ∀ e, d = some e → e ∉ looks c) (hd : ∀ p ∈ x.2, p.1 ∉ (foot base c σ).rd ∧ p.1 ∉ (foot base c σ).wr) : nres base c (after σ d x) = nres base c σ := by
  refine (nres_same (agree_after h) ⟨fun k hk => alike_of ?_, fun k hk => ?_⟩).symm <;> rw [after_heap, writes_get]
  · intro p hp he; exact (hd p hp).1 (he ▸ hk)
  · intro p hp he; exact (hd p hp).2 (he ▸ hk)
theorem foot_landed {ids : List Nat} {r : AV} {new : List Blk} {d : Option Nat} (h : ∀ e, d = some e → e ∉ looks c) (hc : c.op.isCall = false) : foot base c (landed σ ids d r new) = foot base c σ :=
  ((agree_landed h).foot_ base fun h => by rw [hc] at h; simp at h).symm
theorem nres_landed {ids : List Nat} {r : AV} {new : List Blk} {d : Option Nat} (h : ∀ e, d = some e → e ∉ looks c) (hr : ∀ k ∈ (foot base c σ).rd, k < σ.heap.length) (hw : ∀ k ∈ (foot base c σ).wr, k ∉ ids ∧ k < σ.heap.length) : nres base c (landed σ ids d r new) = nres base c σ := by
  refine (nres_same (agree_landed h) ⟨fun k hk => ?_, fun k hk => ?_⟩).symm <;> rw [landed_heap]
  · unfold hget
    rw [List.getElem?_append_left (by rw [freeze_len]; exact hr k hk)]
    rcases freeze_alike ids σ.heap k with h1 | ⟨o, o', n, z, e, h1, h2⟩
    · rw [h1]; exact .inl rfl
    · rw [h1, h2]; exact .inr ⟨o, o', n, z, e, rfl, rfl⟩
  · rw [List.getElem?_append_left (by rw [freeze_len]; exact (hw k hk).2), freeze_out (hw k hk).1]

theorem put2_get {sl : List (Nat × AV)} {H H1 H2 H3 : List Blk} {d e : Option Nat} {u v : AV} (hne : ∀ k, d = some k → e ≠ some k) (t : Nat) :
    (St.put ⟨(St.put ⟨sl, H⟩ d u).slots, H1⟩ e v).get t = (St.put ⟨(St.put ⟨sl, H2⟩ e v).slots, H3⟩ d u).get t := by
  rw [get_put, get_put]
  show (if e = some t then v else (St.put ⟨sl, H⟩ d u).get t) = if d = some t then u else (St.put ⟨sl, H2⟩ e v).get t
  rw [get_put, get_put]
  by_cases hd : d = some t
  · rw [if_pos hd, if_neg (hne t hd), if_pos hd]
  · rw [if_neg hd, if_neg hd]; rfl
theorem after_after {x y : AV × List (Nat × Blk)} {d e : Option Nat} (hne : ∀ k, d = some k → e ≠ some k) (hd : ∀ p ∈ x.2, ∀ q ∈ y.2, p.1 ≠ q.1) : Eqv (after (after σ d x) e y) (after (after σ e y) d x) :=
  ⟨by rw [after_heap, after_heap, after_heap, after_heap]; exact writes_comm _ _ _ hd, fun t => put2_get hne t⟩
theorem after_landed {y : AV × List (Nat × Blk)} {ids : List Nat} {r : AV} {new : List Blk} {d e : Option Nat} (hne : ∀ k, d = some k → e ≠ some k) (hd : ∀ p ∈ y.2, p.1 ∉ ids ∧ p.1 < σ.heap.length) : Eqv (after (landed σ ids d r new) e y) (landed (after σ e y) ids d r new) := by
  refine ⟨?_, fun t => ?_⟩
  · rw [after_heap, landed_heap, landed_heap, after_heap, writes_len]
    exact writes_freeze _ _ _ _ hd
  · unfold landed
    rw [after_heap, writes_len]
    exact put2_get hne t
end

/-- operations, with what those before have seen and written -/
def wdops (P : Program) (base : Nat) (bef : List (List Nat)) : List (Nat × AOper) → List (Nat × Foot) → St → (St → Prop) → Prop
  | [], _, σ, K => K σ
  | (n, o) :: r, past, σ, K => (∀ p ∈ past, p.1 ∉ bef.getD n [] → n ∉ bef.getD p.1 [] → compat p.2 (foot base o σ)) ∧ wstepD P base o σ fun σ' => wdops P base bef r ((n, foot base o σ) :: past) σ' K

section
variable {P : Program} {base : Nat} {bef : List (List Nat)} {K : St → Prop}
theorem wdops_eqv : ∀ (L : List (Nat × AOper)) (past past' : List (Nat × Foot)) (σ τ : St), (∀ s t, Eqv s t → K s → K t) → Eqv σ τ → (∀ p ∈ past', p ∈ past) → wdops P base bef L past σ K → wdops P base bef L past' τ K
  | [], _, _, σ, τ, hK, h, _, hw => hK _ _ h hw
  | (n, o) :: r, past, past', σ, τ, hK, h, hp, hw => by
    simp only [wdops] at hw ⊢
    rw [← h.foot_]
    exact ⟨fun p hpp => hw.1 p (hp p hpp), wstepD_eqv h (fun s t hst => wdops_eqv r _ _ s t hK hst fun p hpp => by
      simp only [List.mem_cons] at hpp ⊢; exact hpp.imp id (hp p)) hw.2⟩

theorem wdops_mono {K' : St → Prop} : ∀ (L : List (Nat × AOper)) (past : List (Nat × Foot)) (σ : St), (∀ s, K s → K' s) → wdops P base bef L past σ K → wdops P base bef L past σ K'
  | [], _, σ, hK, hw => hK _ hw
  | (n, o) :: r, past, σ, hK, hw => ⟨hw.1, wstepD_mono (fun s hs => wdops_mono r _ s hK hs) hw.2⟩

theorem isCall_of {o : AOper} {f : Opd} {args : List Opd} (h : o.op = .call false f args) : o.op.isCall = true := by rw [h]; rfl
theorem foot_call {o : AOper} {raw : Bool} {f : Opd} {args : List Opd} (h : o.op = .call raw f args) (σ : St) : (foot base o σ).rd = lidsL (hget σ.heap) (argsOf σ f args) ∧ (foot base o σ).call = some σ.heap.length := by
  unfold foot; rw [h]; exact ⟨rfl, rfl⟩

theorem swap {n m : Nat} {o c : AOper} {R : List (Nat × AOper)} {past : List (Nat × Foot)} {σ : St} (hK : ∀ s t, Eqv s t → K s → K t) (h1 : n ∉ bef.getD m []) (h2 : m ∉ bef.getD n []) (hap : apart o c = true)
    (h : wdops P base bef ((n, o) :: (m, c) :: R) past σ K) : wdops P base bef ((m, c) :: (n, o) :: R) past σ K := by
  obtain ⟨a1, a2, a3, a4⟩ := apart_spec hap
  have a2' : ∀ k, c.dst = some k → o.dst ≠ some k := fun k hk ho => a2 k ho hk
  have mem3 : ∀ {F G : Nat × Foot} (p : Nat × Foot), p ∈ F :: G :: past → p ∈ G :: F :: past := fun p hp => by
    simp only [List.mem_cons] at hp ⊢; rcases hp with h | h | h
    · exact .inr (.inl h)
    · exact .inl h
    · exact .inr (.inr h)
  simp only [wdops] at h ⊢
  obtain ⟨ho, hw⟩ := h
  rcases hw with ⟨x, hx, hchk, hc⟩ | ⟨hwt, f, args, hop, hcall⟩
  · -- the first is no call
    have hxw := nres_ws hx
    have hcmp0 : compat (foot base o σ) (foot base c (after σ o.dst x)) := hchk (n, foot base o σ) (by simp) h1 h2
    have hf1 : foot base c (after σ o.dst x) = foot base c σ := foot_after' a1 fun p hp => (hcmp0.1 _ (hxw p hp)).2
    rw [hf1] at hchk hc
    have hcmp : compat (foot base o σ) (foot base c σ) := hchk (n, foot base o σ) (by simp) h1 h2
    refine ⟨fun p hp => hchk p (by simp [hp]), ?_⟩
    rcases hc with ⟨y, hy, hr⟩ | ⟨hwt, f, args, hop, hcall⟩
    · have hy' : nres base c σ = some y := by
        rw [← nres_after a1 fun p hp => ⟨(hcmp.1 _ (hxw p hp)).2, (hcmp.1 _ (hxw p hp)).1⟩]; exact hy
      have hyw := nres_ws hy'
      have hf2 : foot base o (after σ c.dst y) = foot base o σ := foot_after a3 fun p hp => hcmp.2.1 _ (hyw p hp)
      refine .inl ⟨y, hy', ?_, .inl ⟨x, ?_, ?_⟩⟩
      · rw [hf2]
        intro p hp hp1 hp2
        simp only [List.mem_cons] at hp
        rcases hp with rfl | hp
        · exact hcmp.symm
        · exact ho p hp hp1 hp2
      · rw [nres_after a3 fun p hp => ⟨hcmp.2.1 _ (hyw p hp), fun hh => (hcmp.1 _ hh).1 (hyw p hp)⟩]; exact hx
      · rw [hf2]
        exact wdops_eqv R _ _ _ _ hK (after_after a2 fun p hp q hq he => (hcmp.1 _ (hxw p hp)).1 (he ▸ hyw q hq)) mem3 hr
    · -- the second is a call
      have hagc : Agree c σ (after σ o.dst x) := agree_after a1
      have hnc : o.op.isCall = false := by
        cases hcc : o.op.isCall with
        | false => rfl
        | true => exact (a4 ⟨hcc, isCall_of hop⟩).elim
      obtain ⟨hrd, hcl⟩ := foot_call (base := base) hop σ
      have hlt := hcmp.2.2.2 _ hcl
      have hlids : lidsL (hget (after σ o.dst x).heap) (argsOf (after σ o.dst x) f args) = lidsL (hget σ.heap) (argsOf σ f args) := by
        rw [← (foot_call (base := base) hop (after σ o.dst x)).1, hf1, hrd]
      refine .inr ⟨by rw [hagc.wanted_]; exact hwt, f, args, hop, wcallD_same (σ := after σ o.dst x) (τ := σ) hop (fun t ht => (hagc t ht).symm) (fun id hid => ?_) (fun r new hk => ?_) hcall⟩
      · rw [hlids] at hid
        rw [after_heap]
        exact writes_get _ _ fun p hp he => (hcmp.1 _ (hxw p hp)).2 (by rw [hrd, he]; exact hid)
      · rw [hlids] at hk ⊢
        have hwr : ∀ k ∈ (foot base o σ).wr, k ∉ lidsL (hget σ.heap) (argsOf σ f args) ∧ k < σ.heap.length := fun k hk => ⟨fun hm => (hcmp.1 _ hk).2 (by rw [hrd]; exact hm), hlt k (.inr hk)⟩
        have hf2 : foot base o (landed σ (lidsL (hget σ.heap) (argsOf σ f args)) c.dst r new) = foot base o σ := foot_landed a3 hnc
        refine ⟨?_, .inl ⟨x, ?_, ?_⟩⟩
        · rw [hf2]
          intro p hp hp1 hp2
          simp only [List.mem_cons] at hp
          rcases hp with rfl | hp
          · exact hcmp.symm
          · exact ho p hp hp1 hp2
        · rw [nres_landed a3 (fun k hk => hlt k (.inl hk)) hwr]; exact hx
        · rw [hf2]
          exact wdops_eqv R _ _ _ _ hK (after_landed a2' fun p hp => hwr _ (hxw p hp)).symm mem3 hk
  · -- the first is a call
    have hcc : c.op.isCall = false := by
      cases hc' : c.op.isCall with
      | false => rfl
      | true => exact (a4 ⟨isCall_of hop, hc'⟩).elim
    obtain ⟨hrd, hcl⟩ := foot_call (base := base) hop σ
    have hfl : ∀ r new, foot base c (landed σ (lidsL (hget σ.heap) (argsOf σ f args)) o.dst r new) = foot base c σ := fun r new => foot_landed a1 hcc
    obtain ⟨g, first, cap, ht, hp, Q, hQ, ⟨r0, new0, hq0⟩, hq⟩ := hcall
    have h0 := hq r0 new0 hq0
    dsimp only at h0
    rw [hfl] at h0
    have hcmp : compat (foot base o σ) (foot base c σ) := h0.1 (n, foot base o σ) (by simp) h1 h2
    have hlt := hcmp.2.2.1 _ hcl
    have hwr : ∀ k ∈ (foot base c σ).wr, k ∉ lidsL (hget σ.heap) (argsOf σ f args) ∧ k < σ.heap.length := fun k hk => ⟨fun hm => hcmp.2.1 _ hk (by rw [hrd]; exact hm), hlt k (.inr hk)⟩
    have hnl : ∀ r new, nres base c (landed σ (lidsL (hget σ.heap) (argsOf σ f args)) o.dst r new) = nres base c σ := fun r new => nres_landed a1 (fun k hk => hlt k (.inl hk)) hwr
    have hleft : ∀ {τ : St} {K' : St → Prop}, wstepD P base c τ K' → ∃ y, nres base c τ = some y ∧ K' (after τ c.dst y) := fun hw => by
      rcases hw with hw | ⟨_, f', args', hop', _⟩
      · exact hw
      · rw [isCall_of hop'] at hcc; simp at hcc
    obtain ⟨y, hy, hk0⟩ := hleft h0.2
    rw [hnl] at hy
    have hyw := nres_ws hy
    have hf2 : foot base o (after σ c.dst y) = foot base o σ := foot_after a3 fun p hp => hcmp.2.1 _ (hyw p hp)
    have hago : Agree o σ (after σ c.dst y) := agree_after a3
    refine ⟨fun p hp => h0.1 p (by simp [hp]), .inl ⟨y, hy, ?_, .inr ⟨by rw [← hago.wanted_]; exact hwt, f, args, hop, ?_⟩⟩⟩
    · rw [hf2]
      intro p hp hp1 hp2
      simp only [List.mem_cons] at hp
      rcases hp with rfl | hp
      · exact hcmp.symm
      · exact ho p hp hp1 hp2
    · refine wcallD_same (σ := σ) (K := fun τ => wdops P base bef R ((m, foot base c σ) :: (n, foot base o σ) :: past) (after τ c.dst y) K) hop hago (fun id hid => ?_) (fun r new hk => ?_) ⟨g, first, cap, ht, hp, Q, hQ, ⟨r0, new0, hq0⟩, fun r new hqq => ?_⟩
      · rw [after_heap]
        exact (writes_get _ _ fun p hp he => hcmp.2.1 _ (hyw p hp) (by rw [hrd, he]; exact hid)).symm
      · rw [hf2]
        exact wdops_eqv R _ _ _ _ hK (after_landed a2 fun p hp => hwr _ (hyw p hp)) mem3 hk
      · have h3 := hq r new hqq
        dsimp only at h3
        rw [hfl] at h3
        obtain ⟨y', hy', hk'⟩ := hleft h3.2
        rw [hnl, hy] at hy'
        obtain rfl := Option.some.inj hy'
        exact hk'

theorem take_first (hK : ∀ s t, Eqv s t → K s → K t) {m : Nat} {c : AOper} {R : List (Nat × AOper)} : ∀ (L : List (Nat × AOper)) (past : List (Nat × Foot)) (σ : St), (∀ p ∈ L, p.1 ∉ bef.getD m [] ∧ m ∉ bef.getD p.1 [] ∧ apart p.2 c = true) →
    wdops P base bef (L ++ (m, c) :: R) past σ K → wdops P base bef ((m, c) :: (L ++ R)) past σ K
  | [], _, _, _, h => h
  | (n, o) :: L, past, σ, hL, h => by
    obtain ⟨h1, h2, h3⟩ := hL (n, o) (by simp)
    refine swap hK h1 h2 h3 ?_
    simp only [List.cons_append] at h
    rw [wdops] at h ⊢
    exact ⟨h.1, wstepD_mono (fun s hs => take_first hK L _ s (fun p hp => hL p (by simp [hp])) hs) h.2⟩
end
end Go.Abs
