/- Steps: operations and calls on an abstract state, and what they are worth. -/
import Derived.Test.YtodheeifecoebaaAbs11
set_option linter.all false
set_option linter.unusedVariables false
set_option linter.unusedSimpArgs false
set_option linter.unusedSectionVars false
namespace Go.Abs
open Go.RowKit

/-- a value with our slices read out, so deep -/
def rfy (h : Nat → Blk) : Nat → AV → AV
  | 0, v => v
  | d + 1, .lsl id i len => match h id with
    | .cells _ nil sz els => if len ≤ els.length - i then .sl nil sz (((els.drop i).take len).map fun r => r.map (rfy h d)) else .top
    | _ => .top
  | d + 1, .agg cs => .agg (cs.map (rfy h d))
  | _ + 1, v => v
def rfyL (h : Nat → Blk) (l : List AV) : List AV := l.map (rfy h 6)
/-- the blocks that are read -/
def lids (h : Nat → Blk) : Nat → AV → List Nat
  | 0, _ => []
  | d + 1, .lsl id i len => id :: (match h id with
    | .cells _ _ _ els => ((els.drop i).take len).flatMap fun r => r.flatMap (lids h d)
    | _ => [])
  | d + 1, .agg cs => cs.flatMap (lids h d)
  | _ + 1, _ => []
def lidsL (h : Nat → Blk) (l : List AV) : List Nat := l.flatMap (lids h 6)
def freeze1 (H : List Blk) (id : Nat) : List Blk :=
  match H[id]? with
  | some (.cells true nil sz els) => H.set id (.cells false nil sz els)
  | _ => H
def freeze (H : List Blk) : List Nat → List Blk
  | [] => H
  | id :: r => freeze (freeze1 H id) r

theorem freeze1_ok {C : Ctx} (hR : HeapRel C) (id : Nat) : Step C ⟨freeze1 C.H id, C.m, C.w, C.prot⟩ ∧ HeapRel ⟨freeze1 C.H id, C.m, C.w, C.prot⟩ := by
  unfold freeze1
  split
  · rename_i nil sz els h
    exact turn_ok hR h (.inr rfl)
  · exact ⟨Step.refl C, hR⟩
theorem freeze_ok {C : Ctx} (hR : HeapRel C) : ∀ ids : List Nat, Step C ⟨freeze C.H ids, C.m, C.w, C.prot⟩ ∧ HeapRel ⟨freeze C.H ids, C.m, C.w, C.prot⟩ := by
  intro ids
  induction ids generalizing C with
  | nil => exact ⟨Step.refl C, hR⟩
  | cons id r ih =>
    obtain ⟨h1, h2⟩ := freeze1_ok hR id
    obtain ⟨h3, h4⟩ := ih h2
    exact ⟨h1.trans h3, h4⟩

def notOwn : Blk → Prop
  | .cells true _ _ _ => False
  | _ => True
theorem freeze1_not {H : List Blk} {id k : Nat} {B : Blk} (h : (freeze1 H id)[k]? = some B) (hk : k = id ∨ ∃ B0, H[k]? = some B0 ∧ notOwn B0) : notOwn B := by
  unfold freeze1 at h
  split at h
  · rename_i nil sz els hc
    by_cases he : k = id
    · subst he; rw [set_get_eq (lt_of_get hc)] at h; simp at h; subst h; trivial
    · rw [set_get_ne (Ne.symm he)] at h
      rcases hk with hk | ⟨B0, hB0, hn⟩
      · exact (he hk).elim
      · rw [h] at hB0; simp at hB0; subst hB0; exact hn
  · rename_i hc
    rcases hk with rfl | ⟨B0, hB0, hn⟩
    · cases B with
      | cells own nil sz els =>
        cases own with
        | true => exact (hc nil sz els h).elim
        | false => trivial
      | _ => trivial
    · rw [h] at hB0; simp at hB0; subst hB0; exact hn
theorem freeze_get {H : List Blk} {k : Nat} : ∀ {ids : List Nat} {B : Blk}, (freeze H ids)[k]? = some B → ∃ B0, H[k]? = some B0 := by
  intro ids
  induction ids generalizing H with
  | nil => intro B h; exact ⟨B, h⟩
  | cons id r ih =>
    intro B h
    obtain ⟨B1, h1⟩ := ih h
    have hl := lt_of_get h1
    have : (freeze1 H id).length = H.length := by unfold freeze1; split <;> simp
    exact ⟨_, List.getElem?_eq_getElem (by omega)⟩
theorem freeze_not {k : Nat} : ∀ {ids : List Nat} {H : List Blk} {B : Blk}, (freeze H ids)[k]? = some B → (k ∈ ids ∨ ∃ B0, H[k]? = some B0 ∧ notOwn B0) → notOwn B := by
  intro ids
  induction ids with
  | nil =>
    intro H B h hk
    rcases hk with hk | ⟨B0, hB0, hn⟩
    · simp at hk
    · rw [show freeze H [] = H from rfl] at h; rw [h] at hB0; simp at hB0; subst hB0; exact hn
  | cons id r ih =>
    intro H B h hk
    by_cases hkr : k ∈ r
    · exact ih h (.inl hkr)
    · obtain ⟨B1, hB1⟩ := freeze_get (H := freeze1 H id) h
      refine ih h (.inr ⟨B1, hB1, freeze1_not hB1 ?_⟩)
      rcases hk with hk | hk
      · simp at hk; rcases hk with hk | hk
        · exact .inl hk
        · exact (hkr hk).elim
      · exact .inr hk

theorem plainL_all : ∀ {l : List AV}, plainL l = true → ∀ v ∈ l, plain v = true
  | [], _, v, hv => by simp at hv
  | a :: l, h, v, hv => by
    simp only [plainL, Bool.and_eq_true] at h
    rcases List.mem_cons.1 hv with rfl | hv
    · exact h.1
    · exact plainL_all h.2 v hv
theorem plainR_all : ∀ {l : List (List AV)}, plainR l = true → ∀ r ∈ l, plainL r = true
  | [], _, v, hv => by simp at hv
  | a :: l, h, v, hv => by
    simp only [plainR, Bool.and_eq_true] at h
    rcases List.mem_cons.1 hv with rfl | hv
    · exact h.1
    · exact plainR_all h.2 v hv
theorem ConcL.mapF {C : Ctx} {f : AV → AV} : ∀ {l : List AV} {us : List Value}, (∀ v ∈ l, ∀ u, Conc C v u → Conc C (f v) u) → ConcL C l us → ConcL C (l.map f) us
  | [], _, _, h => h
  | a :: l, us, hf, h => by
    simp only [ConcL, List.map_cons] at h ⊢
    obtain ⟨u, us', rfl, h1, h2⟩ := h
    exact ⟨u, us', rfl, hf a (by simp) u h1, ConcL.mapF (fun v hv => hf v (by simp [hv])) h2⟩
theorem CellsAt.map {C : Ctx} {f : AV → AV} {b : Nat} : ∀ {off : Nat} {l : List AV}, (∀ v ∈ l, isOne v = true → isOne (f v) = true ∧ ∀ u, Conc C v u → Conc C (f v) u) → CellsAt C b off l → CellsAt C b off (l.map f)
  | _, [], _, h => h
  | off, a :: l, hf, h => by
    simp only [CellsAt, List.map_cons] at h ⊢
    obtain ⟨⟨u, h1, h2, h3, h4⟩, h5⟩ := h
    obtain ⟨g1, g2⟩ := hf a (by simp) h3
    exact ⟨⟨u, h1, h2, g1, g2 u h4⟩, CellsAt.map (fun v hv => hf v (by simp [hv])) h5⟩
theorem RowsAt.map {C : Ctx} {f : AV → AV} {b sz : Nat} : ∀ {base : Nat} {l : List (List AV)}, (∀ r ∈ l, ∀ v ∈ r, isOne v = true → isOne (f v) = true ∧ ∀ u, Conc C v u → Conc C (f v) u) → RowsAt C b base sz l → RowsAt C b base sz (l.map fun r => r.map f)
  | _, [], _, h => h
  | base, r :: l, hf, h => by
    simp only [RowsAt, List.map_cons] at h ⊢
    exact ⟨by simpa using h.1, CellsAt.map (hf r (by simp)) h.2.1, RowsAt.map (fun r' hr => hf r' (by simp [hr])) h.2.2⟩
theorem isOne_rfy {h : Nat → Blk} {d : Nat} {v : AV} (h1 : isOne v = true) (hp : plain (rfy h d v) = true) : isOne (rfy h d v) = true := by
  cases d with
  | zero => exact h1
  | succ d =>
    cases v <;> (try exact h1)
    · simp only [rfy] at hp ⊢
      split at hp
      · split at hp
        · rename_i hl; rw [if_pos hl]; rfl
        · simp [plain] at hp
      · simp [plain] at hp

/-- read out, where the blocks are frozen -/
theorem conc_rfy {C : Ctx} (hR : HeapRel C) (h : Nat → Blk) (hh : ∀ id own nil sz els, h id = .cells own nil sz els → ∃ own', C.H[id]? = some (.cells own' nil sz els)) : ∀ (d : Nat) (v : AV) (u : Value), (∀ id ∈ lids h d v, ∀ B, C.H[id]? = some B → notOwn B) → plain (rfy h d v) = true → Conc C v u → Conc C (rfy h d v) u
  | 0, _, _, _, _, hc => hc
  | d + 1, .lsl id i len, u, hid, hp, hc => by
    simp only [rfy] at hp ⊢
    split at hp
    · rename_i own nil sz els hb
      obtain ⟨own', hH⟩ := hh id own nil sz els hb
      have hno := hid id (by simp [lids]) _ hH
      have hown : own' = false := by cases own' with | true => exact hno.elim | false => rfl
      subst hown
      split at hp
      · rename_i hl
        rw [if_pos hl]
        simp only [plain] at hp
        have hcell : ∀ r ∈ (els.drop i).take len, ∀ v ∈ r, isOne v = true → isOne (rfy h d v) = true ∧ ∀ u, Conc C v u → Conc C (rfy h d v) u := fun r hr v hv h1 => by
          have hpv : plain (rfy h d v) = true := plainL_all (plainR_all hp _ (List.mem_map.2 ⟨r, hr, rfl⟩)) _ (List.mem_map.2 ⟨v, hv, rfl⟩)
          exact ⟨isOne_rfy h1 hpv, fun u hu => conc_rfy hR h hh d v u (fun id' hid' => hid id' (by simp only [lids, hb]; exact List.mem_cons_of_mem _ (List.mem_flatMap.2 ⟨r, hr, List.mem_flatMap.2 ⟨v, hv, hid'⟩⟩))) hpv hu⟩
        simp only [Conc, hH] at hc ⊢
        have hnl : (((els.drop i).take len).map fun r => r.map (rfy h d)).length = len := by simp; omega
        rcases hc with ⟨rfl, hl0, rfl, rfl, hu⟩ | ⟨rfl, rfl, hi, ad, ao, hu⟩ | ⟨rfl, b, base, cap, c, e, f, hm, hblk, hu, h3, h4, h5⟩
        · exact .inl ⟨rfl, by simp, hu⟩
        · have h0 : (els.drop i).take 0 = [] := rfl
          rw [h0]
          exact .inr ⟨rfl, ad, ao, 0, hu, by simp, fun h => by simp at h, trivial⟩
        · have hrows : RowsAt C b base sz els ∧ ¬ C.prot b := by
            rcases hR.blk id false false sz els hH with ⟨h, _⟩ | ⟨_, b', base', c, e, h1, hpb, _, h3⟩
            · rw [hm] at h; simp at h
            · rw [hm] at h1; simp at h1; obtain ⟨rfl, rfl⟩ := h1; exact ⟨h3, hpb⟩
          refine .inr ⟨rfl, b, base + i * sz, cap, by rw [hnl]; exact hu, by omega, fun _ => ⟨?_, ⟨_, _, _, hblk⟩⟩, RowsAt.map hcell ((hrows.1.drop i).take len)⟩
          rintro ((⟨id2, nil2, sz2, els2, base2, h6, h7⟩ | ⟨id2, o2, h6, h60, h7⟩) | h6)
          · by_cases hne : id2 = id
            · subst hne; rw [hH] at h6; simp at h6
            · exact hR.inj id2 id nil2 sz2 els2 false false sz els b base2 base hne h6 hH h7 hm
          · obtain ⟨b3, x3, h8, _, h9, h10⟩ := hR.obj id2 o2 h6 h60
            rw [h7] at h8; simp at h8; subst h8
            rw [hblk] at h9
            obtain rfl := Option.some.inj h9
            exact Ob.not_cells h10
          · exact hrows.2 h6
      · simp [plain] at hp
    · simp [plain] at hp
  | d + 1, .agg cs, u, hid, hp, hc => by
    simp only [rfy, plain] at hp ⊢
    simp only [Conc] at hc ⊢
    obtain ⟨us, hu, hl⟩ := hc
    exact ⟨us, hu, ConcL.mapF (fun v hv u hu => conc_rfy hR h hh d v u (fun id hi => hid id (by simp only [lids]; exact List.mem_flatMap.2 ⟨v, hv, hi⟩)) (plainL_all hp _ (List.mem_map.2 ⟨v, hv, rfl⟩)) hu) hl⟩
  | _ + 1, .lit _, _, _, _, hc => hc
  | _ + 1, .sl .., _, _, _, hc => hc
  | _ + 1, .emp, _, _, _, hc => hc
  | _ + 1, .adr .., _, _, _, hc => hc
  | _ + 1, .tup .., _, _, _, hc => hc
  | _ + 1, .loc .., _, _, _, hc => hc
  | _ + 1, .clo .., _, _, _, hc => hc
  | _ + 1, .top, _, _, _, hc => hc
  | _ + 1, .top1, _, _, _, hc => hc
theorem concL_rfy {C : Ctx} (hR : HeapRel C) (h : Nat → Blk) (hh : ∀ id own nil sz els, h id = .cells own nil sz els → ∃ own', C.H[id]? = some (.cells own' nil sz els)) (l : List AV) (us : List Value) (hid : ∀ id ∈ lidsL h l, ∀ B, C.H[id]? = some B → notOwn B) (hp : plainL (rfyL h l) = true) (hc : ConcL C l us) : ConcL C (rfyL h l) us :=
  ConcL.mapF (fun v hv u hu => conc_rfy hR h hh 6 v u (fun id hi => hid id (List.mem_flatMap.2 ⟨v, hv, hi⟩)) (plainL_all hp _ (List.mem_map.2 ⟨v, hv, rfl⟩)) hu) hc
end Go.Abs
