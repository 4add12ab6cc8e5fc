/- Maps: making, looking up, storing. -/
import Derived.Test.YtodheeifecoebaaAbs9
import Derived.MapKept
import Derived.WideMake
set_option linter.all false
set_option linter.unusedVariables false
set_option linter.unusedSimpArgs false
set_option linter.unusedSectionVars false
namespace Go.Abs
open Go.RowKit

def kdOf (P : Program) (k : TypeId) : Option KD := match P.underlying k with
  | some .string => some .str
  | some (.int q) => some (.int q)
  | _ => none
def KD.desc : KD → TypeDesc
  | .str => .string
  | .int k => .int k
theorem kdOf_desc {P : Program} {k : TypeId} {kd : KD} (h : kdOf P k = some kd) : P.underlying k = some kd.desc := by
  unfold kdOf at h
  split at h
  · obtain rfl := Option.some.inj h; assumption
  · obtain rfl := Option.some.inj h; assumption
  · simp at h
theorem KD.same_eq {a b : KD} (h : a.same b = true) : a = b := by
  cases a <;> cases b <;> simp_all [KD.same]
theorem keyIs_isKey {kd : KD} {v : Value} (h : keyIs kd v = true) : MapKept.IsKey kd.desc v := by
  cases kd <;> cases v <;> simp_all [keyIs, MapKept.IsKey, KD.desc]
theorem keyEq_iff {kd : KD} {a b : Value} (ha : keyIs kd a = true) (hb : keyIs kd b = true) : keyEq a b = true ↔ a = b := by
  cases kd <;> cases a <;> simp [keyIs] at ha <;> cases b <;> simp [keyIs] at hb
  · rename_i x y
    simp [keyEq, Array.toList_inj]
    constructor
    · intro h; cases x; cases y; simp at h; rw [h]
    · rintro rfl; rfl
  · subst ha hb; simp [keyEq]

theorem mfind_none {kd : KD} {k : Value} (hk : keyIs kd k = true) : ∀ {l : List (Value × Value)}, (∀ e ∈ l, keyIs kd e.1 = true) → (∀ e ∈ l, e.1 ≠ k) → mfind k l = none ∧ ∀ v, mput k v l = l ++ [(k, v)]
  | [], _, _ => ⟨rfl, fun _ => rfl⟩
  | (a, u) :: r, h1, h2 => by
    have hne : keyEq a k = false := by
      cases h : keyEq a k with
      | false => rfl
      | true => exact (h2 (a, u) (by simp) ((keyEq_iff (h1 (a, u) (by simp)) hk).1 h)).elim
    obtain ⟨h3, h4⟩ := mfind_none hk (l := r) (fun e he => h1 e (by simp [he])) (fun e he => h2 e (by simp [he]))
    exact ⟨by simp [mfind, hne, h3], fun v => by simp [mput, hne, h4]⟩
theorem mfind_some {kd : KD} {k : Value} (hk : keyIs kd k = true) : ∀ {l : List (Value × Value)} {j : Nat} {a u : Value}, (∀ e ∈ l, keyIs kd e.1 = true) → l[j]? = some (a, u) → a = k → (∀ i, i < j → ∀ e, l[i]? = some e → e.1 ≠ k) → mfind k l = some u ∧ ∀ v, mput k v l = l.set j (k, v)
  | [], j, a, u, _, h, _, _ => by simp at h
  | (b, w) :: r, 0, a, u, h1, h, hak, _ => by
    simp at h
    obtain ⟨rfl, rfl⟩ := h
    have : keyEq b k = true := (keyEq_iff (h1 (b, w) (by simp)) hk).2 hak
    exact ⟨by simp [mfind, this], fun v => by simp [mput, this]⟩
  | (b, w) :: r, j + 1, a, u, h1, h, hak, h2 => by
    have hne : keyEq b k = false := by
      cases hh : keyEq b k with
      | false => rfl
      | true => exact (h2 0 (by omega) (b, w) rfl ((keyEq_iff (h1 (b, w) (by simp)) hk).1 hh)).elim
    obtain ⟨h3, h4⟩ := mfind_some hk (l := r) (j := j) (fun e he => h1 e (by simp [he])) (by simpa using h) hak (fun i hi e he => h2 (i + 1) (by omega) e (by simpa using he))
    exact ⟨by simp [mfind, hne, h3], fun v => by simp [mput, hne, h4]⟩

/-- where a key is found first -/
theorem findNow_first {d : TypeDesc} {k : Value} (hk : MapKept.IsKey d k) : ∀ (l : List MapEntry) (i : Nat), (∀ x ∈ l, MapKept.IsKey d x.key) →
    (Instr.findNow d k l i = some none ∧ ∀ x ∈ l, x.key ≠ k) ∨ ∃ j e, Instr.findNow d k l i = some (some (i + j, e.val)) ∧ l[j]? = some e ∧ e.key = k ∧ ∀ i', i' < j → ∀ x, l[i']? = some x → x.key ≠ k
  | [], _, _ => .inl ⟨rfl, by simp⟩
  | e :: es, i, h => by
    obtain ⟨r, hr, hiff⟩ := MapKept.sameNow_of_keys hk (h e (.head _))
    cases r with
    | true => exact .inr ⟨0, e, by simp [Instr.findNow, hr], rfl, (hiff.1 rfl).symm, fun i' h => by omega⟩
    | false =>
      have hne : e.key ≠ k := fun q => by have := hiff.2 q.symm; cases this
      rcases findNow_first hk es (i + 1) (fun x hx => h x (.tail _ hx)) with ⟨h1, h2⟩ | ⟨j, e', h1, h2, h3, h4⟩
      · exact .inl ⟨by simp [Instr.findNow, hr, h1], fun x hx => by
          cases hx with
          | head => exact hne
          | tail _ hx => exact h2 x hx⟩
      · refine .inr ⟨j + 1, e', by simp [Instr.findNow, hr, h1]; omega, by simpa using h2, h3, fun i' hi x hx => ?_⟩
        cases i' with
        | zero => simp at hx; subst hx; exact hne
        | succ i' => exact h4 i' (by omega) x (by simpa using hx)

section
variable {P : Program} {C : Ctx} {s : Nat → AV} {a : Act} {o : Oper} {v : AV} {ws : List (Nat × Blk)} {fr : Nat}

/-- a block of another make is made -/
theorem allocO_ok (hR : HeapRel C) {fr : Nat} (hfr : C.H[fr]? = some .resv) {ob : Ob} {x : Obj} (hx : ob.is x) (hlp : ∀ r s, ob = .lp r s → ∀ t, Conc C (look s t) (r.tmps.getD t undef)) :
    Step C ⟨C.H.set fr (.obj ob), C.m.set fr (some (C.w.heap.size, 0)), C.w.alloc x, C.prot⟩ ∧
    HeapRel ⟨C.H.set fr (.obj ob), C.m.set fr (some (C.w.heap.size, 0)), C.w.alloc x, C.prot⟩ := by
  have hfrl := lt_of_get hfr
  have hfrm : fr < C.m.length := by rw [hR.len]; exact hfrl
  have hheap : ∀ k, k < C.w.heap.size → (C.w.alloc x).heap[k]? = C.w.heap[k]? := fun k hk => Below.heap_alloc _ _ _ hk
  have hnew : (C.w.alloc x).heap[C.w.heap.size]? = some x := by
    show (C.w.heap.push _)[C.w.heap.size]? = _
    rw [Array.getElem?_push, if_pos rfl]
  have hstep : Step C ⟨C.H.set fr (.obj ob), C.m.set fr (some (C.w.heap.size, 0)), C.w.alloc x, C.prot⟩ := by
    refine ⟨rfl, rfl, rfl, rfl, by simp, by simp, fun b hb _ => hheap b hb, fun b c0 e0 f0 hb => ⟨c0, f0, (hheap b (lt_of_heap hb)).trans hb, rfl⟩, ?_, ?_, ?_, ?_⟩
    · rintro b (⟨id, nil, sz', els', base, h1, h2⟩ | ⟨id, o, h1, h0, h2⟩)
      · by_cases hid : id = fr
        · subst hid
          simp only [set_get_eq hfrl] at h1
          simp at h1
        · simp only [set_get_ne (Ne.symm hid)] at h1 h2
          exact .inl (.inl ⟨id, nil, sz', els', base, h1, h2⟩)
      · by_cases hid : id = fr
        · subst hid
          simp only [set_get_eq hfrm, Option.some.injEq, Prod.mk.injEq] at h2
          exact .inr (by omega)
        · simp only [set_get_ne (Ne.symm hid)] at h1 h2
          exact .inl (.inr ⟨id, o, h1, h0, h2⟩)
    · intro id B hB hr
      have hid : fr ≠ id := by rintro rfl; rw [hfr] at hB; exact hr (Option.some.inj hB).symm
      refine ⟨⟨B, by simp only [set_get_ne hid]; exact hB, hr⟩, fun own' nil' sz' els' h => ?_⟩
      simp only [set_get_ne hid] at h ⊢
      exact ⟨own', els', by rw [hB] at h; exact Option.some.inj h, rfl, fun h => h, trivial⟩
    · intro id o ho
      have hid : fr ≠ id := by rintro rfl; rw [hfr] at ho; simp at ho
      exact ⟨o, by simp only [set_get_ne hid]; exact ho, by simp only [set_get_ne hid], rfl⟩
    · intro id o B ho hB hr
      have hid : fr ≠ id := by rintro rfl; rw [hfr] at hB; exact hr (Option.some.inj hB).symm
      simp only [set_get_ne hid] at ho
      rw [hB] at ho
      exact ⟨o, Option.some.inj ho⟩
  refine ⟨hstep, ⟨by simp [hR.len], ?_, ?_, fun b hb => by have := hR.prot b hb; simp; omega, ?_, ?_, ?_⟩⟩
  · intro id own nil sz' els' h
    by_cases hid : id = fr
    · subst hid
      simp only [set_get_eq hfrl] at h
      simp at h
    · simp only [set_get_ne (Ne.symm hid)] at h ⊢
      rcases hR.blk id own nil sz' els' h with h1 | ⟨hn, b, base, c0, e0, h1, h2, h3, h4⟩
      · exact .inl h1
      · have hlt := lt_of_heap h3
        exact .inr ⟨hn, b, base, c0, e0, h1, h2, (hheap b hlt).trans h3, RowsAt.keep hstep els' b base sz' (fun o _ _ => World.cell?_of_block (w := C.w) (hheap b hlt)) h4⟩
  · intro id id' nil sz1 els1 own' nil' sz2 els2 b base base' hne h1 h2 h3 h4
    by_cases hid : id = fr
    · subst hid
      simp only [set_get_eq hfrl] at h1
      simp at h1
    · by_cases hid' : id' = fr
      · subst hid'
        simp only [set_get_eq hfrl] at h2
        simp at h2
      · simp only [set_get_ne (Ne.symm hid), set_get_ne (Ne.symm hid')] at h1 h2 h3 h4
        exact hR.inj id id' nil sz1 els1 own' nil' sz2 els2 b base base' hne h1 h2 h3 h4
  · intro id o ho hx0
    by_cases hid : id = fr
    · subst hid
      simp only [set_get_eq hfrl, Option.some.injEq, Blk.obj.injEq] at ho
      subst ho
      exact ⟨C.w.heap.size, x, by simp [set_get_eq hfrm], fun hp => by have := hR.prot _ hp; omega, hnew, hx⟩
    · simp only [set_get_ne (Ne.symm hid)] at ho ⊢
      obtain ⟨b, y, h1, h2, h3, h4⟩ := hR.obj id o ho hx0
      exact ⟨b, y, h1, h2, (hheap b (lt_of_heap h3)).trans h3, h4⟩
  · intro id id' o o' b base base' hne hx1 hx2 h1 h2 h3 h4
    have hb : ∀ k o base, o ≠ .lpx → k ≠ fr → C.H[k]? = some (Blk.obj o) → C.m[k]? = some (some (b, base)) → b < C.w.heap.size := fun k o base hx _ h1 h2 => by
      obtain ⟨b', y, h5, _, h6, _⟩ := hR.obj k o h1 hx
      rw [h2] at h5; simp at h5; obtain ⟨rfl, _⟩ := h5; exact lt_of_heap h6
    by_cases hid : id = fr
    · subst hid
      simp only [set_get_eq hfrm, Option.some.injEq, Prod.mk.injEq] at h3
      simp only [set_get_ne hne] at h2 h4
      have := hb id' o' base' hx2 (Ne.symm hne) h2 h4
      omega
    · simp only [set_get_ne (Ne.symm hid)] at h1 h3
      by_cases hid' : id' = fr
      · subst hid'
        simp only [set_get_eq hfrm, Option.some.injEq, Prod.mk.injEq] at h4
        have := hb id o base hx1 hid h1 h3
        omega
      · simp only [set_get_ne (Ne.symm hid')] at h2 h4
        exact hR.oinj id id' o o' b base base' hne hx1 hx2 h1 h2 h3 h4
  · intro id r s ho t
    by_cases hid : id = fr
    · subst hid
      simp only [set_get_eq hfrl, Option.some.injEq, Blk.obj.injEq] at ho
      exact Conc.mono hstep _ _ (hlp r s ho t)
    · simp only [set_get_ne (Ne.symm hid)] at ho
      exact Conc.mono hstep _ _ (hR.lps id r s ho t)

/-- a block of another make is turned -/
theorem setO_ok (hR : HeapRel C) {id b : Nat} {ob ob' : Ob} {x x' : Obj} (hnx : ob ≠ .lpx) (hnx' : ob' ≠ .lpx) (hid : C.H[id]? = some (.obj ob)) (hm : C.m[id]? = some (some (b, 0))) (hx : C.w.heap[b]? = some x) (hox : ob.is x) (hx' : ob'.is x') (hkey : ob'.key = ob.key) (hlp : ∀ r s, ob' = .lp r s → ∀ t, Conc C (look s t) (r.tmps.getD t undef)) {w' : World}
    (hos : w'.os = C.w.os) (htape : w'.tape = C.w.tape) (hout : w'.output = C.w.output) (hheap : w'.heap = C.w.heap.setIfInBounds b x') :
    Step C ⟨C.H.set id (.obj ob'), C.m, w', C.prot⟩ ∧ HeapRel ⟨C.H.set id (.obj ob'), C.m, w', C.prot⟩ := by
  have hl := lt_of_get hid
  have hbl := lt_of_heap hx
  have hown : C.own b := .inr ⟨id, ob, hid, hnx, hm⟩
  have hoth : ∀ k, k ≠ b → w'.heap[k]? = C.w.heap[k]? := fun k hk => by rw [hheap]; simp [Array.getElem?_setIfInBounds, Ne.symm hk]
  have hhere : w'.heap[b]? = some x' := by rw [hheap]; simp [hbl]
  have hcell : ∀ k c e f, C.w.heap[k]? = some (Obj.cells c e f) → w'.heap[k]? = some (Obj.cells c e f) := fun k c e f h => by
    have : k ≠ b := by rintro rfl; rw [hx] at h; obtain rfl := Option.some.inj h; exact Ob.not_cells hox
    exact (hoth k this).trans h
  have hstep : Step C ⟨C.H.set id (.obj ob'), C.m, w', C.prot⟩ := by
    refine ⟨hos, htape, hout, rfl, by simp [hheap], by simp, fun k _ hk => hoth k (fun h => hk (h ▸ hown)), fun k c e f h => ⟨c, f, hcell k c e f h, rfl⟩, ?_, ?_, ?_, ?_⟩
    · rintro k (⟨i, n, sz', els', base, h1, h2⟩ | ⟨i, o, h1, h0, h2⟩)
      · by_cases hk : i = id
        · subst hk
          simp only [set_get_eq hl] at h1
          simp at h1
        · simp only [set_get_ne (Ne.symm hk)] at h1
          exact .inl (.inl ⟨i, n, sz', els', base, h1, h2⟩)
      · by_cases hk : i = id
        · subst hk
          exact .inl (.inr ⟨_, ob, hid, hnx, h2⟩)
        · simp only [set_get_ne (Ne.symm hk)] at h1
          exact .inl (.inr ⟨i, o, h1, h0, h2⟩)
    · intro k K hK hr
      by_cases hk : k = id
      · subst hk
        refine ⟨⟨.obj ob', by simp [set_get_eq hl], by simp⟩, fun own' nil' sz' els' h => ?_⟩
        simp only [set_get_eq hl] at h
        simp at h
      · refine ⟨⟨K, by simp only [set_get_ne (Ne.symm hk)]; exact hK, hr⟩, fun own' nil' sz' els' h => ?_⟩
        simp only [set_get_ne (Ne.symm hk)] at h
        exact ⟨own', els', by rw [hK] at h; exact Option.some.inj h, rfl, fun h => h, rfl⟩
    · intro k o ho
      by_cases hk : k = id
      · subst hk
        rw [hid] at ho
        simp at ho
        subst ho
        exact ⟨ob', by simp [set_get_eq hl], rfl, hkey⟩
      · exact ⟨o, by simp only [set_get_ne (Ne.symm hk)]; exact ho, rfl, rfl⟩
    · intro k o B ho hB hr
      by_cases hk : k = id
      · subst hk
        rw [hid] at hB
        exact ⟨ob, (Option.some.inj hB).symm⟩
      · simp only [set_get_ne (Ne.symm hk)] at ho
        rw [hB] at ho
        exact ⟨o, Option.some.inj ho⟩
  refine ⟨hstep, ⟨by simp [hR.len], ?_, ?_, fun k hk => by have := hR.prot k hk; simp [hheap]; omega, ?_, ?_, ?_⟩⟩
  · intro k own nil sz' els' h
    by_cases hk : k = id
    · subst hk
      simp only [set_get_eq hl] at h
      simp at h
    · simp only [set_get_ne (Ne.symm hk)] at h
      rcases hR.blk k own nil sz' els' h with h1 | ⟨hn, b2, base, c0, e0, h1, h2, h3, h4⟩
      · exact .inl h1
      · have hh := hcell _ _ _ _ h3
        exact .inr ⟨hn, b2, base, c0, e0, h1, h2, hh, RowsAt.keep hstep els' b2 base sz' (fun o _ _ => World.cell?_of_block (w := C.w) (hh.trans h3.symm)) h4⟩
  · intro k k' nil sz1 els1 own' nil' sz2 els2 b2 base base' hne h1 h2 h3 h4
    by_cases hk : k = id
    · subst hk
      simp only [set_get_eq hl] at h1
      simp at h1
    · by_cases hk' : k' = id
      · subst hk'
        simp only [set_get_eq hl] at h2
        simp at h2
      · simp only [set_get_ne (Ne.symm hk), set_get_ne (Ne.symm hk')] at h1 h2
        exact hR.inj k k' nil sz1 els1 own' nil' sz2 els2 b2 base base' hne h1 h2 h3 h4
  · intro k o ho hx0
    by_cases hk : k = id
    · subst hk
      simp only [set_get_eq hl, Option.some.injEq, Blk.obj.injEq] at ho
      subst ho
      obtain ⟨b', y, h1, h2, _⟩ := hR.obj k ob hid hnx
      rw [hm] at h1
      simp at h1
      subst h1
      exact ⟨b, x', hm, h2, hhere, hx'⟩
    · simp only [set_get_ne (Ne.symm hk)] at ho
      obtain ⟨b', y, h1, h2, h3, h4⟩ := hR.obj k o ho hx0
      have : b' ≠ b := by
        rintro rfl
        exact hR.oinj k id o ob b' 0 0 hk hx0 hnx ho hid h1 hm
      exact ⟨b', y, h1, h2, (hoth b' this).trans h3, h4⟩
  · intro k k' o o' b2 base base' hne hx1 hx2 h1 h2 h3 h4
    have hget : ∀ k o, o ≠ .lpx → (C.H.set id (.obj ob'))[k]? = some (Blk.obj o) → ∃ o', o' ≠ .lpx ∧ C.H[k]? = some (Blk.obj o') := fun k o hx h => by
      by_cases hk : k = id
      · subst hk; exact ⟨ob, hnx, hid⟩
      · rw [List.getElem?_set_ne (Ne.symm hk)] at h; exact ⟨o, hx, h⟩
    obtain ⟨q, hq, h1'⟩ := hget k o hx1 h1
    obtain ⟨q', hq', h2'⟩ := hget k' o' hx2 h2
    exact hR.oinj k k' q q' b2 base base' hne hq hq' h1' h2' h3 h4
  · intro k r s ho t
    by_cases hk : k = id
    · subst hk
      simp only [set_get_eq hl, Option.some.injEq, Blk.obj.injEq] at ho
      exact Conc.mono hstep _ _ (hlp r s ho t)
    · rw [List.getElem?_set_ne (Ne.symm hk)] at ho
      exact Conc.mono hstep _ _ (hR.lps k r s ho t)

theorem ok_mkmap (hR : HeapRel C) {t : TypeId} {kd : KD} (ho : o.op = .makeMap t none) (hfr : C.H[fr]? = some .resv)
    (h : aop fr s (hget C.H) (.mkmap kd) = some (v, ws)) : OpOk P C a o v ws := by
  simp only [aop, Option.some.injEq, Prod.mk.injEq] at h
  obtain ⟨rfl, rfl⟩ := h
  obtain ⟨h2, h3⟩ := allocO_ok hR hfr (ob := .smap kd []) (x := .map #[] 0) ⟨rfl, by simp⟩ (fun _ _ h => by simp at h)
  refine ⟨.map (some C.w.heap.size), _, _, .inl ?_, h2, h3, ?_⟩
  · simp [execOp, ho, Instr.makeMap]
  · simp only [Conc, writes, set_get_eq (lt_of_get hfr), set_get_eq (show fr < C.m.length by rw [hR.len]; exact lt_of_get hfr)]
    exact ⟨_, rfl, rfl⟩

theorem hget_obj {H : List Blk} {id : Nat} {o : Ob} (h : hget H id = .obj o) : H[id]? = some (.obj o) := by
  unfold hget at h
  cases hh : H[id]? with
  | none => rw [hh] at h; simp at h
  | some B => rw [hh] at h; simp at h; rw [h]

theorem mp_at (hR : HeapRel C) (hS : Slots C s a) {x : Operand} {id : Nat} {kd : KD} {es : List (Value × Value)} (hx : ev s (opd x) = .mp id) (hh : hget C.H id = .obj (.smap kd es)) :
    ∃ b es' clock, C.m[id]? = some (some (b, 0)) ∧ a.eval x = .map (some b) ∧ C.w.heap[b]? = some (.map es' clock) ∧ es'.toList.map (fun e => (e.key, e.val)) = es ∧ ∀ e ∈ es'.toList, keyIs kd e.key = true := by
  have hc := hS.ev x
  rw [hx] at hc
  have hH := hget_obj hh
  simp only [Conc, hH] at hc
  obtain ⟨b, h1, h2⟩ := hc
  obtain ⟨b', y, h3, _, h4, h5⟩ := hR.obj id _ hH (by simp)
  rw [h1] at h3
  simp at h3
  subst h3
  cases y <;> try exact h5.elim
  rename_i es' clock
  exact ⟨b, es', clock, h1, h2, h4, h5.1, h5.2⟩

theorem ok_mlook (hR : HeapRel C) (hS : Slots C s a) {t k e : TypeId} {x y : Operand} {ok : Bool} {kd : KD} {z : Value} (ho : o.op = .lookup t x y ok) (ht : P.underlying t = some (.map k e)) (hk : kdOf P k = some kd) (hz : ∀ w, (zeroValue e).run P w = .ok z w)
    (h : aop fr s (hget C.H) (.mlook kd ok z (opd x) (opd y)) = some (v, ws)) : OpOk P C a o v ws := by
  simp only [aop] at h
  split at h
  · rename_i key hkey
    split at h
    · rename_i id hx
      split at h
      · rename_i kd' es hh
        split at h
        · rename_i hc
          obtain ⟨hsame, hki⟩ := hc
          obtain rfl := KD.same_eq hsame
          obtain ⟨b, es', clock, hm, hev, hheap, hes, hks⟩ := mp_at hR hS hx hh
          have hkv := hS.lit hkey
          have hIs : ∀ q ∈ es'.toList, MapKept.IsKey kd.desc q.key := fun q hq => keyIs_isKey (hks q hq)
          have hun := kdOf_desc hk
          have hck : (Instr.checkKey es'.isEmpty 10000 k key).run P C.w = .ok () C.w := MapKept.run_checkKey hun (keyIs_isKey hki) _ 9999
          have hks' : ∀ q ∈ es, keyIs kd q.1 = true := fun q hq => by
            rw [← hes] at hq
            obtain ⟨q', h1, rfl⟩ := List.mem_map.1 hq
            exact hks q' h1
          rcases findNow_first (keyIs_isKey hki) es'.toList 0 hIs with ⟨h1, h2⟩ | ⟨j, q, h1, h2, h3, h4⟩
          · have hnone := (mfind_none hki hks' (fun q hq => by
              rw [← hes] at hq
              obtain ⟨q', h5, rfl⟩ := List.mem_map.1 hq
              exact h2 q' h5)).1
            rw [hnone] at h
            simp only [Option.some.injEq, Prod.mk.injEq] at h
            obtain ⟨rfl, rfl⟩ := h
            refine OpOk.same (u := if ok then .tuple #[z, .bool false] else z) hR ?_ ?_
            · simp [execOp, ho, Instr.lookup, run_underlying ht, hev, hkv, MapKept.run_getObj_map hheap, hck, MapKept.run_findKey hun h1, hz, Result.andThen]
            · cases ok <;> simp [Conc, ConcL, boolV]
          · have hsome := (mfind_some (l := es) (j := j) (a := q.key) (u := q.val) hki hks' (by rw [← hes]; simp [h2]) h3 (fun i hi q2 hq2 => by
              rw [← hes] at hq2
              simp at hq2
              obtain ⟨q3, h5, rfl⟩ := hq2
              exact h4 i hi q3 (by simpa using h5))).1
            rw [hsome] at h
            simp only [Option.some.injEq, Prod.mk.injEq] at h
            obtain ⟨rfl, rfl⟩ := h
            refine OpOk.same (u := if ok then .tuple #[q.val, .bool true] else q.val) hR ?_ ?_
            · simp [execOp, ho, Instr.lookup, run_underlying ht, hev, hkv, MapKept.run_getObj_map hheap, hck, MapKept.run_findKey hun h1, Result.andThen]
            · cases ok <;> simp [Conc, ConcL, boolV]
        · simp at h
      · simp at h
    · simp at h
  · simp at h

theorem ok_mset (hR : HeapRel C) (hS : Slots C s a) {t k e : TypeId} {x y z : Operand} {kd : KD} (ho : o.op = .mapUpdate t x y z) (ht : P.underlying t = some (.map k e)) (hk : kdOf P k = some kd)
    (h : aop fr s (hget C.H) (.mset kd (opd x) (opd y) (opd z)) = some (v, ws)) : OpOk P C a o v ws := by
  simp only [aop] at h
  split at h
  · rename_i key val hkey hval
    split at h
    · rename_i id hx
      split at h
      · rename_i kd' es hh
        split at h
        · rename_i hc
          obtain ⟨hsame, hki⟩ := hc
          obtain rfl := KD.same_eq hsame
          simp only [Option.some.injEq, Prod.mk.injEq] at h
          obtain ⟨rfl, rfl⟩ := h
          obtain ⟨b, es', clock, hm, hev, hheap, hes, hks⟩ := mp_at hR hS hx hh
          have hkv := hS.lit hkey
          have hvv := hS.lit hval
          have hIs : ∀ q ∈ es'.toList, MapKept.IsKey kd.desc q.key := fun q hq => keyIs_isKey (hks q hq)
          have hun := kdOf_desc hk
          have hck : (Instr.checkKey false 10000 k key).run P C.w = .ok () C.w := MapKept.run_checkKey hun (keyIs_isKey hki) _ 9999
          have hks' : ∀ q ∈ es, keyIs kd q.1 = true := fun q hq => by
            rw [← hes] at hq
            obtain ⟨q', h1, rfl⟩ := List.mem_map.1 hq
            exact hks q' h1
          rcases findNow_first (keyIs_isKey hki) es'.toList 0 hIs with ⟨h1, h2⟩ | ⟨j, q, h1, h2, h3, h4⟩
          · have hput := (mfind_none hki hks' (fun q hq => by
              rw [← hes] at hq
              obtain ⟨q', h5, rfl⟩ := List.mem_map.1 hq
              exact h2 q' h5)).2 val
            obtain ⟨g1, g2⟩ := setO_ok hR (hnx := by simp) (hnx' := by simp) (ob' := .smap kd (mput key val es)) (x' := .map (es'.push { key, val, born := clock }) (clock + 1)) (w' := { C.w with heap := C.w.heap.setIfInBounds b (.map (es'.push { key, val, born := clock }) (clock + 1)) }) (hget_obj hh) hm hheap ⟨hes, hks⟩
              ⟨by rw [hput, ← hes]; simp, fun q hq => by
                simp only [Array.toList_push, List.mem_append, List.mem_singleton] at hq
                rcases hq with hq | rfl
                · exact hks q hq
                · exact hki⟩ rfl (fun _ _ h => by simp at h) rfl rfl rfl rfl
            refine ⟨undef, _, _, .inr ⟨?_, rfl⟩, g1, g2, rfl⟩
            simp [execOp, ho, Instr.mapUpdate, run_underlying ht, hev, hkv, hvv, MapKept.run_getObj_map hheap, hck, MapKept.run_findKey hun h1, MapKept.run_setObj_map _ hheap, Result.andThen]
          · have hput := (mfind_some (l := es) (j := j) (a := q.key) (u := q.val) hki hks' (by rw [← hes]; simp [h2]) h3 (fun i hi q2 hq2 => by
              rw [← hes] at hq2
              simp at hq2
              obtain ⟨q3, h5, rfl⟩ := hq2
              exact h4 i hi q3 (by simpa using h5))).2 val
            have hmod : (es'.modify j fun e => { e with key, val }).toList.map (fun e => (e.key, e.val)) = es.set j (key, val) := by
              rw [← hes]
              apply List.ext_getElem?
              intro i
              by_cases hij : i = j
              · subst hij
                have : i < es'.size := by have := lt_of_get h2; simpa using this
                simp [Array.getElem?_modify, List.getElem?_set, this]
              · simp [Array.getElem?_modify, List.getElem?_set, Ne.symm hij]
            have hjk : es'[j]? = some q := by simpa using h2
            obtain ⟨g1, g2⟩ := setO_ok hR (hnx := by simp) (hnx' := by simp) (ob' := .smap kd (mput key val es)) (x' := .map (es'.modify j fun e => { e with key, val }) clock) (w' := { C.w with heap := C.w.heap.setIfInBounds b (.map (es'.modify j fun e => { e with key, val }) clock) }) (hget_obj hh) hm hheap ⟨hes, hks⟩
              ⟨by rw [hput]; exact hmod, fun q2 hq2 => by
                obtain ⟨i, hi⟩ := List.mem_iff_getElem?.1 hq2
                simp only [Array.getElem?_toList, Array.getElem?_modify] at hi
                split at hi
                · simp at hi
                  obtain ⟨q3, _, rfl⟩ := hi
                  exact hki
                · exact hks q2 (by rw [List.mem_iff_getElem?]; exact ⟨i, by simpa using hi⟩)⟩ rfl (fun _ _ h => by simp at h) rfl rfl rfl rfl
            refine ⟨undef, _, _, .inr ⟨?_, rfl⟩, g1, g2, rfl⟩
            have hstays : (Instr.keyThatStays q.key key).run P C.w = .ok key C.w := by rw [h3]; exact MapKept.run_keyThatStays (keyIs_isKey hki)
            simp [execOp, ho, Instr.mapUpdate, run_underlying ht, hev, hkv, hvv, MapKept.run_getObj_map hheap, hck, MapKept.run_findKey hun h1, hjk, hstays, MapKept.run_setObj_map _ hheap, Result.andThen]
        · simp at h
      · simp at h
    · simp at h
  · simp at h
end
end Go.Abs
