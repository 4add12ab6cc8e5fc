/- Operations that make or write memory. -/
import Derived.Test.YtodheeifecoebaaAbs7
import Derived.Deep.Upon
import Derived.Laws.IdiomCopy
set_option linter.all false
set_option linter.unusedVariables false
set_option linter.unusedSimpArgs false
set_option linter.unusedSectionVars false
namespace Go.Abs
open Go.RowKit
section
variable {P : Program} {C : Ctx} {s : Nat → AV} {a : Act} {o : Oper} {v : AV} {ws : List (Nat × Blk)} {fr : Nat}

/-! parts laid into cells -/
theorem foldl_set (vs : List Value) : ∀ (k off : Nat) (cells : Array Value), off + k + vs.length ≤ cells.size →
    ((vs.zipIdx k).foldl (fun cs (x : Value × Nat) => cs.setIfInBounds (off + x.2) x.1) cells).toList = cells.toList.take (off + k) ++ vs ++ cells.toList.drop (off + k + vs.length) := by
  induction vs with
  | nil => intro k off cells _; simp
  | cons v vs ih =>
    intro k off cells h
    simp only [List.length_cons] at h
    simp only [List.zipIdx_cons, List.foldl_cons]
    rw [ih (k + 1) off _ (by simp; omega)]
    have hk : off + k < cells.toList.length := by simp; omega
    rw [Array.toList_setIfInBounds]
    have ht : (cells.toList.set (off + k) v).take (off + (k + 1)) = cells.toList.take (off + k) ++ [v] := by
      rw [List.set_eq_take_append_cons_drop, if_pos hk, ← Nat.add_assoc, List.take_append]
      have hl : (cells.toList.take (off + k)).length = off + k := by simp; omega
      rw [hl, List.take_of_length_le (by omega), show off + k + 1 - (off + k) = 1 by omega]
      rfl
    rw [ht, List.drop_set_of_lt (by omega)]
    simp only [List.append_assoc, List.cons_append, List.length_cons]
    rw [show off + (k + 1) + vs.length = off + k + (vs.length + 1) by omega]
    rfl

theorem fill_ok {place : Nat → Option (Nat × Nat)} : ∀ {pc : List (Nat × Value)} {pa : List (Nat × Nat × AV)} {cells : Array Value} {ca cs' : List AV},
    pa.length = pc.length → (∀ (k : Nat) i u off n x, pc[k]? = some (i, u) → pa[k]? = some (off, n, x) → place i = some (off, n) ∧ Conc C x u) → ConcL C ca cells.toList → fillA ca pa = some cs' →
    ∃ cells', Instr.fill place cells pc = some cells' ∧ ConcL C cs' cells'.toList
  | [], [], cells, ca, cs', _, _, hl, h => by
    simp only [fillA, Option.some.injEq] at h
    subst h
    exact ⟨cells, rfl, hl⟩
  | [], _ :: _, _, _, _, hlen, _, _, _ => by simp at hlen
  | _ :: _, [], _, _, _, hlen, _, _, _ => by simp at hlen
  | (i, u) :: pc, (off, n, x) :: pa, cells, ca, cs', hlen, hp, hl, h => by
    obtain ⟨hpl, hx⟩ := hp 0 i u off n x (by simp) (by simp)
    simp only [fillA] at h
    split at h
    · rename_i hc
      obtain ⟨h1, h2, h3⟩ := hc
      have hparts := conc_parts hx h3
      have hsz : u.cells.size = n := by have := hparts.length; simpa [h1] using this
      have hca : cells.size = ca.length := by have := hl.length; simpa using this
      have hf := foldl_set u.cells.toList 0 off cells (by simp; omega)
      simp only [Instr.fill, hpl]
      rw [if_neg (by simp [hsz]; omega)]
      refine fill_ok (by simpa using hlen) (fun k i' u' off' n' x' a b => hp (k + 1) i' u' off' n' x' (by simpa using a) (by simpa using b)) ?_ h
      have e : (u.cells.zipIdx.foldl (fun cs x => cs.setIfInBounds (off + x.2) x.1) cells).toList = cells.toList.take off ++ u.cells.toList ++ cells.toList.drop (off + u.cells.toList.length) := by
        rw [← Array.foldl_toList, Array.toList_zipIdx]
        simpa using hf
      have e' : (u.cells.zipIdx.foldl (fun cs (c, j) => cs.setIfInBounds (off + j) c) cells) = (u.cells.zipIdx.foldl (fun cs x => cs.setIfInBounds (off + x.2) x.1) cells) := rfl
      rw [e', e]
      unfold putCells
      have hk : u.cells.toList.length = x.parts.length := hparts.length
      rw [hk]
      exact ConcL.append (ConcL.append (hl.take off) hparts) (hl.drop _)
    · simp at h

theorem zeroT_spec {t : TypeId} {zero : List AV} (h : zeroT P t = some zero) : ∃ i z, P.info? t = some i ∧ i.zero = some z ∧ zero = z.cells.toList.map ofValue := by
  unfold zeroT at h
  simp only [Option.bind_eq_some_iff, Option.map_eq_some_iff] at h
  obtain ⟨i, hi, z, hz, rfl⟩ := h
  exact ⟨i, z, hi, hz, rfl⟩

theorem ok_build_of (hR : HeapRel C) {t : TypeId} {parts : Array (Nat × Operand)} {cells : Array Value} {cs : List AV} (ho : o.op = .build t parts) (hb : P.built t (parts.toList.map fun (i, x) => (i, a.eval x)) = some cells) (hl : ConcL C cs cells.toList) : OpOk P C a o (mkAgg cs) [] := by
  refine OpOk.same hR (u := .agg cells) ?_ (by simpa using conc_mkAgg hl)
  have : (parts.map fun (i, x) => (i, a.eval x)).toList = parts.toList.map fun (i, x) => (i, a.eval x) := by simp
  have hb' := run_build (P := P) C.w t (parts.map fun (i, x) => (i, a.eval x)) cells (by rw [this]; exact hb)
  simp only [execOp, ho, Sem.run_bind, hb', Result.andThen_ok, Sem.run_pure]

theorem places_of : ∀ {fs : List Field} {places : List (Nat × Nat)}, fs.mapM (fun f => (P.info? f.type).map fun i => (f.offset, i.size)) = some places → ∀ (i : Nat) f, fs[i]? = some f → ∃ n, sizeT P f.type = some n ∧ places[i]? = some (f.offset, n)
  | [], places, h, i, f, hf => by simp at hf
  | g :: fs, places, h, i, f, hf => by
    simp only [List.mapM_cons, Option.bind_eq_bind, Option.pure_def] at h
    cases hg : P.info? g.type with
    | none => simp [hg] at h
    | some ig =>
      cases hr : fs.mapM (fun f => (P.info? f.type).map fun i => (f.offset, i.size)) with
      | none => simp [hg, hr] at h
      | some rest =>
        simp [hg, hr] at h
        subst h
        cases i with
        | zero => simp at hf; subst hf; exact ⟨ig.size, by simp [sizeT, hg], by simp⟩
        | succ i => simp at hf ⊢; exact places_of hr i f hf

/-- the places of a struct's or an array's parts -/
def placeT (P : Program) (t : TypeId) (i : Nat) : Option (Nat × Nat) :=
  match P.underlying t with
  | some (.struct fs) => (fs[i]?).bind fun f => (sizeT P f.type).map fun n => (f.offset, n)
  | some (.array _ e) => (sizeT P e).map fun n => (i * n, n)
  | _ => none
def placesOk (P : Program) (t : TypeId) : Bool :=
  match P.underlying t with
  | some (.struct fs) => (fs.toList.mapM fun f => (P.info? f.type).map fun i => (f.offset, i.size)).isSome
  | some (.array _ e) => (P.info? e).isSome
  | _ => false
def resolveParts (place : Nat → Option (Nat × Nat)) : List (Nat × Operand) → Option (List (Nat × Nat × Opd))
  | [] => some []
  | (i, x) :: r => (place i).bind fun (off, n) => (resolveParts place r).map ((off, n, opd x) :: ·)
theorem resolve_len {place : Nat → Option (Nat × Nat)} : ∀ {l : List (Nat × Operand)} {r : List (Nat × Nat × Opd)}, resolveParts place l = some r → r.length = l.length
  | [], r, h => by simp [resolveParts] at h; subst h; rfl
  | (i, x) :: l, r, h => by
    simp only [resolveParts, Option.bind_eq_some_iff, Option.map_eq_some_iff] at h
    obtain ⟨⟨off, n⟩, _, r', hr, rfl⟩ := h
    simp [resolve_len hr]
theorem resolve_get {place : Nat → Option (Nat × Nat)} : ∀ {l : List (Nat × Operand)} {r : List (Nat × Nat × Opd)}, resolveParts place l = some r → ∀ (k : Nat) i x, l[k]? = some (i, x) → ∃ off n, place i = some (off, n) ∧ r[k]? = some (off, n, opd x)
  | [], r, h, k, i, x, hk => by simp at hk
  | (i0, x0) :: l, r, h, k, i, x, hk => by
    simp only [resolveParts, Option.bind_eq_some_iff, Option.map_eq_some_iff] at h
    obtain ⟨⟨off, n⟩, hp, r', hr, rfl⟩ := h
    cases k with
    | zero => simp at hk; obtain ⟨rfl, rfl⟩ := hk; exact ⟨off, n, hp, by simp⟩
    | succ k => simp at hk ⊢; exact resolve_get hr k i x hk

theorem fill_resolved (hS : Slots C s a) {place : Nat → Option (Nat × Nat)} {parts : List (Nat × Operand)} {pr : List (Nat × Nat × Opd)} (hpr : resolveParts place parts = some pr) {cells : Array Value} {ca cs' : List AV} (hl : ConcL C ca cells.toList)
    (h : fillA ca (pr.map fun (o, n, x) => (o, n, Abs.ev s x)) = some cs') : ∃ cells', Instr.fill place cells (parts.map fun (i, x) => (i, a.eval x)) = some cells' ∧ ConcL C cs' cells'.toList := by
  refine fill_ok (by simp [resolve_len hpr]) ?_ hl h
  intro k i u off n x h1 h2
  simp only [List.getElem?_map, Option.map_eq_some_iff, Prod.mk.injEq] at h1 h2
  obtain ⟨⟨i', x'⟩, h3, rfl, rfl⟩ := h1
  obtain ⟨⟨o', n', x2⟩, h4, rfl, rfl, rfl⟩ := h2
  obtain ⟨off', n2, h5, h6⟩ := resolve_get hpr k _ _ h3
  rw [h4] at h6
  simp at h6
  obtain ⟨rfl, rfl, rfl⟩ := h6
  exact ⟨h5, hS.ev x'⟩

theorem ok_build (hR : HeapRel C) (hS : Slots C s a) {t : TypeId} {parts : Array (Nat × Operand)} {zero : List AV} {pr : List (Nat × Nat × Opd)} (ho : o.op = .build t parts) (hz : zeroT P t = some zero) (hp : placesOk P t = true) (hpr : resolveParts (placeT P t) parts.toList = some pr)
    (h : aop fr s (hget C.H) (.build zero pr) = some (v, ws)) : OpOk P C a o v ws := by
  simp only [aop, Option.map_eq_some_iff, Prod.mk.injEq] at h
  obtain ⟨cs, hcs, rfl, rfl⟩ := h
  obtain ⟨it, z, hi, hzv, rfl⟩ := zeroT_spec hz
  obtain ⟨cells', h1, h2⟩ := fill_resolved hS hpr (concL_ofValue C z.cells.toList) hcs
  refine ok_build_of hR ho ?_ h2
  unfold Program.built
  unfold placesOk at hp
  cases hu : P.underlying t with
  | none => simp [hu] at hp
  | some d =>
    cases d with
    | struct fs =>
      simp only [hu] at hp
      obtain ⟨places, hpl⟩ := Option.isSome_iff_exists.1 hp
      simp only [hi, hzv, hpl]
      rw [← h1]
      congr 1
      funext i
      simp only [placeT, hu]
      cases hf : fs[i]? with
      | none =>
        have hlen : places.length = fs.size := by
          have : ∀ {fs : List Field} {pl : List (Nat × Nat)}, fs.mapM (fun f => (P.info? f.type).map fun i => (f.offset, i.size)) = some pl → pl.length = fs.length := by
            intro fs
            induction fs with
            | nil => intro pl h; simp at h; subst h; rfl
            | cons g fs ih =>
              intro pl h
              simp only [List.mapM_cons, Option.bind_eq_bind, Option.pure_def] at h
              cases hg : P.info? g.type with
              | none => simp [hg] at h
              | some ig =>
                cases hr : fs.mapM (fun f => (P.info? f.type).map fun i => (f.offset, i.size)) with
                | none => simp [hg, hr] at h
                | some rest => simp [hg, hr] at h; subst h; simp [ih hr]
          simpa using this hpl
        have : fs.size ≤ i := by simpa using hf
        simp [Array.getElem?_eq_none (by simpa [hlen] using this : places.toArray.size ≤ i)]
      | some f =>
        obtain ⟨n, hn, hpi⟩ := places_of hpl i f (by simpa using hf)
        simp [hn, hpi]
    | array n e =>
      simp only [hu] at hp
      obtain ⟨ie, hie⟩ := Option.isSome_iff_exists.1 hp
      simp only [hi, hzv, hie]
      rw [← h1]
      congr 1
      funext i
      simp [placeT, hu, sizeT, hie]
    | _ => simp [hu] at hp

/-! new blocks -/
theorem rows_new {C' : Ctx} (hs : Step C C') {w1 : World} {c : Array Value} {e : TypeId} (hw1 : w1.heap.size = C.w.heap.size) (hw : C'.w = w1.alloc (.cells c e)) {off : Nat} {cs : List AV} {us : List Value} (hl : ConcL C cs us) (h1 : ∀ x ∈ cs, isOne x = true)
    (hc : ∀ (j : Nat) u, us[j]? = some u → c[off + j]? = some u) : CellsAt C' C.w.heap.size off cs := by
  refine CellsAt.of_vals (ConcL.mono hs cs us hl) (fun j u hu => ?_) h1
  rw [hw, ← hw1, World.cell?_alloc_new]
  exact hc j u hu

theorem ok_alloc (hR : HeapRel C) {t : TypeId} {zero : List AV} (ho : o.op = .alloc t) (hz : zeroT P t = some zero) (h1 : zero.all isOne = true) (hfr : C.H[fr]? = some .resv)
    (h : aop fr s (hget C.H) (.alloc zero) = some (v, ws)) : OpOk P C a o v ws := by
  simp only [aop, Option.some.injEq, Prod.mk.injEq] at h
  obtain ⟨rfl, rfl⟩ := h
  obtain ⟨it, z, hi, hzv, rfl⟩ := zeroT_spec hz
  have h1' : ∀ x ∈ z.cells.toList.map ofValue, isOne x = true := List.all_eq_true.1 h1
  obtain ⟨h2, h3, h4⟩ := alloc_ok hR hfr (SameRest.refl C.w) (c := z.cells) (e := t) (sz := (z.cells.toList.map ofValue).length) (els := [z.cells.toList.map ofValue])
    (fun C' hs hw => by
      simp only [RowsAt]
      exact ⟨trivial, rows_new hs rfl hw (concL_ofValue C z.cells.toList) h1' (fun j u hu => by simpa using hu), trivial⟩)
  refine ⟨.pointer (some ⟨C.w.heap.size, 0, none⟩), _, _, .inl ?_, h2, h3, ?_⟩
  · simp [execOp, ho, Instr.alloc, zeroValue, typeInfo, hi, hzv, newVar, newRow]
  · simp only [Conc, writes, set_get_eq (lt_of_get hfr), set_get_eq (show fr < C.m.length by rw [hR.len]; exact lt_of_get hfr)]
    exact ⟨_, _, rfl, by simp⟩

theorem ok_box (hR : HeapRel C) (hS : Slots C s a) {t : TypeId} {x : Operand} {sz : Nat} (ho : o.op = .box t x) (hfr : C.H[fr]? = some .resv)
    (h : aop fr s (hget C.H) (.box sz (opd x)) = some (v, ws)) : OpOk P C a o v ws := by
  simp only [aop] at h
  split at h
  · rename_i hc
    obtain ⟨hsz, h1⟩ := hc
    simp only [Option.some.injEq, Prod.mk.injEq] at h
    obtain ⟨rfl, rfl⟩ := h
    have hparts := conc_parts (hS.ev x) h1
    obtain ⟨h2, h3, h4⟩ := alloc_ok hR hfr (SameRest.refl C.w) (c := (a.eval x).cells) (e := t) (sz := sz) (els := [(Abs.ev s (opd x)).parts])
      (fun C' hs hw => by
        simp only [RowsAt]
        exact ⟨hsz, rows_new hs rfl hw hparts (by simpa using h1) (fun j u hu => by simpa using hu), trivial⟩)
    refine ⟨.pointer (some ⟨C.w.heap.size, 0, none⟩), _, _, .inl ?_, h2, h3, ?_⟩
    · simp [execOp, ho, Instr.box, newVar, newRow]
    · simp only [Conc, writes, set_get_eq (lt_of_get hfr), set_get_eq (show fr < C.m.length by rw [hR.len]; exact lt_of_get hfr)]
      exact ⟨_, _, rfl, by simp⟩
  · simp at h

theorem rowsOf_get {sz : Nat} : ∀ {n : Nat} {cs : List AV} {i : Nat} {r : List AV}, (rowsOf sz n cs)[i]? = some r → i < n ∧ r = (cs.drop (i * sz)).take sz
  | 0, cs, i, r, h => by simp [rowsOf] at h
  | n + 1, cs, 0, r, h => by simp [rowsOf] at h; subst h; simp
  | n + 1, cs, i + 1, r, h => by
    simp only [rowsOf, List.getElem?_cons_succ] at h
    obtain ⟨h1, h2⟩ := rowsOf_get h
    refine ⟨by omega, ?_⟩
    rw [h2, List.drop_drop, Nat.add_mul, Nat.one_mul, Nat.add_comm]
theorem rowsOf_len {sz : Nat} : ∀ (n : Nat) (cs : List AV), (rowsOf sz n cs).length = n
  | 0, _ => rfl
  | n + 1, cs => by simp [rowsOf, rowsOf_len n]

theorem fillA_keeps : ∀ {pa : List (Nat × Nat × AV)} {ca cs : List AV}, fillA ca pa = some cs → (∀ x ∈ ca, isOne x = true) → cs.length = ca.length ∧ ∀ x ∈ cs, isOne x = true := by
  intro pa
  induction pa with
  | nil => intro ca cs h hh; simp [fillA] at h; subst h; exact ⟨rfl, hh⟩
  | cons p pa ih =>
    intro ca cs h hh
    obtain ⟨off, n, x⟩ := p
    simp only [fillA] at h
    split at h
    · rename_i hc
      have hl : (putCells ca off x.parts).length = ca.length := by simp [putCells]; omega
      have ho : ∀ y ∈ putCells ca off x.parts, isOne y = true := by
        intro y hy
        simp only [putCells, List.mem_append] at hy
        rcases hy with (hy | hy) | hy
        · exact hh y (List.mem_of_mem_take hy)
        · exact List.all_eq_true.1 hc.2.2 y hy
        · exact hh y (List.mem_of_mem_drop hy)
      have := ih h ho
      exact ⟨this.1.trans hl, this.2⟩
    · simp at h

theorem madeCells_flat (z : Array Value) (n : Nat) : (madeCells z (n * z.size)).toList = (List.replicate n z.toList).flatten := by
  apply List.ext_getElem?
  intro i
  simp only [madeCells, Array.toList_map, Array.toList_range, List.getElem?_map]
  induction n generalizing i with
  | zero => simp
  | succ n ih =>
    rw [List.replicate_succ, List.flatten_cons, List.getElem?_append]
    by_cases hi : i < z.toList.length
    · rw [if_pos hi]
      have hi' : i < z.size := by simpa using hi
      have : i < (n + 1) * z.size := by rw [Nat.add_mul]; omega
      simp [List.getElem?_range this, Nat.mod_eq_of_lt hi', hi']
    · rw [if_neg hi]
      have hi' : z.size ≤ i := by simpa using hi
      rw [← ih (i - z.toList.length)]
      have e : (n + 1) * z.size = n * z.size + z.size := by rw [Nat.add_mul]; omega
      by_cases h2 : i < (n + 1) * z.size
      · rw [List.getElem?_range h2, List.getElem?_range (by simp; omega)]
        simp only [Option.map_some, Option.some.injEq]
        rw [show (i - z.toList.length) % z.size = i % z.size by simp; rw [← Nat.mod_eq_sub_mod hi']]
      · simp
        rw [List.getElem?_eq_none (by simp; omega), List.getElem?_eq_none (by simp; omega)]

theorem ok_bslice (hR : HeapRel C) (hS : Slots C s a) {t e : TypeId} {len sz : Nat} {parts : Array (Nat × Operand)} {zero : List AV} {pr : List (Nat × Opd)} (ho : o.op = .buildSlice t len parts) (ht : P.underlying t = some (.slice e)) (hsz : sizeT P e = some sz) (hz : zeroT P e = some zero)
    (hzl : zero.length = sz) (h1 : zero.all isOne = true) (hsz0 : 0 < sz) (hsmall : len * sz ≤ 2 ^ 24) (hl0 : len = 0 → parts.toList = []) (hpr : pr = parts.toList.map fun (i, x) => (i, opd x)) (hfr : C.H[fr]? = some .resv)
    (h : aop fr s (hget C.H) (.bslice sz len zero pr) = some (v, ws)) : OpOk P C a o v ws := by
  simp only [aop] at h
  split at h
  · rename_i cs hcs
    simp only [Option.some.injEq, Prod.mk.injEq] at h
    obtain ⟨rfl, rfl⟩ := h
    obtain ⟨ie, z, hi, hzv, rfl⟩ := zeroT_spec hz
    have hsz' : ie.size = sz := by simpa [sizeT, hi] using hsz
    have hzs : z.cells.size = sz := by simpa using hzl
    have hone : ∀ x ∈ z.cells.toList.map ofValue, isOne x = true := List.all_eq_true.1 h1
    have hres : ∀ l : List (Nat × Operand), resolveParts (fun i => some (i * sz, sz)) l = some (l.map fun (i, x) => (i * sz, sz, opd x)) := by
      intro l
      induction l with
      | nil => rfl
      | cons p l ih => obtain ⟨i, x⟩ := p; simp [resolveParts, ih]
    have hflat : ConcL C (List.replicate len (z.cells.toList.map ofValue)).flatten (madeCells z.cells (len * z.cells.size)).toList := by
      rw [madeCells_flat]
      have : (List.replicate len (z.cells.toList.map ofValue)).flatten = ((List.replicate len z.cells.toList).flatten).map ofValue := by
        rw [List.map_flatten, List.map_replicate]
      rw [this]
      exact concL_ofValue C _
    have honef : ∀ x ∈ (List.replicate len (z.cells.toList.map ofValue)).flatten, isOne x = true := by
      intro x hx
      obtain ⟨l, hl, hxl⟩ := List.mem_flatten.1 hx
      rw [(List.mem_replicate.1 hl).2] at hxl
      exact hone x hxl
    obtain ⟨hcl, hco⟩ := fillA_keeps hcs honef
    have hcl' : cs.length = len * sz := by rw [hcl]; simp [List.length_flatten, hzs]
    obtain ⟨cells', hf1, hf2⟩ := fill_resolved hS (hres parts.toList) hflat (by rw [← hcs, hpr, List.map_map, List.map_map]; rfl)
    have hcs' : cells'.size = len * sz := by have := hf2.length; simpa [hcl'] using this
    obtain ⟨h2, h3, h4⟩ := alloc_ok hR hfr (SameRest.refl C.w) (c := cells') (e := e) (sz := sz) (els := rowsOf sz len cs)
      (fun C' hs hw => RowsAt.of fun i r hr => by
        obtain ⟨hi, rfl⟩ := rowsOf_get hr
        have hb : i * sz + sz ≤ len * sz := by rw [← Nat.succ_mul]; exact Nat.mul_le_mul_right sz hi
        refine ⟨by simp [hcl']; omega, ?_⟩
        rw [Nat.zero_add]
        exact rows_new hs rfl hw ((hf2.drop (i * sz)).take sz) (fun x hx => hco x (List.mem_of_mem_drop (List.mem_of_mem_take hx))) (fun j u hu => by
          rw [List.getElem?_take] at hu
          split at hu
          · rw [List.getElem?_drop] at hu; simpa using hu
          · simp at hu))
    refine ⟨.slice (some ⟨C.w.heap.size, 0, none⟩) len len, _, _, .inl ?_, h2, h3, ?_⟩
    · have hrun : (Instr.buildSlice t len (parts.map fun (i, x) => (i, a.eval x))).run P C.w = .ok (.slice (some ⟨C.w.heap.size, 0, none⟩) len len) (C.w.alloc (.cells cells' e)) := by
        by_cases hl : len = 0
        · subst hl
          have := hl0 rfl
          have hp0 : parts = #[] := by simpa using this
          subst hp0
          have hc0 : cells' = #[] := by simpa using hcs'
          subst hc0
          simp [Instr.buildSlice, run_underlying ht, run_sizeOf (w := C.w) hsz, Instr.fill, newRow, show Array.range 0 = #[] by simp [Array.range]]
        · refine run_buildSlice C.w t e len _ cells' ie z ht hi hzv (by rw [hsz']; omega) (by rw [hsz']; have := Nat.mul_pos (Nat.pos_of_ne_zero hl) hsz0; omega) ?_
          rw [hsz', ← hf1]
          simp [madeCells, hzs]
      simp only [execOp, ho, Sem.run_bind, hrun, Result.andThen_ok, Sem.run_pure]
    · simp only [Conc, writes, set_get_eq (lt_of_get hfr)]
      exact .inr (.inr ⟨by simp, C.w.heap.size, 0, len, cells', e, _, set_get_eq (by rw [hR.len]; exact lt_of_get hfr), h4, by simp, by simp [rowsOf_len], Nat.le_refl _, by simp [hcs']⟩)
  · simp at h
end
end Go.Abs
