import Derived.Test.YtookdheldelepaaGreatDoorAbsB
import Derived.RangeFuncNested
import Derived.OrdersIn
import Derived.LoopIn
set_option linter.all false
set_option linter.unusedVariables false
set_option linter.unusedSimpArgs false
set_option linter.unusedSectionVars false
/- From the operations of Go's to ours, all together. -/
namespace Go.Abs
open Go.RowKit

def isNilC : Operand → Bool
  | .const (.slice none 0 0) => true
  | _ => false
def isNilI : Operand → Bool
  | .const .nilIface => true
  | _ => false
theorem isNilI_spec {x : Operand} (h : isNilI x = true) : x = .const .nilIface := by
  unfold isNilI at h; split at h
  · rfl
  · simp at h
theorem isNilC_spec {x : Operand} (h : isNilC x = true) : x = .const (.slice none 0 0) := by
  unfold isNilC at h; split at h
  · rfl
  · simp at h

/-- functions that write into their slices (by number); a call that hands a function, a pointer or a struct of them shares our blocks -/
def sharesT (P : Program) : Nat → TypeId → Bool
  | 0, _ => true
  | d + 1, t => match P.underlying t with
    | some (.func ..) | some (.pointer _) => true
    | some (.slice e) => sharesT P d e
    | some (.array _ e) => sharesT P d e
    | some (.struct fs) => fs.any fun f => sharesT P d f.type
    | some (.int _) | some .string | some .bool => false
    | _ => true

def opB (P : Program) (op : BinOp) (t : TypeId) (x y : Operand) : Option AOp :=
  match op with
  | .eql | .neq =>
    let neq := op matches .neq
    match P.underlying t with
    | some (.int _) | some .string => some (.bin op (opd x) (opd y))
    | some .bool => some (.eqBool neq (opd x) (opd y))
    | some (.slice _) => if isNilC y then some (.eqNil neq (opd x)) else if isNilC x then some (.eqNil neq (opd y)) else none
    | some (.interface _) => if isNilI y then some (.eqErr neq (opd x)) else none
    | some (.struct _) | some (.array _ _) => if P.eqGuardType P.depth t then none else (kindsOf P 12 t).map fun ks => .eqAgg neq ks (opd x) (opd y)
    | _ => none
  | _ => some (.bin op (opd x) (opd y))

def opC (P : Program) (muts : List FuncId) (c : Call) : Option AOp :=
  match c.callee with
  | .builtin .len => match c.args.toList, c.argTypes.toList with
    | [x], [t] => match P.underlying t with
      | some (.slice _) => some (.len (opd x))
      | some .string => some (.lenS (opd x))
      | _ => none
    | _, _ => none
  | .builtin .min => some (.minmax false (c.args.toList.map opd))
  | .builtin .max => some (.minmax true (c.args.toList.map opd))
  | .builtin .append => match c.args.toList, c.argTypes.toList with
    | [x, y], [t, tx] => match P.underlying t, P.underlying tx with
      | some (.slice e), some (.slice _) => match sizeT P e, bytesT P e, zeroT P e with
        | some sz, some by_, some z => if z.length = sz ∧ 0 < by_ then some (.app sz by_ (opd x) (opd y)) else none
        | _, _, _ => none
      | _, _ => none
    | _, _ => none
  | .builtin .copy => match c.args.toList, c.argTypes.toList with
    | [x, y], [t, _] => match P.underlying t with
      | some (.slice e) => if sizeT P e = some 1 then some (.copy (opd x) (opd y)) else none
      | _ => none
    | _, _ => none
  | .value f => match f with
    | .func g => some (.call (muts.contains g || c.argTypes.any (sharesT P 6)) (opd f) (c.args.toList.map opd))
    | _ => some (.call true (opd f) (c.args.toList.map opd))
  | _ => none

def zeroV (P : Program) (t : TypeId) : Option Value := (P.info? t).bind fun i => i.zero
def opMap (P : Program) (t : TypeId) : Option (KD × TypeId) := match P.underlying t with
  | some (.map k e) => (kdOf P k).map fun kd => (kd, e)
  | _ => none
theorem opMap_spec {P : Program} {t : TypeId} {kd : KD} {e : TypeId} (h : opMap P t = some (kd, e)) : ∃ k, P.underlying t = some (.map k e) ∧ kdOf P k = some kd := by
  unfold opMap at h
  split at h
  · rename_i k e' hu
    rw [Option.map_eq_some_iff] at h
    obtain ⟨kd', hk, h⟩ := h
    simp only [Prod.mk.injEq] at h
    obtain ⟨rfl, rfl⟩ := h
    exact ⟨k, hu, hk⟩
  · simp at h

def trOp (P : Program) (muts : List FuncId) : Op → Option AOp
  | .move x | .assign x => some (.mv (opd x))
  | .pick c a b => some (.pick (opd c) (opd a) (opd b))
  | .alloc t => match zeroT P t with
    | some z => if z.all isOne then some (.alloc z) else none
    | none => none
  | .box t x => (sizeT P t).map fun n => .box n (opd x)
  | .build t parts => match zeroT P t, placesOk P t, resolveParts (placeT P t) parts.toList with
    | some z, true, some pr => some (.build z pr)
    | _, _, _ => none
  | .buildSlice t len parts => match P.underlying t with
    | some (.slice e) => match sizeT P e, zeroT P e with
      | some sz, some z => if z.length = sz ∧ z.all isOne = true ∧ 0 < sz ∧ len * sz ≤ 2 ^ 24 ∧ (len = 0 → parts.toList.length = 0) then some (.bslice sz len z (parts.toList.map fun (i, x) => (i, opd x))) else none
      | _, _ => none
    | _ => none
  | .load t x => match sizeT P t, isAggT P t with
    | some n, some g => some (.load n g (opd x))
    | _, _ => none
  | .store t x y => (sizeT P t).map fun n => .store n (opd x) (opd y)
  | .nilCheck x => some (.nilck (opd x))
  | .binOp op t x y _ => opB P op t x y
  | .unOp .neg _ x => some (.neg (opd x))
  | .unOp .not _ x => some (.not (opd x))
  | .convert src dst x => match P.underlying src, P.underlying dst with
    | some (.int _), some (.int k) => some (.cvInt k (opd x))
    | some .string, some .string => some (.cvStr (opd x))
    | some .string, some (.slice e) => match P.underlying e with
      | some (.int .u8) => some (.cvB (opd x))
      | _ => none
    | some (.slice e), some .string => match P.underlying e with
      | some (.int .u8) => some (.cvS (opd x))
      | _ => none
    | _, _ => none
  | .makeFunc fn first caps => some (.mkf fn (first.toList.map opd) (caps.toList.map opd))
  | .makeSlice t x y => match P.underlying t with
    | some (.slice e) => match sizeT P e, bytesT P e, zeroT P e with
      | some sz, some by_, some z => if z.length = sz ∧ z.all isOne = true then some (.mks sz by_ z (opd x) (opd y)) else none
      | _, _, _ => none
    | _ => none
  | .slice t x lo hi mx => match P.underlying t with
    | some (.slice e) => match sizeT P e with
      | some sz => match mx with
        | none => some (.slc sz (opd x) (lo.map opd) (hi.map opd))
        | some m => match lo, hi with
          | none, some h => some (.slc0 (opd x) (opd h) (opd m))
          | _, _ => none
      | none => none
    | some .string => match mx with
      | none => some (.slcS (opd x) (lo.map opd) (hi.map opd))
      | some _ => none
    | _ => none
  | .fieldAddr t x f => match P.underlying t with
    | some (.struct fs) => match fs[f]? with
      | some fd => match sizeT P fd.type with
        | some n => if n ≠ 0 then some (.faddr fd.offset (opd x)) else none
        | none => none
      | none => none
    | _ => none
  | .field t x f => match P.underlying t with
    | some (.struct fs) => match fs[f]? with
      | some fd => match sizeT P fd.type, isAggT P fd.type with
        | some n, some g => some (.fld fd.offset n g (opd x))
        | _, _ => none
      | none => none
    | _ => none
  | .indexAddr t x i => match P.underlying t with
    | some (.slice e) => (sizeT P e).map fun sz => .iaddrS sz (opd x) (opd i)
    | some (.array n e) => (sizeT P e).map fun sz => .iaddrA n sz (opd x) (opd i)
    | _ => none
  | .index t x i => match P.underlying t with
    | some (.array n e) => match sizeT P e, isAggT P e with
      | some sz, some g => some (.idxA n sz g (opd x) (opd i))
      | _, _ => none
    | some .string => some (.idxS (opd x) (opd i))
    | _ => none
  | .extract x i => some (.ext (opd x) i)
  | .makeMap t none => (opMap P t).map fun p => .mkmap p.1
  | .lookup t x k ok => (opMap P t).bind fun p => (zeroV P p.2).map fun z => .mlook p.1 ok z (opd x) (opd k)
  | .mapUpdate t x k v => (opMap P t).map fun p => .mset p.1 (opd x) (opd k) (opd v)
  | .call c => opC P muts c
  | _ => none

def AOp.isCall : AOp → Bool
  | .call .. => true
  | _ => false
def AOp.makes : AOp → Bool
  | .alloc _ | .box .. | .bslice .. | .app .. | .mks .. | .mkmap _ => true
  | _ => false

section
variable {P : Program} {C : Ctx} {s : Nat → AV} {a : Act} {o : Oper} {v : AV} {ws : List (Nat × Blk)} {fr : Nat}

theorem ok_op (hR : HeapRel C) (hS : Slots C s a) {muts : List FuncId} {ao : AOp} (ht : trOp P muts o.op = some ao) (hfr : ao.makes = true → C.H[fr]? = some .resv) (hc : ao.isCall = false)
    (h : aop fr s (hget C.H) ao = some (v, ws)) : OpOk P C a o v ws := by
  cases ho : o.op with
  | move x => rw [ho] at ht; simp only [trOp, Option.some.injEq] at ht; subst ht; exact ok_mv hR hS (.inl ho) h
  | assign x => rw [ho] at ht; simp only [trOp, Option.some.injEq] at ht; subst ht; exact ok_mv hR hS (.inr ho) h
  | pick c x y => rw [ho] at ht; simp only [trOp, Option.some.injEq] at ht; subst ht; exact ok_pick hR hS ho h
  | alloc t =>
    rw [ho] at ht; simp only [trOp] at ht
    split at ht
    · rename_i z hz
      split at ht
      · rename_i h1; simp only [Option.some.injEq] at ht; subst ht; exact ok_alloc hR ho hz h1 (hfr rfl) h
      · simp at ht
    · simp at ht
  | box t x =>
    rw [ho] at ht; simp only [trOp, Option.map_eq_some_iff] at ht
    obtain ⟨n, hn, rfl⟩ := ht
    exact ok_box hR hS ho (hfr rfl) h
  | build t parts =>
    rw [ho] at ht; simp only [trOp] at ht
    split at ht
    · rename_i z pr hz hp hpr; simp only [Option.some.injEq] at ht; subst ht; exact ok_build hR hS ho hz hp hpr h
    · simp at ht
  | buildSlice t len parts =>
    rw [ho] at ht; simp only [trOp] at ht
    split at ht
    · rename_i e he
      split at ht
      · rename_i sz z hsz hz
        split at ht
        · rename_i hc2
          obtain ⟨h1, h2, h3, h4, h5⟩ := hc2
          simp only [Option.some.injEq] at ht; subst ht
          exact ok_bslice hR hS ho he hsz hz h1 h2 h3 h4 (fun hl => List.eq_nil_of_length_eq_zero (h5 hl)) rfl (hfr rfl) h
        · simp at ht
      · simp at ht
    · simp at ht
  | load t x =>
    rw [ho] at ht; simp only [trOp] at ht
    split at ht
    · rename_i n g hn hg; simp only [Option.some.injEq] at ht; subst ht; exact ok_load hR hS ho hg hn h
    · simp at ht
  | store t x y =>
    rw [ho] at ht; simp only [trOp, Option.map_eq_some_iff] at ht
    obtain ⟨n, hn, rfl⟩ := ht
    exact ok_store hR hS ho hn h
  | nilCheck x => rw [ho] at ht; simp only [trOp, Option.some.injEq] at ht; subst ht; exact ok_nilck hR hS ho h
  | binOp op t x y ty =>
    rw [ho] at ht; simp only [trOp] at ht
    have hcmp : ∀ neq : Bool, o.op = .binOp (if neq then .neq else .eql) t x y ty → (match P.underlying t with
        | some (.int _) | some .string => some (AOp.bin (if neq then .neq else .eql) (opd x) (opd y))
        | some .bool => some (.eqBool neq (opd x) (opd y))
        | some (.slice _) => if isNilC y then some (.eqNil neq (opd x)) else if isNilC x then some (.eqNil neq (opd y)) else none
        | some (.interface _) => if isNilI y then some (.eqErr neq (opd x)) else none
        | some (.struct _) | some (.array _ _) => if P.eqGuardType P.depth t then none else (kindsOf P 12 t).map fun ks => .eqAgg neq ks (opd x) (opd y)
        | _ => none) = some ao → OpOk P C a o v ws := by
      intro neq ho ht
      split at ht
      · simp only [Option.some.injEq] at ht; subst ht; exact ok_bin hR hS ho h
      · simp only [Option.some.injEq] at ht; subst ht; exact ok_bin hR hS ho h
      · rename_i hu; simp only [Option.some.injEq] at ht; subst ht; exact ok_eqBool hR hS ho hu h
      · rename_i e hu
        split at ht
        · rename_i hn; simp only [Option.some.injEq] at ht; subst ht; exact ok_eqNil hR hS ho hu (.inl ⟨rfl, isNilC_spec hn⟩) h
        · split at ht
          · rename_i hn; simp only [Option.some.injEq] at ht; subst ht; exact ok_eqNil hR hS ho hu (.inr ⟨rfl, isNilC_spec hn⟩) h
          · simp at ht
      · rename_i ms hu
        split at ht
        · rename_i hn; simp only [Option.some.injEq] at ht; subst ht; exact ok_eqErr hR hS ho hu (isNilI_spec hn) h
        · simp at ht
      · rename_i fs hu
        split at ht
        · simp at ht
        · rename_i hg
          simp only [Option.map_eq_some_iff] at ht
          obtain ⟨ks, hk, rfl⟩ := ht
          exact ok_eqAgg hR hS ho hk (isAggT_basic hu) (by simpa using hg) h
      · rename_i n e hu
        split at ht
        · simp at ht
        · rename_i hg
          simp only [Option.map_eq_some_iff] at ht
          obtain ⟨ks, hk, rfl⟩ := ht
          exact ok_eqAgg hR hS ho hk (isAggT_basic hu) (by simpa using hg) h
      · simp at ht
    cases op with
    | eql => exact hcmp false (by simpa using ho) (by simpa [opB] using ht)
    | neq => exact hcmp true (by simpa using ho) (by simpa [opB] using ht)
    | _ => simp only [opB, Option.some.injEq] at ht; subst ht; exact ok_bin hR hS ho h
  | unOp op t x =>
    rw [ho] at ht
    cases op with
    | neg => simp only [trOp, Option.some.injEq] at ht; subst ht; exact ok_neg hR hS ho h
    | not => simp only [trOp, Option.some.injEq] at ht; subst ht; exact ok_not hR hS ho h
    | _ => simp [trOp] at ht
  | convert src dst x =>
    rw [ho] at ht; simp only [trOp] at ht
    split at ht
    · rename_i k k' h1 h2; simp only [Option.some.injEq] at ht; subst ht; exact ok_cvInt hR hS ho h1 h2 h
    · rename_i h1 h2; simp only [Option.some.injEq] at ht; subst ht; exact ok_cvStr hR hS ho h1 h2 h
    · rename_i e h1 h2
      split at ht
      · rename_i h3; simp only [Option.some.injEq] at ht; subst ht; exact ok_cvB hR hS ho h1 h2 h3 h
      · simp at ht
    · rename_i e h1 h2
      split at ht
      · rename_i h3; simp only [Option.some.injEq] at ht; subst ht; exact ok_cvS hR hS ho h1 h2 h3 h
      · simp at ht
    · simp at ht
  | makeFunc fn first caps => rw [ho] at ht; simp only [trOp, Option.some.injEq] at ht; subst ht; exact ok_mkf hR hS ho h
  | makeSlice t x y =>
    rw [ho] at ht; simp only [trOp] at ht
    split at ht
    · rename_i e he
      split at ht
      · rename_i sz by_ z hsz hby hz
        split at ht
        · rename_i hc2; simp only [Option.some.injEq] at ht; subst ht; exact ok_mks hR hS ho he hsz hby hz hc2.1 hc2.2 (hfr rfl) h
        · simp at ht
      · simp at ht
    · simp at ht
  | slice t x lo hi mx =>
    rw [ho] at ht; simp only [trOp] at ht
    split at ht
    · rename_i e he
      split at ht
      · rename_i sz hsz
        split at ht
        · simp only [Option.some.injEq] at ht; subst ht; exact ok_slc hR hS ho he hsz h
        · split at ht
          · simp only [Option.some.injEq] at ht; subst ht; exact ok_slc0 hR hS ho he hsz h
          · simp at ht
      · simp at ht
    · rename_i hs
      split at ht
      · simp only [Option.some.injEq] at ht; subst ht; exact ok_slcS hR hS ho hs h
      · simp at ht
    · simp at ht
  | fieldAddr t x f =>
    rw [ho] at ht; simp only [trOp] at ht
    split at ht
    · rename_i fs hfs
      split at ht
      · rename_i fd hfd
        split at ht
        · rename_i n hn
          split at ht
          · rename_i h0; simp only [Option.some.injEq] at ht; subst ht; exact ok_faddr hR hS ho hfs hfd hn h0 h
          · simp at ht
        · simp at ht
      · simp at ht
    · simp at ht
  | field t x f =>
    rw [ho] at ht; simp only [trOp] at ht
    split at ht
    · rename_i fs hfs
      split at ht
      · rename_i fd hfd
        split at ht
        · rename_i n g hn hg; simp only [Option.some.injEq] at ht; subst ht; exact ok_fld hR hS ho hfs hfd hg hn h
        · simp at ht
      · simp at ht
    · simp at ht
  | indexAddr t x i =>
    rw [ho] at ht; simp only [trOp] at ht
    split at ht
    · rename_i e he; simp only [Option.map_eq_some_iff] at ht; obtain ⟨sz, hsz, rfl⟩ := ht; exact ok_iaddrS hR hS ho he hsz h
    · rename_i n e he; simp only [Option.map_eq_some_iff] at ht; obtain ⟨sz, hsz, rfl⟩ := ht; exact ok_iaddrA hR hS ho he hsz h
    · simp at ht
  | index t x i =>
    rw [ho] at ht; simp only [trOp] at ht
    split at ht
    · rename_i n e he
      split at ht
      · rename_i sz g hsz hg; simp only [Option.some.injEq] at ht; subst ht; exact ok_idxA hR hS ho he hg hsz h
      · simp at ht
    · rename_i hs; simp only [Option.some.injEq] at ht; subst ht; exact ok_idxS hR hS ho hs h
    · simp at ht
  | extract x i => rw [ho] at ht; simp only [trOp, Option.some.injEq] at ht; subst ht; exact ok_ext hR hS ho h
  | makeMap t r =>
    rw [ho] at ht
    cases r with
    | none =>
      simp only [trOp, Option.map_eq_some_iff] at ht
      obtain ⟨⟨kd, e⟩, _, rfl⟩ := ht
      exact ok_mkmap hR ho (hfr rfl) h
    | some r => simp [trOp] at ht
  | lookup t x k ok =>
    rw [ho] at ht; simp only [trOp, Option.bind_eq_some_iff, Option.map_eq_some_iff] at ht
    obtain ⟨⟨kd, e⟩, h1, z, hz, rfl⟩ := ht
    obtain ⟨k', h2, h3⟩ := opMap_spec h1
    refine ok_mlook hR hS ho h2 h3 (fun w => ?_) h
    unfold zeroV at hz
    rw [Option.bind_eq_some_iff] at hz
    obtain ⟨i, hi, hz⟩ := hz
    simp [zeroValue, typeInfo, hi, hz]
  | mapUpdate t x k v' =>
    rw [ho] at ht; simp only [trOp, Option.map_eq_some_iff] at ht
    obtain ⟨⟨kd, e⟩, h1, rfl⟩ := ht
    obtain ⟨k', h2, h3⟩ := opMap_spec h1
    exact ok_mset hR hS ho h2 h3 h
  | call c =>
    rw [ho] at ht; simp only [trOp] at ht
    obtain ⟨callee, args, argTypes⟩ := c
    obtain ⟨args⟩ := args
    obtain ⟨argTypes⟩ := argTypes
    unfold opC at ht
    dsimp only at ht
    split at ht
    · split at ht
      · split at ht
        · rename_i he; simp only [Option.some.injEq] at ht; subst ht; exact ok_len hR hS ho he h
        · rename_i he; simp only [Option.some.injEq] at ht; subst ht; exact ok_lenS hR hS ho he h
        · simp at ht
      · simp at ht
    · simp only [Option.some.injEq] at ht; subst ht; exact ok_minmax (mx := false) hR hS ho h
    · simp only [Option.some.injEq] at ht; subst ht; exact ok_minmax (mx := true) hR hS ho h
    · split at ht
      · split at ht
        · rename_i he he2
          split at ht
          · rename_i sz by_ z hsz hby hz
            split at ht
            · rename_i hc2; simp only [Option.some.injEq] at ht; subst ht; exact ok_app hR hS ho he he2 hsz hby hc2.2 hz hc2.1 (hfr rfl) h
            · simp at ht
          · simp at ht
        · simp at ht
      · simp at ht
    · split at ht
      · split at ht
        · rename_i he
          split at ht
          · rename_i hsz; simp only [Option.some.injEq] at ht; subst ht; exact ok_copy hR hS ho he hsz h
          · simp at ht
        · simp at ht
      · simp at ht
    · split at ht <;> (simp only [Option.some.injEq] at ht; subst ht; simp [AOp.isCall] at hc)
    · simp at ht
  | _ => rw [ho] at ht; simp [trOp] at ht
end
end Go.Abs
/- Regions, and what code does to an abstract state. -/
namespace Go.Abs
open Go.RowKit

theorem own_holds {C : Ctx} (hR : HeapRel C) {b : Nat} (h : C.own b) : ∃ x, C.w.heap[b]? = some x ∧ ((∃ c e f, x = Obj.cells c e f) ∨ ∃ o : Ob, o.is x) := by
  rcases h with ⟨id, nil, sz, els, base, h1, h2⟩ | ⟨id, o, h1, h0, h2⟩
  · rcases hR.blk id true nil sz els h1 with ⟨h3, _⟩ | ⟨_, b', base', c, e, h3, _, h4, _⟩
    · rw [h2] at h3; simp at h3
    · rw [h2] at h3; simp at h3; obtain ⟨rfl, rfl⟩ := h3; exact ⟨_, h4, .inl ⟨_, _, _, rfl⟩⟩
  · obtain ⟨b', x, h3, _, h4, h5⟩ := hR.obj id o h1 h0
    rw [h2] at h3; simp at h3; subst h3
    exact ⟨x, h4, .inr ⟨o, h5⟩⟩
/-- what is deferred: marks of ranges over functions alone -/
def Marks (C0 C : Ctx) (ds : List Deferred) : Prop :=
  ∃ bs : List Nat, ds = bs.map (fun b => { target := .collected b, args := #[] }) ∧ bs.Nodup ∧ ∀ b ∈ bs, C0.w.heap.size ≤ b ∧ C.w.heap[b]? = some (.deferred (some []))
theorem Marks.nil (C0 C : Ctx) : Marks C0 C [] := ⟨[], rfl, .nil, by simp⟩
theorem Marks.not_own {C : Ctx} (hR : HeapRel C) {b : Nat} {ds : Option (List Deferred)} (h : C.w.heap[b]? = some (.deferred ds)) : ¬ C.own b := fun ho => by
  obtain ⟨x, h1, h2⟩ := own_holds hR ho
  rw [h] at h1
  obtain rfl := Option.some.inj h1
  rcases h2 with ⟨_, _, _, h2⟩ | ⟨o, h2⟩
  · simp at h2
  · cases o <;> exact h2
theorem Marks.mono {C0 C C' : Ctx} {ds : List Deferred} (h : Marks C0 C ds) (hR : HeapRel C) (hs : Step C C') : Marks C0 C' ds := by
  obtain ⟨bs, h1, h2, h3⟩ := h
  refine ⟨bs, h1, h2, fun b hb => ?_⟩
  obtain ⟨h4, h5⟩ := h3 b hb
  exact ⟨h4, (hs.blk b (lt_of_heap h5) (Marks.not_own hR h5)).trans h5⟩
theorem Marks.same {C0 C C' : Ctx} {ds : List Deferred} (h : Marks C0 C ds) (hw : C'.w.heap = C.w.heap) : Marks C0 C' ds := by
  obtain ⟨bs, h1, h2, h3⟩ := h
  exact ⟨bs, h1, h2, fun b hb => by rw [hw]; exact h3 b hb⟩

structure Rel (N : Nat) (C0 : Ctx) (σ : St) (C : Ctx) (a : Act) : Prop where
  heap : C.H = σ.heap
  rel : HeapRel C
  step : Step C0 C
  slots : Slots C σ.get a
  defers : Marks C0 C a.defers
  size : N ≤ a.tmps.size

/-- a call, whatever the memory: what comes back, and what has become of our blocks -/
def ACall (P : Program) (g : FuncId) (args : List AV) (H : List Blk) (Q : AV → List Blk → Prop) : Prop :=
  (∀ cargs w, (callFunc g cargs).run P w = .ok (.enter g cargs) w) ∧
  ∀ (C : Ctx) (cargs : List Value), C.H = H → HeapRel C → ConcL C args cargs → Calls P g cargs.toArray C.w fun e w' =>
    ∃ u r H' m', e = .returned u ∧ Q r H' ∧ Step C ⟨H', m', w', C.prot⟩ ∧ HeapRel ⟨H', m', w', C.prot⟩ ∧ Conc ⟨H', m', w', C.prot⟩ r u

theorem ACall.mono {P : Program} {g : FuncId} {args : List AV} {H : List Blk} {Q Q' : AV → List Blk → Prop} (h : ACall P g args H Q) (hq : ∀ r H', Q r H' → Q' r H') : ACall P g args H Q' :=
  ⟨h.1, fun C cargs h1 h2 h3 => (h.2 C cargs h1 h2 h3).mono fun _ _ ⟨u, r, H', m', e1, e2, e3⟩ => ⟨u, r, H', m', e1, hq _ _ e2, e3⟩⟩

/-! values without blocks of ours -/
mutual
def plain : AV → Bool
  | .lit _ | .emp | .err => true
  | .sl _ _ els | .adr _ els _ _ => plainR els
  | .agg cs | .tup cs => plainL cs
  | .clo _ f c => plainL f && plainL c
  | .loc .. | .lsl .. | .mp _ | .top | .top1 => false
def plainL : List AV → Bool
  | [] => true
  | a :: l => plain a && plainL l
def plainR : List (List AV) → Bool
  | [] => true
  | r :: l => plainL r && plainR l
end

section
variable {C C' : Ctx}
mutual
theorem Conc.plain (hw : C'.w = C.w) (hb : ∀ b, ¬ C.bad b → ¬ C'.bad b) : ∀ (v : AV) (u : Value), plain v = true → Conc C v u → Conc C' v u
  | .lit _, _, _, h => h
  | .emp, _, _, h => h
  | .sl nil sz els, u, hp, h => by
    simp only [Abs.plain] at hp
    simp only [Conc] at h ⊢
    rcases h with h | ⟨hn, b, base, cap, hu, hc, hbad, hr⟩ | h
    · exact .inl h
    · exact .inr (.inl ⟨hn, b, base, cap, hu, hc, fun hl => ⟨hb b (hbad hl).1, by rw [hw]; exact (hbad hl).2⟩, RowsAt.plain hw hb els b base sz hp hr⟩)
    · exact .inr (.inr h)
  | .adr sz els i off, u, hp, h => by
    simp only [Abs.plain] at hp
    simp only [Conc] at h ⊢
    obtain ⟨b, base, hu, hi, hbad, hlt, hr⟩ := h
    exact ⟨b, base, hu, hi, hb b hbad, by rw [hw]; exact hlt, RowsAt.plain hw hb els b base sz hp hr⟩
  | .agg cs, u, hp, h => by
    simp only [Abs.plain] at hp
    simp only [Conc] at h ⊢
    obtain ⟨us, hu, hl⟩ := h
    exact ⟨us, hu, ConcL.plain hw hb cs _ hp hl⟩
  | .tup cs, u, hp, h => by
    simp only [Abs.plain] at hp
    simp only [Conc] at h ⊢
    obtain ⟨us, hu, hl⟩ := h
    exact ⟨us, hu, ConcL.plain hw hb cs _ hp hl⟩
  | .clo fn f c, u, hp, h => by
    simp only [Abs.plain, Bool.and_eq_true] at hp
    simp only [Conc] at h ⊢
    obtain ⟨uf, uc, hu, h1, h2⟩ := h
    exact ⟨uf, uc, hu, ConcL.plain hw hb f _ hp.1 h1, ConcL.plain hw hb c _ hp.2 h2⟩
  | .loc .., _, hp, _ => by simp [Abs.plain] at hp
  | .lsl .., _, hp, _ => by simp [Abs.plain] at hp
  | .mp .., _, hp, _ => by simp [Abs.plain] at hp
  | .top, _, hp, _ => by simp [Abs.plain] at hp
  | .top1, _, hp, _ => by simp [Abs.plain] at hp
  | .err, _, _, h => h
theorem ConcL.plain (hw : C'.w = C.w) (hb : ∀ b, ¬ C.bad b → ¬ C'.bad b) : ∀ (l : List AV) (us : List Value), plainL l = true → ConcL C l us → ConcL C' l us
  | [], _, _, h => h
  | a :: l, us, hp, h => by
    simp only [plainL, Bool.and_eq_true] at hp
    simp only [ConcL] at h ⊢
    obtain ⟨u, us', hu, h1, h2⟩ := h
    exact ⟨u, us', hu, Conc.plain hw hb a u hp.1 h1, ConcL.plain hw hb l us' hp.2 h2⟩
theorem CellsAt.plain (hw : C'.w = C.w) (hb : ∀ b, ¬ C.bad b → ¬ C'.bad b) : ∀ (l : List AV) (b off : Nat), plainL l = true → CellsAt C b off l → CellsAt C' b off l
  | [], _, _, _, _ => trivial
  | c :: cs, b, off, hp, h => by
    simp only [plainL, Bool.and_eq_true] at hp
    simp only [CellsAt] at h ⊢
    obtain ⟨⟨u, hu, h1, h2, h3⟩, h4⟩ := h
    exact ⟨⟨u, by rw [hw]; exact hu, h1, h2, Conc.plain hw hb c u hp.1 h3⟩, CellsAt.plain hw hb cs b (off + 1) hp.2 h4⟩
theorem RowsAt.plain (hw : C'.w = C.w) (hb : ∀ b, ¬ C.bad b → ¬ C'.bad b) : ∀ (l : List (List AV)) (b base sz : Nat), plainR l = true → RowsAt C b base sz l → RowsAt C' b base sz l
  | [], _, _, _, _, _ => trivial
  | r :: rs, b, base, sz, hp, h => by
    simp only [plainR, Bool.and_eq_true] at hp
    simp only [RowsAt] at h ⊢
    exact ⟨h.1, CellsAt.plain hw hb r b base hp.1 h.2.1, RowsAt.plain hw hb rs b (base + sz) sz hp.2 h.2.2⟩
end
end

/-! block numbers turned -/
mutual
def ren (ρ : Nat → Option Nat) : AV → AV
  | .lit v => .lit v
  | .emp => .emp
  | .top => .top
  | .top1 => .top1
  | .err => .err
  | .sl b sz els => .sl b sz (renR ρ els)
  | .adr sz els i o => .adr sz (renR ρ els) i o
  | .agg cs => .agg (renL ρ cs)
  | .tup cs => .tup (renL ρ cs)
  | .clo fn f c => .clo fn (renL ρ f) (renL ρ c)
  | .loc id i o => match ρ id with
    | some k => .loc k i o
    | none => .top1
  | .lsl id i n => match ρ id with
    | some k => .lsl k i n
    | none => .top1
  | .mp id => match ρ id with
    | some k => .mp k
    | none => .top1
def renL (ρ : Nat → Option Nat) : List AV → List AV
  | [] => []
  | a :: l => ren ρ a :: renL ρ l
def renR (ρ : Nat → Option Nat) : List (List AV) → List (List AV)
  | [] => []
  | r :: l => renL ρ r :: renR ρ l
end
def renO (ρ : Nat → Option Nat) : Ob → Ob
  | .lp r s => .lp r (s.map fun p => (p.1, ren ρ p.2))
  | o => o
theorem renO_nx (ρ : Nat → Option Nat) {o : Ob} (h : renO ρ o ≠ .lpx) : o ≠ .lpx := by rintro rfl; exact h rfl
theorem renO_key (ρ : Nat → Option Nat) (o : Ob) : (renO ρ o).key = o.key := by cases o <;> rfl
theorem renO_is (ρ : Nat → Option Nat) (o : Ob) (x : Obj) : (renO ρ o).is x ↔ o.is x := by cases o <;> cases x <;> exact Iff.rfl
theorem look_ren (ρ : Nat → Option Nat) : ∀ (s : List (Nat × AV)) (t : Nat), look (s.map fun p => (p.1, ren ρ p.2)) t = ren ρ (look s t)
  | [], t => rfl
  | (i, v) :: s, t => by
    simp only [List.map_cons, look]
    split
    · rfl
    · exact look_ren ρ s t
def renB (ρ : Nat → Option Nat) : Blk → Blk
  | .cells own nil sz els => .cells own nil sz (renR ρ els)
  | .obj o => .obj (renO ρ o)
  | b => b

theorem renL_len (ρ : Nat → Option Nat) : ∀ l : List AV, (renL ρ l).length = l.length
  | [] => rfl
  | _ :: l => by simp [renL, renL_len ρ l]
theorem renR_len (ρ : Nat → Option Nat) : ∀ l : List (List AV), (renR ρ l).length = l.length
  | [] => rfl
  | _ :: l => by simp [renR, renR_len ρ l]
theorem isOne_ren (ρ : Nat → Option Nat) : ∀ v : AV, isOne v = true → isOne (ren ρ v) = true
  | .lit v, h => by simpa [ren] using h
  | .emp, _ => rfl
  | .top, h => by simp [isOne] at h
  | .top1, _ => rfl
  | .err, h => by simp [isOne] at h
  | .sl .., _ => by simp [ren, isOne]
  | .adr .., _ => by simp [ren, isOne]
  | .agg .., h => by simp [isOne] at h
  | .tup .., h => by simp [isOne] at h
  | .clo .., _ => by simp [ren, isOne]
  | .loc id i o, _ => by simp only [ren]; split <;> rfl
  | .lsl id i o, _ => by simp only [ren]; split <;> rfl
  | .mp id, _ => by simp only [ren]; split <;> rfl

/-- C' has our blocks by other numbers -/
structure Renamed (ρ : Nat → Option Nat) (C C' : Ctx) : Prop where
  w : C'.w = C.w
  bad : ∀ b, ¬ C.bad b → ¬ C'.bad b
  blk : ∀ id k, ρ id = some k → ∀ B, C.H[id]? = some B → C'.H[k]? = some (renB ρ B) ∧ C'.m[k]? = C.m[id]?

section
variable {C C' : Ctx} {ρ : Nat → Option Nat}
mutual
theorem Conc.ren (hr : Renamed ρ C C') : ∀ (v : AV) (u : Value), Conc C v u → Conc C' (Abs.ren ρ v) u
  | .lit _, _, h => h
  | .emp, _, h => h
  | .top, _, _ => trivial
  | .top1, _, h => h
  | .err, _, h => h
  | .sl nil sz els, u, h => by
    simp only [Conc, Abs.ren, renR_len] at h ⊢
    rcases h with h | ⟨hn, b, base, cap, hu, hc, hbad, hrows⟩ | h
    · exact .inl h
    · exact .inr (.inl ⟨hn, b, base, cap, hu, hc, fun hl => ⟨hr.bad b (hbad hl).1, by rw [hr.w]; exact (hbad hl).2⟩, RowsAt.ren hr els b base sz hrows⟩)
    · exact .inr (.inr h)
  | .adr sz els i off, u, h => by
    simp only [Conc, Abs.ren, renR_len] at h ⊢
    obtain ⟨b, base, hu, hi, hbad, hlt, hrows⟩ := h
    exact ⟨b, base, hu, hi, hr.bad b hbad, by rw [hr.w]; exact hlt, RowsAt.ren hr els b base sz hrows⟩
  | .agg cs, u, h => by
    simp only [Conc, Abs.ren] at h ⊢
    obtain ⟨us, hu, hl⟩ := h
    exact ⟨us, hu, ConcL.ren hr cs _ hl⟩
  | .tup cs, u, h => by
    simp only [Conc, Abs.ren] at h ⊢
    obtain ⟨us, hu, hl⟩ := h
    exact ⟨us, hu, ConcL.ren hr cs _ hl⟩
  | .clo fn f c, u, h => by
    simp only [Conc, Abs.ren] at h ⊢
    obtain ⟨uf, uc, hu, h1, h2⟩ := h
    exact ⟨uf, uc, hu, ConcL.ren hr f _ h1, ConcL.ren hr c _ h2⟩
  | .loc id i off, u, h => by
    have h1 := Conc.one_loc h
    simp only [Abs.ren]
    split
    · rename_i k hk
      simp only [Conc] at h ⊢
      cases hB : C.H[id]? with
      | none => rw [hB] at h; exact h.elim
      | some B =>
        obtain ⟨h2, h3⟩ := hr.blk id k hk B hB
        rw [hB] at h
        rw [h2, h3]
        cases B <;> exact h
    · exact h1
  | .lsl id i len, u, h => by
    have h1 := Conc.one_lsl h
    simp only [Abs.ren]
    split
    · rename_i k hk
      simp only [Conc] at h ⊢
      cases hB : C.H[id]? with
      | none => rw [hB] at h; exact h.elim
      | some B =>
        obtain ⟨h2, h3⟩ := hr.blk id k hk B hB
        rw [hB] at h
        rw [h2, h3]
        cases B with
        | cells own nil sz els => simp only [renB, renR_len, hr.w] at h ⊢; exact h
        | _ => exact h
    · exact h1
  | .mp id, u, h => by
    have h1 := Conc.one_mp h
    simp only [Abs.ren]
    split
    · rename_i k hk
      simp only [Conc] at h ⊢
      cases hB : C.H[id]? with
      | none => rw [hB] at h; exact h.elim
      | some B =>
        obtain ⟨h2, h3⟩ := hr.blk id k hk B hB
        rw [hB] at h
        rw [h2, h3]
        cases B with
        | obj o =>
          obtain ⟨b, h4, h5⟩ := h
          exact ⟨b, h4, h5.trans (Ob.val_key (renO_key ρ o)).symm⟩
        | _ => exact h.elim
    · exact h1
theorem ConcL.ren (hr : Renamed ρ C C') : ∀ (l : List AV) (us : List Value), ConcL C l us → ConcL C' (renL ρ l) us
  | [], _, h => h
  | a :: l, us, h => by
    simp only [ConcL, renL] at h ⊢
    obtain ⟨u, us', hu, h1, h2⟩ := h
    exact ⟨u, us', hu, Conc.ren hr a u h1, ConcL.ren hr l us' h2⟩
theorem CellsAt.ren (hr : Renamed ρ C C') : ∀ (l : List AV) (b off : Nat), CellsAt C b off l → CellsAt C' b off (renL ρ l)
  | [], _, _, _ => trivial
  | c :: cs, b, off, h => by
    simp only [CellsAt, renL] at h ⊢
    obtain ⟨⟨u, hu, h1, h2, h3⟩, h4⟩ := h
    exact ⟨⟨u, by rw [hr.w]; exact hu, h1, isOne_ren ρ c h2, Conc.ren hr c u h3⟩, CellsAt.ren hr cs b (off + 1) h4⟩
theorem RowsAt.ren (hr : Renamed ρ C C') : ∀ (l : List (List AV)) (b base sz : Nat), RowsAt C b base sz l → RowsAt C' b base sz (renR ρ l)
  | [], _, _, _, _ => trivial
  | r :: rs, b, base, sz, h => by
    simp only [RowsAt, renR] at h ⊢
    exact ⟨by rw [renL_len]; exact h.1, CellsAt.ren hr r b base h.2.1, RowsAt.ren hr rs b (base + sz) sz h.2.2⟩
end
end

/-! a call that gets values without blocks of ours: what it makes is put behind our blocks -/
def shiftρ (n : Nat) (id : Nat) : Option Nat := some (id + n)

theorem frame_call {C : Ctx} (hR : HeapRel C) {new : List Blk} {m2 : List (Option (Nat × Nat))} {w' : World}
    (hs : Step ⟨[], [], C.w, C.bad⟩ ⟨new, m2, w', C.bad⟩) (hR2 : HeapRel ⟨new, m2, w', C.bad⟩) :
    Step C ⟨C.H ++ new.map (renB (shiftρ C.H.length)), C.m ++ m2, w', C.prot⟩ ∧ HeapRel ⟨C.H ++ new.map (renB (shiftρ C.H.length)), C.m ++ m2, w', C.prot⟩ ∧
    ∀ r u, Conc ⟨new, m2, w', C.bad⟩ r u → Conc ⟨C.H ++ new.map (renB (shiftρ C.H.length)), C.m ++ m2, w', C.prot⟩ (ren (shiftρ C.H.length) r) u := by
  have hall : ∀ b, b < C.w.heap.size → w'.heap[b]? = C.w.heap[b]? := fun b hb => hs.blk b hb (by rintro (⟨id, _, _, _, _, h, _⟩ | ⟨id, _, h, _, _⟩) <;> simp at h)
  have hno : ∀ b, ¬ Ctx.own ⟨[], [], C.w, C.bad⟩ b := by
    rintro b (⟨id, _, _, _, _, h, _⟩ | ⟨id, _, h, _, _⟩) <;> simp at h
  have hfresh : ∀ b, Ctx.own ⟨new, m2, w', C.bad⟩ b → C.w.heap.size ≤ b := fun b hb => (hs.own b hb).resolve_left (hno b)
  have hlenm : m2.length = new.length := hR2.len
  have hH1 : ∀ id, id < C.H.length → (C.H ++ new.map (renB (shiftρ C.H.length)))[id]? = C.H[id]? := fun id h => List.getElem?_append_left h
  have hm1 : ∀ id, id < C.H.length → (C.m ++ m2)[id]? = C.m[id]? := fun id h => List.getElem?_append_left (by rw [hR.len]; exact h)
  have hH2 : ∀ id, C.H.length ≤ id → (C.H ++ new.map (renB (shiftρ C.H.length)))[id]? = (new[id - C.H.length]?).map (renB (shiftρ C.H.length)) := fun id h => by rw [List.getElem?_append_right h, List.getElem?_map]
  have hm2 : ∀ id, C.H.length ≤ id → (C.m ++ m2)[id]? = m2[id - C.H.length]? := fun id h => by rw [List.getElem?_append_right (by rw [hR.len]; exact h), hR.len]
  have hcells : ∀ id own nil sz els, C.H.length ≤ id → (C.H ++ new.map (renB (shiftρ C.H.length)))[id]? = some (Blk.cells own nil sz els) → ∃ els0, new[id - C.H.length]? = some (Blk.cells own nil sz els0) ∧ els = renR (shiftρ C.H.length) els0 := by
    intro id own nil sz els hid h
    rw [hH2 id hid, Option.map_eq_some_iff] at h
    obtain ⟨B, hB, h⟩ := h
    cases B with
    | cells o n s e => simp only [renB, Blk.cells.injEq] at h; obtain ⟨rfl, rfl, rfl, rfl⟩ := h; exact ⟨e, hB, rfl⟩
    | _ => simp [renB] at h
  have hobjs : ∀ (id : Nat) (o : Ob), C.H.length ≤ id → (C.H ++ new.map (renB (shiftρ C.H.length)))[id]? = some (Blk.obj o) → ∃ o0, new[id - C.H.length]? = some (Blk.obj o0) ∧ o = renO (shiftρ C.H.length) o0 := by
    intro id o hid h
    rw [hH2 id hid, Option.map_eq_some_iff] at h
    obtain ⟨B, hB, h⟩ := h
    cases B with
    | obj o' => simp only [renB, Blk.obj.injEq] at h; subst h; exact ⟨o', hB, rfl⟩
    | _ => simp [renB] at h
  have hstep : Step C ⟨C.H ++ new.map (renB (shiftρ C.H.length)), C.m ++ m2, w', C.prot⟩ := by
    refine ⟨hs.os, hs.tape, hs.output, rfl, hs.size, by simp, fun b hb _ => hall b hb, fun b c e f hb => ⟨c, f, (hall b (lt_of_heap hb)).trans hb, rfl⟩, ?_, ?_, ?_, ?_⟩
    · rintro b (⟨id, nil, sz, els, base, h1, h2⟩ | ⟨id, o, h1, h0, h2⟩)
      · by_cases hid : id < C.H.length
        · dsimp only at h1 h2; rw [hH1 id hid] at h1; rw [hm1 id hid] at h2; exact .inl (.inl ⟨id, nil, sz, els, base, h1, h2⟩)
        · dsimp only at h1 h2
          obtain ⟨els0, h3, _⟩ := hcells id true nil sz els (by omega) h1
          rw [hm2 id (by omega)] at h2
          exact .inr (hfresh b (.inl ⟨_, nil, sz, els0, base, h3, h2⟩))
      · by_cases hid : id < C.H.length
        · dsimp only at h1 h2; rw [hH1 id hid] at h1; rw [hm1 id hid] at h2; exact .inl (.inr ⟨id, o, h1, h0, h2⟩)
        · dsimp only at h1 h2
          obtain ⟨o0, h3, e3⟩ := hobjs id o (by omega) h1
          rw [hm2 id (by omega)] at h2
          exact .inr (hfresh b (.inr ⟨_, o0, h3, renO_nx _ (e3 ▸ h0), h2⟩))
    · intro id B hB hr
      have hid := lt_of_get hB
      refine ⟨⟨B, (hH1 id hid).trans hB, hr⟩, fun own' nil' sz' els' h => ?_⟩
      dsimp only at h ⊢
      rw [hH1 id hid] at h
      exact ⟨own', els', by rw [hB] at h; exact Option.some.inj h, rfl, fun h => h, hm1 id hid⟩
    · intro id o ho
      have hid := lt_of_get ho
      exact ⟨o, (hH1 id hid).trans ho, hm1 id hid, rfl⟩
    · intro id o B ho hB hr
      have hid := lt_of_get hB
      dsimp only at ho
      rw [hH1 id hid, hB] at ho
      exact ⟨o, Option.some.inj ho⟩
  have hbad : ∀ b, ¬ Ctx.bad ⟨new, m2, w', C.bad⟩ b → ¬ Ctx.bad ⟨C.H ++ new.map (renB (shiftρ C.H.length)), C.m ++ m2, w', C.prot⟩ b := by
    rintro b hb ((⟨id, nil, sz, els, base, h1, h2⟩ | ⟨id, o, h1, h0, h2⟩) | h)
    · by_cases hid : id < C.H.length
      · dsimp only at h1 h2; rw [hH1 id hid] at h1; rw [hm1 id hid] at h2
        exact hb (.inr (.inl (.inl ⟨id, nil, sz, els, base, h1, h2⟩)))
      · dsimp only at h1 h2
        obtain ⟨els0, h3, _⟩ := hcells id true nil sz els (by omega) h1
        rw [hm2 id (by omega)] at h2
        exact hb (.inl (.inl ⟨_, nil, sz, els0, base, h3, h2⟩))
    · by_cases hid : id < C.H.length
      · dsimp only at h1 h2; rw [hH1 id hid] at h1; rw [hm1 id hid] at h2
        exact hb (.inr (.inl (.inr ⟨id, o, h1, h0, h2⟩)))
      · dsimp only at h1 h2
        obtain ⟨o0, h3, e3⟩ := hobjs id o (by omega) h1
        rw [hm2 id (by omega)] at h2
        exact hb (.inl (.inr ⟨_, o0, h3, renO_nx _ (e3 ▸ h0), h2⟩))
    · exact hb (.inr (.inr h))
  have hren : Renamed (shiftρ C.H.length) ⟨new, m2, w', C.bad⟩ ⟨C.H ++ new.map (renB (shiftρ C.H.length)), C.m ++ m2, w', C.prot⟩ := by
    refine ⟨rfl, hbad, fun id k hk B hB => ?_⟩
    simp only [shiftρ, Option.some.injEq] at hk
    subst hk
    dsimp only at hB ⊢
    rw [hH2 _ (by omega), hm2 _ (by omega), Nat.add_sub_cancel, hB]
    exact ⟨rfl, rfl⟩
  refine ⟨hstep, ⟨by simp [hR.len, hlenm], ?_, ?_, fun b hb => Nat.lt_of_lt_of_le (hR.prot b hb) hs.size, ?_, ?_, ?_, hR.glS hstep⟩, fun r u h => Conc.ren hren r u h⟩
  · intro id own nil sz els h
    dsimp only at h ⊢
    by_cases hid : id < C.H.length
    · rw [hH1 id hid] at h
      rw [hm1 id hid]
      rcases hR.blk id own nil sz els h with h1 | ⟨hn, b, base, c, e, h1, h2, h3, h4⟩
      · exact .inl h1
      · have hlt := lt_of_heap h3
        exact .inr ⟨hn, b, base, c, e, h1, h2, (hall b hlt).trans h3, RowsAt.keep hstep els b base sz (fun o _ _ => World.cell?_of_block (w := C.w) (hall b hlt)) h4⟩
    · obtain ⟨els0, h3, rfl⟩ := hcells id own nil sz els (by omega) h
      rw [hm2 id (by omega), renR_len]
      rcases hR2.blk _ own nil sz els0 h3 with h1 | ⟨hn, b, base, c, e, h1, h2, h4, h5⟩
      · exact .inl h1
      · exact .inr ⟨hn, b, base, c, e, h1, fun hp => h2 (.inr hp), h4, RowsAt.ren hren els0 b base sz h5⟩
  · intro id id' nil sz1 els1 own' nil' sz2 els2 b base base' hne h1 h2 h3 h4
    dsimp only at h1 h2 h3 h4
    by_cases hid : id < C.H.length
    · rw [hH1 id hid] at h1
      rw [hm1 id hid] at h3
      by_cases hid' : id' < C.H.length
      · rw [hH1 id' hid'] at h2
        rw [hm1 id' hid'] at h4
        exact hR.inj id id' nil sz1 els1 own' nil' sz2 els2 b base base' hne h1 h2 h3 h4
      · obtain ⟨els0, h5, rfl⟩ := hcells id' own' nil' sz2 els2 (by omega) h2
        rw [hm2 id' (by omega)] at h4
        rcases hR2.blk _ own' nil' sz2 els0 h5 with h6 | ⟨_, b2, base2, c, e, h6, h7, _⟩
        · dsimp only at h6; rw [h4] at h6; simp at h6
        · dsimp only at h6; rw [h4] at h6; simp at h6; obtain ⟨rfl, rfl⟩ := h6
          exact h7 (.inl (.inl ⟨id, nil, sz1, els1, base, h1, h3⟩))
    · obtain ⟨els0, h5, rfl⟩ := hcells id true nil sz1 els1 (by omega) h1
      rw [hm2 id (by omega)] at h3
      by_cases hid' : id' < C.H.length
      · rw [hH1 id' hid'] at h2
        rw [hm1 id' hid'] at h4
        have hfb := hfresh b (.inl ⟨_, nil, sz1, els0, base, h5, h3⟩)
        rcases hR.blk id' own' nil' sz2 els2 h2 with h6 | ⟨_, b2, base2, c, e, h6, _, h7, _⟩
        · rw [h4] at h6; simp at h6
        · rw [h4] at h6; simp at h6; obtain ⟨rfl, rfl⟩ := h6
          have := lt_of_heap h7
          omega
      · obtain ⟨els0', h5', rfl⟩ := hcells id' own' nil' sz2 els2 (by omega) h2
        rw [hm2 id' (by omega)] at h4
        exact hR2.inj _ _ nil sz1 els0 own' nil' sz2 els0' b base base' (by omega) h5 h5' h3 h4
  · intro id o ho hx0
    dsimp only at ho ⊢
    by_cases hid : id < C.H.length
    · rw [hH1 id hid] at ho
      rw [hm1 id hid]
      obtain ⟨b, x, h1, h2, h3, h4⟩ := hR.obj id o ho hx0
      exact ⟨b, x, h1, h2, (hall b (lt_of_heap h3)).trans h3, h4⟩
    · obtain ⟨o0, h, rfl⟩ := hobjs id o (by omega) ho
      rw [hm2 id (by omega)]
      obtain ⟨b, x, h1, h2, h3, h4⟩ := hR2.obj _ o0 h (renO_nx _ hx0)
      exact ⟨b, x, h1, fun hp => h2 (.inr hp), h3, (renO_is _ _ _).2 h4⟩
  · intro id id' o o' b base base' hne hx1 hx2 h1 h2 h3 h4
    dsimp only at h1 h2 h3 h4
    have hold : ∀ k o base, o ≠ .lpx → C.H[k]? = some (Blk.obj o) → C.m[k]? = some (some (b, base)) → b < C.w.heap.size := fun k o base hx h1 h2 => by
      obtain ⟨b', x, h5, _, h6, _⟩ := hR.obj k o h1 hx
      rw [h2] at h5; simp at h5; obtain ⟨rfl, rfl⟩ := h5
      exact lt_of_heap h6
    have hnewb : ∀ k o base, o ≠ .lpx → new[k]? = some (Blk.obj o) → m2[k]? = some (some (b, base)) → C.w.heap.size ≤ b := fun k o base hx h1 h2 => by
      obtain ⟨b', x, h5, _, h6, _⟩ := hR2.obj k o h1 hx
      dsimp only at h5
      rw [h2] at h5; simp at h5; obtain ⟨rfl, rfl⟩ := h5
      exact hfresh b (.inr ⟨k, o, h1, hx, h2⟩)
    by_cases hid : id < C.H.length
    · rw [hH1 id hid] at h1
      rw [hm1 id hid] at h3
      by_cases hid' : id' < C.H.length
      · rw [hH1 id' hid'] at h2
        rw [hm1 id' hid'] at h4
        exact hR.oinj id id' o o' b base base' hne hx1 hx2 h1 h2 h3 h4
      · obtain ⟨o0, h5, e5⟩ := hobjs id' o' (by omega) h2
        rw [hm2 id' (by omega)] at h4
        have := hold id o base hx1 h1 h3
        have := hnewb _ o0 base' (renO_nx _ (e5 ▸ hx2)) h5 h4
        omega
    · obtain ⟨o0, h5, e5⟩ := hobjs id o (by omega) h1
      rw [hm2 id (by omega)] at h3
      by_cases hid' : id' < C.H.length
      · rw [hH1 id' hid'] at h2
        rw [hm1 id' hid'] at h4
        have := hold id' o' base' hx2 h2 h4
        have := hnewb _ o0 base (renO_nx _ (e5 ▸ hx1)) h5 h3
        omega
      · obtain ⟨o1, h6, e6⟩ := hobjs id' o' (by omega) h2
        rw [hm2 id' (by omega)] at h4
        exact hR2.oinj _ _ o0 o1 b base base' (by omega) (renO_nx _ (e5 ▸ hx1)) (renO_nx _ (e6 ▸ hx2)) h5 h6 h3 h4
  · intro id r s ho t
    dsimp only at ho
    by_cases hid : id < C.H.length
    · rw [hH1 id hid] at ho
      exact Conc.mono hstep _ _ (hR.lps id r s ho t)
    · obtain ⟨o0, h, h6⟩ := hobjs id _ (by omega) ho
      cases o0 with
      | smap kd es => simp [renO] at h6
      | lpx => simp [renO] at h6
      | lp r0 s0 =>
        simp only [renO, Ob.lp.injEq] at h6
        obtain ⟨rfl, rfl⟩ := h6
        rw [look_ren]
        exact Conc.ren hren _ _ (hR2.lps _ _ _ h t)
end Go.Abs
/- Steps: operations and calls on an abstract state, and what they are worth. -/
namespace Go.Abs
open Go.RowKit

/-- a value with our slices read out, so deep -/
def rfy (h : Nat → Blk) : Nat → AV → AV
  | 0, v => v
  | d + 1, .lsl id i len => match h id with
    | .cells _ nil sz els => if len ≤ els.length - i then .sl nil sz (((els.drop i).take len).map fun r => r.map (rfy h d)) else .top
    | _ => .top
  | d + 1, .agg cs => .agg (cs.map (rfy h d))
  | _ + 1, v => v
def rfyL (h : Nat → Blk) (l : List AV) : List AV := l.map (rfy h 6)
/-- the blocks that are read -/
def lids (h : Nat → Blk) : Nat → AV → List Nat
  | 0, _ => []
  | d + 1, .lsl id i len => id :: (match h id with
    | .cells _ _ _ els => ((els.drop i).take len).flatMap fun r => r.flatMap (lids h d)
    | _ => [])
  | d + 1, .agg cs => cs.flatMap (lids h d)
  | _ + 1, _ => []
def lidsL (h : Nat → Blk) (l : List AV) : List Nat := l.flatMap (lids h 6)
def freeze1 (H : List Blk) (id : Nat) : List Blk :=
  match H[id]? with
  | some (.cells true nil sz els) => H.set id (.cells false nil sz els)
  | _ => H
def freeze (H : List Blk) : List Nat → List Blk
  | [] => H
  | id :: r => freeze (freeze1 H id) r

theorem freeze1_ok {C : Ctx} (hR : HeapRel C) (id : Nat) : Step C ⟨freeze1 C.H id, C.m, C.w, C.prot⟩ ∧ HeapRel ⟨freeze1 C.H id, C.m, C.w, C.prot⟩ := by
  unfold freeze1
  split
  · rename_i nil sz els h
    exact turn_ok hR h (.inr rfl)
  · exact ⟨Step.refl C, hR⟩
theorem freeze_ok {C : Ctx} (hR : HeapRel C) : ∀ ids : List Nat, Step C ⟨freeze C.H ids, C.m, C.w, C.prot⟩ ∧ HeapRel ⟨freeze C.H ids, C.m, C.w, C.prot⟩ := by
  intro ids
  induction ids generalizing C with
  | nil => exact ⟨Step.refl C, hR⟩
  | cons id r ih =>
    obtain ⟨h1, h2⟩ := freeze1_ok hR id
    obtain ⟨h3, h4⟩ := ih h2
    exact ⟨h1.trans h3, h4⟩

def notOwn : Blk → Prop
  | .cells true _ _ _ => False
  | _ => True
theorem freeze1_not {H : List Blk} {id k : Nat} {B : Blk} (h : (freeze1 H id)[k]? = some B) (hk : k = id ∨ ∃ B0, H[k]? = some B0 ∧ notOwn B0) : notOwn B := by
  unfold freeze1 at h
  split at h
  · rename_i nil sz els hc
    by_cases he : k = id
    · subst he; rw [set_get_eq (lt_of_get hc)] at h; simp at h; subst h; trivial
    · rw [set_get_ne (Ne.symm he)] at h
      rcases hk with hk | ⟨B0, hB0, hn⟩
      · exact (he hk).elim
      · rw [h] at hB0; simp at hB0; subst hB0; exact hn
  · rename_i hc
    rcases hk with rfl | ⟨B0, hB0, hn⟩
    · cases B with
      | cells own nil sz els =>
        cases own with
        | true => exact (hc nil sz els h).elim
        | false => trivial
      | _ => trivial
    · rw [h] at hB0; simp at hB0; subst hB0; exact hn
theorem freeze_get {H : List Blk} {k : Nat} : ∀ {ids : List Nat} {B : Blk}, (freeze H ids)[k]? = some B → ∃ B0, H[k]? = some B0 := by
  intro ids
  induction ids generalizing H with
  | nil => intro B h; exact ⟨B, h⟩
  | cons id r ih =>
    intro B h
    obtain ⟨B1, h1⟩ := ih h
    have hl := lt_of_get h1
    have : (freeze1 H id).length = H.length := by unfold freeze1; split <;> simp
    exact ⟨_, List.getElem?_eq_getElem (by omega)⟩
theorem freeze_not {k : Nat} : ∀ {ids : List Nat} {H : List Blk} {B : Blk}, (freeze H ids)[k]? = some B → (k ∈ ids ∨ ∃ B0, H[k]? = some B0 ∧ notOwn B0) → notOwn B := by
  intro ids
  induction ids with
  | nil =>
    intro H B h hk
    rcases hk with hk | ⟨B0, hB0, hn⟩
    · simp at hk
    · rw [show freeze H [] = H from rfl] at h; rw [h] at hB0; simp at hB0; subst hB0; exact hn
  | cons id r ih =>
    intro H B h hk
    by_cases hkr : k ∈ r
    · exact ih h (.inl hkr)
    · obtain ⟨B1, hB1⟩ := freeze_get (H := freeze1 H id) h
      refine ih h (.inr ⟨B1, hB1, freeze1_not hB1 ?_⟩)
      rcases hk with hk | hk
      · simp at hk; rcases hk with hk | hk
        · exact .inl hk
        · exact (hkr hk).elim
      · exact .inr hk

theorem plainL_all : ∀ {l : List AV}, plainL l = true → ∀ v ∈ l, plain v = true
  | [], _, v, hv => by simp at hv
  | a :: l, h, v, hv => by
    simp only [plainL, Bool.and_eq_true] at h
    rcases List.mem_cons.1 hv with rfl | hv
    · exact h.1
    · exact plainL_all h.2 v hv
theorem plainR_all : ∀ {l : List (List AV)}, plainR l = true → ∀ r ∈ l, plainL r = true
  | [], _, v, hv => by simp at hv
  | a :: l, h, v, hv => by
    simp only [plainR, Bool.and_eq_true] at h
    rcases List.mem_cons.1 hv with rfl | hv
    · exact h.1
    · exact plainR_all h.2 v hv
theorem ConcL.mapF {C : Ctx} {f : AV → AV} : ∀ {l : List AV} {us : List Value}, (∀ v ∈ l, ∀ u, Conc C v u → Conc C (f v) u) → ConcL C l us → ConcL C (l.map f) us
  | [], _, _, h => h
  | a :: l, us, hf, h => by
    simp only [ConcL, List.map_cons] at h ⊢
    obtain ⟨u, us', rfl, h1, h2⟩ := h
    exact ⟨u, us', rfl, hf a (by simp) u h1, ConcL.mapF (fun v hv => hf v (by simp [hv])) h2⟩
theorem CellsAt.map {C : Ctx} {f : AV → AV} {b : Nat} : ∀ {off : Nat} {l : List AV}, (∀ v ∈ l, isOne v = true → isOne (f v) = true ∧ ∀ u, Conc C v u → Conc C (f v) u) → CellsAt C b off l → CellsAt C b off (l.map f)
  | _, [], _, h => h
  | off, a :: l, hf, h => by
    simp only [CellsAt, List.map_cons] at h ⊢
    obtain ⟨⟨u, h1, h2, h3, h4⟩, h5⟩ := h
    obtain ⟨g1, g2⟩ := hf a (by simp) h3
    exact ⟨⟨u, h1, h2, g1, g2 u h4⟩, CellsAt.map (fun v hv => hf v (by simp [hv])) h5⟩
theorem RowsAt.map {C : Ctx} {f : AV → AV} {b sz : Nat} : ∀ {base : Nat} {l : List (List AV)}, (∀ r ∈ l, ∀ v ∈ r, isOne v = true → isOne (f v) = true ∧ ∀ u, Conc C v u → Conc C (f v) u) → RowsAt C b base sz l → RowsAt C b base sz (l.map fun r => r.map f)
  | _, [], _, h => h
  | base, r :: l, hf, h => by
    simp only [RowsAt, List.map_cons] at h ⊢
    exact ⟨by simpa using h.1, CellsAt.map (hf r (by simp)) h.2.1, RowsAt.map (fun r' hr => hf r' (by simp [hr])) h.2.2⟩
theorem isOne_rfy {h : Nat → Blk} {d : Nat} {v : AV} (h1 : isOne v = true) (hp : plain (rfy h d v) = true) : isOne (rfy h d v) = true := by
  cases d with
  | zero => exact h1
  | succ d =>
    cases v <;> (try exact h1)
    · simp only [rfy] at hp ⊢
      split at hp
      · split at hp
        · rename_i hl; rw [if_pos hl]; rfl
        · simp [plain] at hp
      · simp [plain] at hp

/-- read out, where the blocks are frozen -/
theorem conc_rfy {C : Ctx} (hR : HeapRel C) (h : Nat → Blk) (hh : ∀ id own nil sz els, h id = .cells own nil sz els → ∃ own', C.H[id]? = some (.cells own' nil sz els)) : ∀ (d : Nat) (v : AV) (u : Value), (∀ id ∈ lids h d v, ∀ B, C.H[id]? = some B → notOwn B) → plain (rfy h d v) = true → Conc C v u → Conc C (rfy h d v) u
  | 0, _, _, _, _, hc => hc
  | d + 1, .lsl id i len, u, hid, hp, hc => by
    simp only [rfy] at hp ⊢
    split at hp
    · rename_i own nil sz els hb
      obtain ⟨own', hH⟩ := hh id own nil sz els hb
      have hno := hid id (by simp [lids]) _ hH
      have hown : own' = false := by cases own' with | true => exact hno.elim | false => rfl
      subst hown
      split at hp
      · rename_i hl
        rw [if_pos hl]
        simp only [plain] at hp
        have hcell : ∀ r ∈ (els.drop i).take len, ∀ v ∈ r, isOne v = true → isOne (rfy h d v) = true ∧ ∀ u, Conc C v u → Conc C (rfy h d v) u := fun r hr v hv h1 => by
          have hpv : plain (rfy h d v) = true := plainL_all (plainR_all hp _ (List.mem_map.2 ⟨r, hr, rfl⟩)) _ (List.mem_map.2 ⟨v, hv, rfl⟩)
          exact ⟨isOne_rfy h1 hpv, fun u hu => conc_rfy hR h hh d v u (fun id' hid' => hid id' (by simp only [lids, hb]; exact List.mem_cons_of_mem _ (List.mem_flatMap.2 ⟨r, hr, List.mem_flatMap.2 ⟨v, hv, hid'⟩⟩))) hpv hu⟩
        simp only [Conc, hH] at hc ⊢
        have hnl : (((els.drop i).take len).map fun r => r.map (rfy h d)).length = len := by simp; omega
        rcases hc with ⟨rfl, hl0, rfl, rfl, hu⟩ | ⟨rfl, rfl, hi, ad, hu⟩ | ⟨rfl, b, base, cap, c, e, f, hm, hblk, hu, h3, h4, h5⟩
        · exact .inl ⟨rfl, by simp, hu⟩
        · have h0 : (els.drop i).take 0 = [] := rfl
          rw [h0]
          exact .inr (.inr ⟨rfl, rfl, ad, hu⟩)
        · have hrows : RowsAt C b base sz els ∧ ¬ C.prot b := by
            rcases hR.blk id false false sz els hH with ⟨h, _⟩ | ⟨_, b', base', c, e, h1, hpb, _, h3⟩
            · rw [hm] at h; simp at h
            · rw [hm] at h1; simp at h1; obtain ⟨rfl, rfl⟩ := h1; exact ⟨h3, hpb⟩
          refine .inr (.inl ⟨rfl, b, base + i * sz, cap, by rw [hnl]; exact hu, by omega, fun _ => ⟨?_, ⟨_, _, _, hblk⟩⟩, RowsAt.map hcell ((hrows.1.drop i).take len)⟩)
          rintro ((⟨id2, nil2, sz2, els2, base2, h6, h7⟩ | ⟨id2, o2, h6, h60, h7⟩) | h6)
          · by_cases hne : id2 = id
            · subst hne; rw [hH] at h6; simp at h6
            · exact hR.inj id2 id nil2 sz2 els2 false false sz els b base2 base hne h6 hH h7 hm
          · obtain ⟨b3, x3, h8, _, h9, h10⟩ := hR.obj id2 o2 h6 h60
            rw [h7] at h8; simp at h8; subst h8
            rw [hblk] at h9
            obtain rfl := Option.some.inj h9
            exact Ob.not_cells h10
          · exact hrows.2 h6
      · simp [plain] at hp
    · simp [plain] at hp
  | d + 1, .agg cs, u, hid, hp, hc => by
    simp only [rfy, plain] at hp ⊢
    simp only [Conc] at hc ⊢
    obtain ⟨us, hu, hl⟩ := hc
    exact ⟨us, hu, ConcL.mapF (fun v hv u hu => conc_rfy hR h hh d v u (fun id hi => hid id (by simp only [lids]; exact List.mem_flatMap.2 ⟨v, hv, hi⟩)) (plainL_all hp _ (List.mem_map.2 ⟨v, hv, rfl⟩)) hu) hl⟩
  | _ + 1, .lit _, _, _, _, hc => hc
  | _ + 1, .sl .., _, _, _, hc => hc
  | _ + 1, .emp, _, _, _, hc => hc
  | _ + 1, .adr .., _, _, _, hc => hc
  | _ + 1, .tup .., _, _, _, hc => hc
  | _ + 1, .loc .., _, _, _, hc => hc
  | _ + 1, .clo .., _, _, _, hc => hc
  | _ + 1, .top, _, _, _, hc => hc
  | _ + 1, .top1, _, _, _, hc => hc
  | _ + 1, .err, _, _, _, hc => hc
theorem concL_rfy {C : Ctx} (hR : HeapRel C) (h : Nat → Blk) (hh : ∀ id own nil sz els, h id = .cells own nil sz els → ∃ own', C.H[id]? = some (.cells own' nil sz els)) (l : List AV) (us : List Value) (hid : ∀ id ∈ lidsL h l, ∀ B, C.H[id]? = some B → notOwn B) (hp : plainL (rfyL h l) = true) (hc : ConcL C l us) : ConcL C (rfyL h l) us :=
  ConcL.mapF (fun v hv u hu => conc_rfy hR h hh 6 v u (fun id hi => hid id (List.mem_flatMap.2 ⟨v, hv, hi⟩)) (plainL_all hp _ (List.mem_map.2 ⟨v, hv, rfl⟩)) hu) hc
end Go.Abs
/- Regions, code, bodies. -/
namespace Go.Abs
open Go.RowKit

def target : AV → Option (FuncId × List AV × List AV)
  | .lit (.func (.func g) first cap) => some (g, first.toList.map ofValue, cap.toList.map ofValue)
  | .clo (.func g) first cap => some (g, first, cap)
  | _ => none

/-- the walk's fence: everything is let in; in a round, or not -/
abbrev FR (md : Option Nat) : Fence := { fn := fun _ => True, depth := none, alive := false, round := md }
/-- a call of yield: the same as of a function -/
def AYield (P : Program) (id : Nat) (args : List AV) (H : List Blk) (Q : AV → List Blk → Prop) : Prop :=
  ∀ (C : Ctx) (cargs : List Value) (b : Nat), C.H = H → HeapRel C → C.m[id]? = some (some (b, 0)) → ConcL C args cargs → YieldAt Fence.wide 0 P b cargs.toArray C.w fun e w' =>
    ∃ u r H' m', e = .returned u ∧ Q r H' ∧ Step C ⟨H', m', w', C.prot⟩ ∧ HeapRel ⟨H', m', w', C.prot⟩ ∧ Conc ⟨H', m', w', C.prot⟩ r u
theorem YieldAt.mono' {F : Fence} {m : Nat} {P : Program} {l : Nat} {args : Array Value} {W : World} {R R' : Ending → World → Prop} (h : YieldAt F m P l args W R) (hr : ∀ e w', R e w' → R' e w') : YieldAt F m P l args W R' := by
  obtain ⟨fn, tmps, assign, body, h1, h2⟩ := h
  exact ⟨fn, tmps, assign, body, h1, h2.mono hr⟩
theorem AYield.mono {P : Program} {l : Nat} {args : List AV} {H : List Blk} {Q Q' : AV → List Blk → Prop} (h : AYield P l args H Q) (hq : ∀ r H', Q r H' → Q' r H') : AYield P l args H Q' :=
  fun C cargs b h1 h2 h0 h3 => YieldAt.mono' (h C cargs b h1 h2 h0 h3) fun _ _ ⟨u, r, H', m', e1, e2, e3⟩ => ⟨u, r, H', m', e1, hq _ _ e2, e3⟩

def wcall (P : Program) (raw : Bool) (f : AV) (args : List AV) (dst : Option Nat) (σ : St) (K : St → Prop) : Prop :=
  match target f with
  | some (g, first, cap) =>
    if raw then ACall P g (first ++ args ++ cap) σ.heap fun r H' => K (St.put ⟨σ.slots, H'⟩ dst r)
    else plainL (rfyL (hget σ.heap) (first ++ args ++ cap)) = true ∧
      ACall P g (rfyL (hget σ.heap) (first ++ args ++ cap)) [] fun r new =>
        K (St.put ⟨σ.slots, freeze σ.heap (lidsL (hget σ.heap) (first ++ args ++ cap)) ++ new.map (renB (shiftρ σ.heap.length))⟩ dst (ren (shiftρ σ.heap.length) r))
  | none => match f with
    | .mp id => match hget σ.heap id with
      | .obj (.lp ..) => AYield P id args σ.heap fun r H' => K (St.put ⟨σ.slots, H'⟩ dst r)
      | _ => False
    | _ => False

def wrun (P : Program) (base : Nat) (o : AOper) (σ : St) (K : St → Prop) : Prop :=
  match o.op with
  | .call raw f args => wcall P raw (ev σ.get f) (args.map (ev σ.get)) o.dst σ K
  | op => (op.makes = true → σ.heap[base + o.fr]? = some .resv) ∧ match aop (base + o.fr) σ.get (hget σ.heap) op with
    | some (v, ws) => K (St.put ⟨σ.slots, writes σ.heap ws⟩ o.dst v)
    | none => False

def wstep (P : Program) (base : Nat) (o : AOper) (σ : St) (K : St → Prop) : Prop :=
  match o.guard with
  | none => wrun P base o σ K
  | some (g, want) => match σ.get g with
    | .lit (.bool b) => if b = want then wrun P base o σ K else K (σ.put o.dst (.lit undef))
    | .lit (.tuple _) => K (σ.put o.dst (.lit undef))
    | _ => False

def wops (P : Program) (base : Nat) : List AOper → St → (St → Prop) → Prop
  | [], σ, K => K σ
  | o :: r, σ, K => wstep P base o σ fun σ' => wops P base r σ' K

def trGuard (ops : Array Oper) : Option (Nat × Bool) → Option (Option (Nat × Bool))
  | none => some none
  | some (j, want) => ((ops[j]?).bind (·.dst)).map fun g => some (g, want)
def dstOk (N : Nat) : Option Tmp → Bool
  | none => true
  | some d => d < N
/-- what can't be told is bad: to be shown never reached -/
def trOp1 (P : Program) (muts : List FuncId) (op : Op) : AOp := (trOp P muts op).getD .bad
def trOpers (P : Program) (muts : List FuncId) (N : Nat) (ops : Array Oper) : Nat → List Oper → Option (List AOper × Nat)
  | k, [] => some ([], k)
  | k, o :: r => (trGuard ops o.guard).bind fun g =>
    if dstOk N o.dst then (trOpers P muts N ops (if (trOp1 P muts o.op).makes then k + 1 else k) r).map fun x => (⟨o.dst, trOp1 P muts o.op, g, k⟩ :: x.1, x.2) else none

section
variable {P : Program} {N : Nat} {C0 C : Ctx} {σ : St} {a : Act}

theorem get_put (σ : St) (d : Option Nat) (v : AV) (t : Nat) : (σ.put d v).get t = if d = some t then v else σ.get t := by
  cases d with
  | none => simp [St.put, St.get]
  | some d => simp [St.put, St.get, look]

theorem Rel.put {σ : St} {C' : Ctx} (h : Rel N C0 σ C a) (hs : Step C C') (hR : HeapRel C') {d : Option Nat} (hd : dstOk N d = true) {v : AV} {u : Value} (hv : Conc C' v u) : Rel N C0 (St.put ⟨σ.slots, C'.H⟩ d v) C' (a.put d u) := by
  have hheap : (St.put ⟨σ.slots, C'.H⟩ d v).heap = C'.H := by cases d <;> rfl
  refine ⟨hheap.symm, hR, h.step.trans hs, ⟨fun t => ?_⟩, by cases d <;> exact h.defers.mono h.rel hs, by cases d <;> simp [Act.put]; exact h.size; exact h.size⟩
  rw [get_put]
  have hold : Conc C' (St.get ⟨σ.slots, C'.H⟩ t) (a.tmps.getD t undef) := Conc.mono hs _ _ (h.slots.at_ t)
  cases d with
  | none => simpa [Act.put] using hold
  | some d =>
    simp only [dstOk, decide_eq_true_eq] at hd
    have hlt : d < a.tmps.size := Nat.lt_of_lt_of_le hd h.size
    by_cases hdt : d = t
    · subst hdt
      simp only [Act.put, if_true]
      have : (a.tmps.setIfInBounds d u).getD d undef = u := by simp [Array.getD, hlt]
      rw [this]; exact hv
    · have hne : ¬ (some d = some t) := fun h => hdt (Option.some.inj h)
      rw [if_neg hne]
      have : (a.tmps.setIfInBounds d u).getD t undef = a.tmps.getD t undef := by
        simp only [Array.getD_eq_getD_getElem?, Array.getElem?_setIfInBounds, if_neg hdt]
      simp only [Act.put]
      rw [this]; exact hold

theorem concL_ev {s : Nat → AV} (hS : Slots C s a) : ∀ l : List Operand, ConcL C ((l.map opd).map (ev s)) (l.map a.eval)
  | [] => rfl
  | x :: l => by simp only [List.map_cons, ConcL]; exact ⟨_, _, rfl, hS.ev x, concL_ev hS l⟩

theorem target_spec {f : AV} {u : Value} {g : FuncId} {first cap : List AV} (h : target f = some (g, first, cap)) (hc : Conc C f u) : ∃ uf uc, u = .func (.func g) uf uc ∧ ConcL C first uf.toList ∧ ConcL C cap uc.toList := by
  unfold target at h
  split at h
  · rename_i g' f' c'
    simp only [Option.some.injEq, Prod.mk.injEq] at h
    obtain ⟨rfl, rfl, rfl⟩ := h
    simp only [Conc] at hc
    subst hc
    exact ⟨f', c', rfl, concL_ofValue C _, concL_ofValue C _⟩
  · rename_i g' f' c'
    simp only [Option.some.injEq, Prod.mk.injEq] at h
    obtain ⟨rfl, rfl, rfl⟩ := h
    simp only [Conc] at hc
    exact hc
  · simp at h

/-- what stands behind an operation is reached -/
def Goes (N : Nat) (C0 : Ctx) (K : St → Prop) (a' : Act) (w' : World) : Prop := ∃ σ' C', C'.w = w' ∧ K σ' ∧ Rel N C0 σ' C' a'

/-- an operation in the walk's fence -/
theorem oper_in {md : Option Nat} {o : Oper} {w : World} {nxt : Act → World → Prop} {Q : Exit → Act → World → Prop} (hd : ∀ c, o.op ≠ .defer c) (h : o.uponIn (FR md) 0 P a nxt Q ((execOp a.eval o).run P w)) : o.wpIn (FR md) 0 P a w nxt Q :=
  ⟨fun _ _ => trivial, by rw [Oper.semAt_eq _ _ _ hd]; exact h⟩
theorem calls_in {md : Option Nat} {g : FuncId} {args : Array Value} {w : World} {R : Ending → World → Prop} (h : Calls P g args w R) : CallsIn (FR md) 0 P g args w R := by
  have h1 := (callsIn_wide (n := 0)).2 h
  exact ⟨trivial, fun cs hr => h1.2 cs (room_wide _)⟩

theorem call_ok {md : Option Nat} (h : Rel N C0 σ C a) {o : Oper} {raw : Bool} {f : Operand} {args : Array Operand} {ts : Array TypeId} (ho : o.op = .call { callee := .value f, args, argTypes := ts }) (hd : dstOk N o.dst = true) {K : St → Prop}
    (hw : wcall P raw (ev σ.get (opd f)) ((args.toList.map opd).map (ev σ.get)) o.dst σ K) {Q : Exit → Act → World → Prop} {nxt : Act → World → Prop} (hn : ∀ a' w', Goes N C0 K a' w' → nxt a' w') : o.wpIn (FR md) 0 P a C.w nxt Q := by
  obtain ⟨slots, heap⟩ := σ
  have hh := h.heap
  dsimp only at hh
  subst hh
  unfold wcall at hw
  dsimp only at hw
  split at hw
  · rename_i g first cap ht
    obtain ⟨uf, uc, hu, hf, hcp⟩ := target_spec ht (h.slots.ev f)
    have hargs : ConcL C (first ++ (args.toList.map opd).map (ev (St.get ⟨slots, C.H⟩)) ++ cap) (uf.toList ++ args.toList.map a.eval ++ uc.toList) := (hf.append (concL_ev h.slots _)).append hcp
    have hexec : (callFunc g (uf ++ args.map a.eval ++ uc)).run P C.w = .ok (.enter g (uf ++ args.map a.eval ++ uc)) C.w → (execOp a.eval o).run P C.w = .ok (.enter g (uf ++ args.map a.eval ++ uc)) C.w := by
      intro hcf
      simp only [Array.append_assoc] at hcf
      simp [execOp, ho, resolve, Deferred.ofValue, hu, invoke, hcf, Array.append_assoc]
    have harr : (uf.toList ++ args.toList.map a.eval ++ uc.toList).toArray = uf ++ args.map a.eval ++ uc := by
      rw [← Array.toList_inj]; simp
    split at hw
    · rename_i hraw
      refine oper_in (by rw [ho]; intro c hc; cases hc) ?_
      rw [hexec (hw.1 _ _), Oper.uponIn_enter]
      have := hw.2 C _ h.heap h.rel hargs
      rw [harr] at this
      refine ⟨fun h => (by cases h), calls_in (this.mono ?_)⟩
      rintro e w' ⟨u, r, H', m', rfl, hK, hs, hR, hc⟩
      exact hn _ _ ⟨_, ⟨_, _, w', C.prot⟩, rfl, hK, h.put hs hR hd hc⟩
    · rename_i hraw
      obtain ⟨hpl, hcall⟩ := hw
      refine oper_in (by rw [ho]; intro c hc; cases hc) ?_
      rw [hexec (hcall.1 _ _), Oper.uponIn_enter]
      obtain ⟨hs1, hR1⟩ := freeze_ok h.rel (lidsL (hget C.H) (first ++ (args.toList.map opd).map (ev (St.get ⟨slots, C.H⟩)) ++ cap))
      have hread := concL_rfy hR1 (hget C.H) (fun id own nil sz els hb => by
        have hb' : C.H[id]? = some (.cells own nil sz els) := hget_cells hb
        obtain ⟨⟨B', hB', _⟩, _⟩ := hs1.ids id _ hb' (by simp)
        -- frozen or not, the block's make is the same
        have : ∀ (ids : List Nat) (H : List Blk) own, H[id]? = some (.cells own nil sz els) → ∃ own', (freeze H ids)[id]? = some (.cells own' nil sz els) := by
          intro ids
          induction ids with
          | nil => intro H own h; exact ⟨own, h⟩
          | cons k r ih =>
            intro H own h
            have : ∃ own', (freeze1 H k)[id]? = some (.cells own' nil sz els) := by
              unfold freeze1
              split
              · rename_i n2 s2 e2 h2
                by_cases hk : id = k
                · subst hk
                  rw [h] at h2
                  simp at h2
                  obtain ⟨_, rfl, rfl, rfl⟩ := h2
                  exact ⟨false, set_get_eq (lt_of_get h)⟩
                · exact ⟨own, by rw [set_get_ne (Ne.symm hk)]; exact h⟩
              · exact ⟨own, h⟩
            obtain ⟨own', h'⟩ := this
            exact ih _ own' h'
        exact this _ _ own hb') _ _ (fun id hid B hB => freeze_not hB (.inl hid)) hpl (ConcL.mono hs1 _ _ hargs)
      have hiso := ConcL.plain (C' := ⟨[], [], C.w, Ctx.bad ⟨freeze C.H (lidsL (hget C.H) (first ++ (args.toList.map opd).map (ev (St.get ⟨slots, C.H⟩)) ++ cap)), C.m, C.w, C.prot⟩⟩) (C := ⟨freeze C.H (lidsL (hget C.H) (first ++ (args.toList.map opd).map (ev (St.get ⟨slots, C.H⟩)) ++ cap)), C.m, C.w, C.prot⟩) rfl
        (fun b hb => by rintro ((⟨id, _, _, _, _, h1, _⟩ | ⟨id, _, h1, _, _⟩) | h1); simp at h1; simp at h1; exact hb h1) _ _ hpl hread
      have hRiso : HeapRel ⟨[], [], C.w, Ctx.bad ⟨freeze C.H (lidsL (hget C.H) (first ++ (args.toList.map opd).map (ev (St.get ⟨slots, C.H⟩)) ++ cap)), C.m, C.w, C.prot⟩⟩ := by
        refine ⟨rfl, fun id _ _ _ _ h1 => by simp at h1, fun id id' _ _ _ _ _ _ _ _ _ _ _ h1 => by simp at h1, ?_, fun id _ h1 => by simp at h1, fun id _ _ _ _ _ _ _ _ _ h1 => by simp at h1, fun id _ _ h1 => by simp at h1, fun p hp => ⟨.inr (hR1.gl p hp).1, (hR1.gl p hp).2⟩⟩
        rintro b (h1 | h1)
        · obtain ⟨x, h2, _⟩ := own_holds hR1 h1
          exact lt_of_heap h2
        · exact hR1.prot b h1
      have := hcall.2 _ _ rfl hRiso hiso
      rw [harr] at this
      refine ⟨fun h => (by cases h), calls_in (this.mono ?_)⟩
      rintro e w' ⟨u, r, new, m', rfl, hK, hs, hR, hc⟩
      obtain ⟨h5, h6, h7⟩ := frame_call hR1 hs hR
      have hlen : (freeze C.H (lidsL (hget C.H) (first ++ (args.toList.map opd).map (ev (St.get ⟨slots, C.H⟩)) ++ cap))).length = C.H.length := by
        have : ∀ (ids : List Nat) (H : List Blk), (freeze H ids).length = H.length := by
          intro ids
          induction ids with
          | nil => intro H; rfl
          | cons k r ih => intro H; rw [freeze, ih]; unfold freeze1; split <;> simp
        exact this _ _
      dsimp only at h5 h6 h7
      rw [hlen] at h5 h6 h7
      exact hn _ _ ⟨_, ⟨_, _, w', C.prot⟩, rfl, hK, h.put (hs1.trans h5) h6 hd (h7 r u hc)⟩
  · split at hw
    · rename_i id hf
      split at hw
      rotate_left
      · exact hw.elim
      rename_i lr ls hl
      have hu := h.slots.ev f
      change Conc C (ev (St.get ⟨slots, C.H⟩) (opd f)) (a.eval f) at hu
      rw [hf] at hu
      have hH := hget_obj hl
      simp only [Conc, hH] at hu
      obtain ⟨l, hm, hu⟩ := hu
      simp only [Ob.val] at hu
      obtain ⟨fn, tmps, assign, body, hy, hround⟩ := hw C _ l h.heap h.rel hm (concL_ev h.slots args.toList)
      have harr : (args.toList.map a.eval).toArray = args.map a.eval := by rw [← Array.toList_inj]; simp
      rw [harr] at hy
      refine oper_in (by rw [ho]; intro c hc; cases hc) ?_
      have hexec : (execOp a.eval o).run P C.w = .ok (.round l fn tmps assign body) C.w := by
        simp [execOp, ho, resolve, Deferred.ofValue, hu, invoke, hy]
      rw [hexec, Oper.uponIn_round]
      refine ⟨fun h => (by cases h), ⟨trivial, fun c cs hr => ?_⟩⟩
      refine (hround.mono ?_).2 c cs (room_wide _)
      rintro e w' ⟨u, r, H', m', rfl, hK, hs, hR, hc⟩
      exact hn _ _ ⟨_, ⟨_, _, w', C.prot⟩, rfl, hK, h.put hs hR hd hc⟩
    · exact hw.elim
end
end Go.Abs
/- Operations that may change places. -/
namespace Go.Abs
open Go.RowKit

def opdT : Opd → List Nat
  | .tmp t => [t]
  | .val _ => []
def opds : AOp → List Opd
  | .mv x | .neg x | .not x | .cvInt _ x | .cvStr x | .cvB x | .ext x _ | .fld _ _ _ x | .box _ x | .load _ _ x | .faddr _ x | .len x | .lenS x | .nilck x | .eqNil _ x | .eqErr _ x | .cvS x => [x]
  | .mlook _ _ _ x k => [x, k]
  | .mset _ x k v => [x, k, v]
  | .pick c a b => [c, a, b]
  | .bin _ x y | .eqAgg _ _ x y | .eqBool _ x y | .store _ x y | .iaddrS _ x y | .iaddrA _ _ x y | .idxA _ _ _ x y | .idxS x y | .app _ _ x y | .mks _ _ _ x y | .copy x y => [x, y]
  | .build _ ps => ps.map (·.2.2)
  | .bslice _ _ _ ps => ps.map (·.2)
  | .alloc _ | .bad | .mkmap _ => []
  | .slc _ x lo hi => x :: (lo.toList ++ hi.toList)
  | .slc0 x h m => [x, h, m]
  | .slcS x lo hi => x :: (lo.toList ++ hi.toList)
  | .mkf _ f c => f ++ c
  | .minmax _ xs => xs
  | .call _ f args => f :: args

def topId : AV → List Nat
  | .loc id _ _ => [id]
  | .lsl id _ _ => [id]
  | .mp id => [id]
  | _ => []
def tops (s : Nat → AV) (op : AOp) : List Nat := (opds op).flatMap fun x => topId (ev s x)
/-- what an append writes, and what it only reads -/
def wtops (s : Nat → AV) : AOp → List Nat
  | .app _ _ a _ => topId (ev s a)
  | op => tops s op
def rtops (s : Nat → AV) : AOp → List Nat
  | .app _ _ _ x => topId (ev s x)
  | _ => []

inductive Kind where
  | S | R | A | W | P | C
  deriving DecidableEq
def kind : AOp → Kind
  | .eqNil .. | .faddr .. | .iaddrS .. | .iaddrA .. | .slc .. | .slc0 .. | .len .. | .nilck .. | .load .. | .mlook .. | .cvS .. => .R
  | .alloc .. | .box .. | .bslice .. | .mks .. | .mkmap .. => .A
  | .store .. | .copy .. | .mset .. => .W
  | .app .. => .P
  | .call .. => .C
  | _ => .S

theorem aop_s {fr : Nat} {s s' : Nat → AV} {h : Nat → Blk} {op : AOp} (he : ∀ x ∈ opds op, ev s x = ev s' x) : aop fr s h op = aop fr s' h op := by
  have hm : ∀ {l : List Opd}, (∀ x ∈ l, ev s x = ev s' x) → l.map (ev s) = l.map (ev s') := fun h => List.map_congr_left h
  have ho : ∀ {o : Option Opd}, (∀ x ∈ o.toList, ev s x = ev s' x) → o.map (ev s) = o.map (ev s') := fun {o} h => by cases o <;> simp_all
  cases op with
  | build z ps =>
    simp only [aop]
    have : ps.map (fun (o, n, x) => (o, n, ev s x)) = ps.map (fun (o, n, x) => (o, n, ev s' x)) := List.map_congr_left fun p hp => by
      obtain ⟨o, n, x⟩ := p
      show (o, n, ev s x) = (o, n, ev s' x)
      rw [he x (by simp only [opds, List.mem_map]; exact ⟨_, hp, rfl⟩)]
    rw [this]
  | bslice sz len z ps =>
    simp only [aop]
    have : ps.map (fun (i, x) => (i * sz, sz, ev s x)) = ps.map (fun (i, x) => (i * sz, sz, ev s' x)) := List.map_congr_left fun p hp => by
      obtain ⟨i, x⟩ := p
      show (i * sz, sz, ev s x) = (i * sz, sz, ev s' x)
      rw [he x (by simp only [opds, List.mem_map]; exact ⟨_, hp, rfl⟩)]
    rw [this]
  | slc sz x lo hi =>
    simp only [opds, List.mem_cons, List.mem_append] at he
    simp only [aop, he x (.inl rfl), ho (o := lo) (fun y hy => he y (.inr (.inl hy))), ho (o := hi) (fun y hy => he y (.inr (.inr hy)))]
  | slcS x lo hi =>
    simp only [opds, List.mem_cons, List.mem_append] at he
    simp only [aop, he x (.inl rfl), ho (o := lo) (fun y hy => he y (.inr (.inl hy))), ho (o := hi) (fun y hy => he y (.inr (.inr hy)))]
  | mkf fn f c =>
    simp only [opds, List.mem_append] at he
    simp only [aop, hm (l := f) (fun y hy => he y (.inl hy)), hm (l := c) (fun y hy => he y (.inr hy))]
  | minmax m xs =>
    have := hm (l := xs) he
    simp only [aop]
    rw [this]
  | _ => simp only [opds, List.mem_cons, List.not_mem_nil, or_false, forall_eq_or_imp, forall_eq] at he; simp only [aop, he]

/-- two blocks that read alike -/
def Alike (x y : Blk) : Prop := x = y ∨ ∃ o o' n z e, x = .cells o n z e ∧ y = .cells o' n z e

theorem lenOf_h {h h' : Nat → Blk} {v : AV} (hh : ∀ id ∈ topId v, Alike (h id) (h' id)) : lenOf h v = lenOf h' v := by
  cases v <;> simp only [lenOf]
  rename_i id i len
  rcases hh id (by simp [topId]) with h1 | ⟨o, o', n, z, e, h1, h2⟩
  · rw [h1]
  · rw [h1, h2]
theorem elsOf_a {h h' : Nat → Blk} {v : AV} (hh : ∀ id ∈ topId v, Alike (h id) (h' id)) : elsOf h v = elsOf h' v := by
  cases v <;> simp only [elsOf]
  rename_i id i len
  rcases hh id (by simp [topId]) with h1 | ⟨o, o', n, z, e, h1, h2⟩
  · rw [h1]
  · rw [h1, h2]
theorem elsOf_h {h h' : Nat → Blk} {v : AV} (hh : ∀ id ∈ topId v, h id = h' id) : elsOf h v = elsOf h' v := by
  cases v <;> simp only [elsOf]
  rename_i id i len
  rw [hh id (by simp [topId])]

theorem aop_h {fr : Nat} {s : Nat → AV} {h h' : Nat → Blk} {op : AOp} (hk : kind op = .S ∨ kind op = .A ∨ (kind op = .R ∧ ∀ id ∈ tops s op, Alike (h id) (h' id)) ∨ (kind op = .W ∧ ∀ id ∈ tops s op, h id = h' id) ∨ (kind op = .P ∧ (∀ id ∈ rtops s op, Alike (h id) (h' id)) ∧ ∀ id ∈ wtops s op, h id = h' id)) :
    aop fr s h op = aop fr s h' op := by
  have get : ∀ {x : Opd} {id : Nat}, x ∈ opds op → id ∈ topId (ev s x) → id ∈ tops s op := fun hx hid => List.mem_flatMap.2 ⟨_, hx, hid⟩
  have rd : (∀ id ∈ tops s op, Alike (h id) (h' id)) → ∀ {x : Opd} {id i len : Nat}, x ∈ opds op → (ev s x = .loc id i len ∨ ev s x = .lsl id i len) → Alike (h id) (h' id) := fun hk x id i len hx hv => hk id (get hx (by rcases hv with hv | hv <;> simp [hv, topId]))
  have rw' : (∀ id ∈ tops s op, h id = h' id) → ∀ {x : Opd} {id i len : Nat}, x ∈ opds op → (ev s x = .loc id i len ∨ ev s x = .lsl id i len) → h id = h' id := fun hk x id i len hx hv => hk id (get hx (by rcases hv with hv | hv <;> simp [hv, topId]))
  cases op <;> simp only [kind] at hk <;> (try (simp only [aop]; done))
  all_goals simp only [reduceCtorEq, false_or, or_false, true_and, false_and, or_self, or_true] at hk
  case mlook kd ok z x y =>
    simp only [aop]
    cases hy : ev s y <;> (try rfl)
    cases hv : ev s x <;> (try rfl)
    rename_i id
    dsimp only
    rcases hk id (get (x := x) (by simp [opds]) (by simp [hv, topId])) with h1 | ⟨o, o', n, z, e, h1, h2⟩
    · rw [h1]
    · rw [h1, h2]
  case mset kd x y z =>
    simp only [aop]
    cases hy : ev s y <;> (try rfl)
    cases hz : ev s z <;> (try rfl)
    cases hv : ev s x <;> (try rfl)
    rename_i id
    dsimp only
    rw [hk id (get (x := x) (by simp [opds]) (by simp [hv, topId]))]
  case cvS x =>
    simp only [aop]
    rw [elsOf_a (h := h) (h' := h') fun id hid => hk id (get (x := x) (by simp [opds]) hid)]
  case len x =>
    simp only [aop]
    rw [lenOf_h (h := h) (h' := h') fun id hid => hk id (get (x := x) (by simp [opds]) hid)]
  case app sz by_ x y =>
    simp only [aop]
    rw [elsOf_a (h := h) (h' := h') fun id hid => hk.1 id hid]
    split
    · split
      · cases hv : ev s x <;> (try rfl)
        · rename_i nl _ _; cases nl <;> rfl
        rename_i id i len
        dsimp only
        rw [hk.2 id (by simp [wtops, hv, topId])]
      · rfl
    · rfl
  case store n x y =>
    simp only [aop]
    cases hv : ev s x <;> (try rfl)
    rename_i id i len
    dsimp only
    rw [rw' hk (x := x) (by simp [opds]) (.inl hv)]
  case copy x y =>
    simp only [aop]
    rw [elsOf_h (h := h) (h' := h') fun id hid => hk id (get (x := y) (by simp [opds]) hid)]
    cases hv : ev s x <;> (try rfl)
    rename_i id i len
    dsimp only
    rw [rw' hk (x := x) (by simp [opds]) (.inr hv)]
  case iaddrS sz x y =>
    simp only [aop]
    cases hy : ev s y <;> (try rfl)
    rename_i vy
    cases vy <;> (try rfl)
    cases hv : ev s x <;> (try rfl)
    rename_i id i len
    dsimp only
    rcases rd hk (x := x) (by simp [opds]) (.inr hv) with h1 | ⟨o, o', n, z, e, h1, h2⟩
    · rw [h1]
    · rw [h1, h2]
  case iaddrA ln sz x y =>
    simp only [aop]
    cases hy : ev s y <;> (try rfl)
    rename_i vy
    cases vy <;> (try rfl)
    dsimp only
    split
    · cases hv : ev s x <;> (try rfl)
      rename_i id i len
      dsimp only
      rcases rd hk (x := x) (by simp [opds]) (.inl hv) with h1 | ⟨o, o', n, z, e, h1, h2⟩
      · rw [h1]
      · rw [h1, h2]
    · rfl
  case slc0 x a b =>
    simp only [aop]
    split
    · cases hv : ev s x <;> (try rfl)
      rename_i id i len
      dsimp only
      rcases rd hk (x := x) (by simp [opds]) (.inr hv) with h1 | ⟨o, o', n, z, e, h1, h2⟩
      · rw [h1]
      · rw [h1, h2]
    · rfl
  case load n g x =>
    simp only [aop]
    cases hv : ev s x <;> (try rfl)
    rename_i id i len
    dsimp only
    rcases rd hk (x := x) (by simp [opds]) (.inl hv) with h1 | ⟨o, o', n, z, e, h1, h2⟩
    · rw [h1]
    · rw [h1, h2]
  case faddr n x =>
    simp only [aop]
    cases hv : ev s x <;> (try rfl)
    rename_i id i len
    dsimp only
    rcases rd hk (x := x) (by simp [opds]) (.inl hv) with h1 | ⟨o, o', n, z, e, h1, h2⟩
    · rw [h1]
    · rw [h1, h2]
  case eqNil n x =>
    simp only [aop]
    cases hv : ev s x <;> (try rfl)
    rename_i id i len
    dsimp only
    rcases rd hk (x := x) (by simp [opds]) (.inr hv) with h1 | ⟨o, o', n, z, e, h1, h2⟩
    · rw [h1]
    · rw [h1, h2]
  case slc n x lo hi =>
    simp only [aop]
    cases hv : ev s x <;> (try rfl)
    rename_i id i len
    dsimp only
    rcases rd hk (x := x) (by simp [opds]) (.inr hv) with h1 | ⟨o, o', n, z, e, h1, h2⟩
    · rw [h1]
    · rw [h1, h2]
  case nilck x =>
    simp only [aop]
    cases hv : ev s x <;> (try rfl)
    case lit u => cases u <;> (try rfl); rename_i f _ _; cases f <;> rfl
    case clo f _ _ => cases f <;> rfl
    rename_i id i len
    dsimp only
    rcases rd hk (x := x) (by simp [opds]) (.inl hv) with h1 | ⟨o, o', n, z, e, h1, h2⟩
    · rw [h1]
    · rw [h1, h2]

/-- where an operation writes -/
def wids (s : Nat → AV) (base : Nat) (o : AOper) : List Nat :=
  match kind o.op with
  | .A => [base + o.fr]
  | .W => tops s o.op
  | .P => (base + o.fr) :: wtops s o.op
  | _ => []

theorem aop_ws {base : Nat} {s : Nat → AV} {h : Nat → Blk} {o : AOper} {v : AV} {ws : List (Nat × Blk)} (ha : aop (base + o.fr) s h o.op = some (v, ws)) : ∀ p ∈ ws, p.1 ∈ wids s base o := by
  obtain ⟨dst, op, guard, fr⟩ := o
  have get : ∀ {x : Opd} {id : Nat}, x ∈ opds op → id ∈ topId (ev s x) → id ∈ tops s op := fun hx hid => List.mem_flatMap.2 ⟨_, hx, hid⟩
  dsimp only at ha
  unfold wids
  dsimp only
  cases op <;> simp only [kind] <;> simp only [aop] at ha
  case store n x y =>
    cases hv : ev s x <;> rw [hv] at ha <;> (try (simp at ha; done))
    rename_i id i off
    dsimp only at ha
    repeat' split at ha
    all_goals first
      | (simp at ha; done)
      | (simp only [Option.some.injEq, Prod.mk.injEq] at ha
         obtain ⟨_, rfl⟩ := ha
         intro p hp
         simp only [List.mem_singleton] at hp
         subst hp
         exact get (x := x) (by simp [opds]) (by simp [hv, topId]))
  case copy x y =>
    cases hv : ev s x <;> rw [hv] at ha <;> (try (simp at ha; done))
    rename_i id i off
    dsimp only at ha
    repeat' split at ha
    all_goals first
      | (simp at ha; done)
      | (simp only [Option.some.injEq, Prod.mk.injEq] at ha
         obtain ⟨_, rfl⟩ := ha
         intro p hp
         simp only [List.mem_singleton] at hp
         subst hp
         exact get (x := x) (by simp [opds]) (by simp [hv, topId]))
  case mset kd x y z =>
    cases hy : ev s y <;> rw [hy] at ha <;> (try (simp at ha; done))
    cases hz : ev s z <;> rw [hz] at ha <;> (try (simp at ha; done))
    cases hv : ev s x <;> rw [hv] at ha <;> (try (simp at ha; done))
    rename_i id
    dsimp only at ha
    repeat' split at ha
    all_goals first
      | (simp at ha; done)
      | (simp only [Option.some.injEq, Prod.mk.injEq] at ha
         obtain ⟨_, rfl⟩ := ha
         intro p hp
         simp only [List.mem_singleton] at hp
         subst hp
         exact get (x := x) (by simp [opds]) (by simp [hv, topId]))
  case app sz by_ x y =>
    split at ha
    · split at ha
      · cases hv : ev s x <;> rw [hv] at ha <;> (try dsimp only at ha)
        all_goals repeat' split at ha
        all_goals first
          | (simp at ha; done)
          | (exfalso; simp_all; done)
          | (simp only [Option.some.injEq, Prod.mk.injEq] at ha
             obtain ⟨_, rfl⟩ := ha
             intro p hp
             simp only [List.mem_cons, List.not_mem_nil, or_false] at hp ⊢
             first
               | (left; rw [hp]; done)
               | (rcases hp with rfl | rfl
                  · exact .inr (by simp [wtops, hv, topId])
                  · exact .inl rfl))
      · simp at ha
    · simp at ha
  case call raw f args => simp at ha
  case bad => simp at ha
  all_goals repeat' split at ha
  all_goals first
    | (simp at ha; done)
    | (simp only [Option.some.injEq, Prod.mk.injEq] at ha
       obtain ⟨_, rfl⟩ := ha
       intro p hp
       simp only [List.mem_cons, List.not_mem_nil, or_false] at hp ⊢
       try rw [hp])
    | (simp only [Option.map_eq_some_iff, Option.bind_eq_some_iff] at ha
       first
        | (obtain ⟨_, _, ha⟩ := ha
           simp only [Prod.mk.injEq] at ha
           obtain ⟨_, rfl⟩ := ha
           intro p hp; simp at hp)
        | (obtain ⟨_, _, ha⟩ := ha
           simp only [Option.some.injEq, Prod.mk.injEq] at ha
           obtain ⟨_, rfl⟩ := ha
           intro p hp; simp at hp)
        | (obtain ⟨_, _, _, _, ha⟩ := ha
           simp only [Prod.mk.injEq] at ha
           obtain ⟨_, rfl⟩ := ha
           intro p hp; simp at hp))
    | skip
end Go.Abs
