/- From the operations of Go's to ours, all together. -/
import Derived.Test.YtodheeifecoebaaAbsM
set_option linter.all false
set_option linter.unusedVariables false
set_option linter.unusedSimpArgs false
set_option linter.unusedSectionVars false
namespace Go.Abs
open Go.RowKit

def isNilC : Operand → Bool
  | .const (.slice none 0 0) => true
  | _ => false
theorem isNilC_spec {x : Operand} (h : isNilC x = true) : x = .const (.slice none 0 0) := by
  unfold isNilC at h; split at h
  · rfl
  · simp at h

/-- functions that write into their slices (by number); a call that hands a function, a pointer or a struct of them shares our blocks -/
def sharesT (P : Program) : Nat → TypeId → Bool
  | 0, _ => true
  | d + 1, t => match P.underlying t with
    | some (.func ..) | some (.pointer _) => true
    | some (.slice e) => sharesT P d e
    | some (.array _ e) => sharesT P d e
    | some (.struct fs) => fs.any fun f => sharesT P d f.type
    | some (.int _) | some .string | some .bool => false
    | _ => true

def opB (P : Program) (op : BinOp) (t : TypeId) (x y : Operand) : Option AOp :=
  match op with
  | .eql | .neq =>
    let neq := op matches .neq
    match P.underlying t with
    | some (.int _) | some .string => some (.bin op (opd x) (opd y))
    | some .bool => some (.eqBool neq (opd x) (opd y))
    | some (.slice _) => if isNilC y then some (.eqNil neq (opd x)) else if isNilC x then some (.eqNil neq (opd y)) else none
    | some (.struct _) | some (.array _ _) => if P.eqGuardType P.depth t then none else (kindsOf P 12 t).map fun ks => .eqAgg neq ks (opd x) (opd y)
    | _ => none
  | _ => some (.bin op (opd x) (opd y))

def opC (P : Program) (muts : List FuncId) (c : Call) : Option AOp :=
  match c.callee with
  | .builtin .len => match c.args.toList, c.argTypes.toList with
    | [x], [t] => match P.underlying t with
      | some (.slice _) => some (.len (opd x))
      | some .string => some (.lenS (opd x))
      | _ => none
    | _, _ => none
  | .builtin .min => some (.minmax false (c.args.toList.map opd))
  | .builtin .max => some (.minmax true (c.args.toList.map opd))
  | .builtin .append => match c.args.toList, c.argTypes.toList with
    | [x, y], [t, tx] => match P.underlying t, P.underlying tx with
      | some (.slice e), some (.slice _) => match sizeT P e, bytesT P e, zeroT P e with
        | some sz, some by_, some z => if z.length = sz ∧ 0 < by_ then some (.app sz by_ (opd x) (opd y)) else none
        | _, _, _ => none
      | _, _ => none
    | _, _ => none
  | .builtin .copy => match c.args.toList, c.argTypes.toList with
    | [x, y], [t, _] => match P.underlying t with
      | some (.slice e) => if sizeT P e = some 1 then some (.copy (opd x) (opd y)) else none
      | _ => none
    | _, _ => none
  | .value f => match f with
    | .func g => some (.call (muts.contains g || c.argTypes.any (sharesT P 6)) (opd f) (c.args.toList.map opd))
    | _ => some (.call true (opd f) (c.args.toList.map opd))
  | _ => none

def zeroV (P : Program) (t : TypeId) : Option Value := (P.info? t).bind fun i => i.zero
def opMap (P : Program) (t : TypeId) : Option (KD × TypeId) := match P.underlying t with
  | some (.map k e) => (kdOf P k).map fun kd => (kd, e)
  | _ => none
theorem opMap_spec {P : Program} {t : TypeId} {kd : KD} {e : TypeId} (h : opMap P t = some (kd, e)) : ∃ k, P.underlying t = some (.map k e) ∧ kdOf P k = some kd := by
  unfold opMap at h
  split at h
  · rename_i k e' hu
    rw [Option.map_eq_some_iff] at h
    obtain ⟨kd', hk, h⟩ := h
    simp only [Prod.mk.injEq] at h
    obtain ⟨rfl, rfl⟩ := h
    exact ⟨k, hu, hk⟩
  · simp at h

def trOp (P : Program) (muts : List FuncId) : Op → Option AOp
  | .move x | .assign x => some (.mv (opd x))
  | .pick c a b => some (.pick (opd c) (opd a) (opd b))
  | .alloc t => match zeroT P t with
    | some z => if z.all isOne then some (.alloc z) else none
    | none => none
  | .box t x => (sizeT P t).map fun n => .box n (opd x)
  | .build t parts => match zeroT P t, placesOk P t, resolveParts (placeT P t) parts.toList with
    | some z, true, some pr => some (.build z pr)
    | _, _, _ => none
  | .buildSlice t len parts => match P.underlying t with
    | some (.slice e) => match sizeT P e, zeroT P e with
      | some sz, some z => if z.length = sz ∧ z.all isOne = true ∧ 0 < sz ∧ len * sz ≤ 2 ^ 24 ∧ (len = 0 → parts.toList.length = 0) then some (.bslice sz len z (parts.toList.map fun (i, x) => (i, opd x))) else none
      | _, _ => none
    | _ => none
  | .load t x => match sizeT P t, isAggT P t with
    | some n, some g => some (.load n g (opd x))
    | _, _ => none
  | .store t x y => (sizeT P t).map fun n => .store n (opd x) (opd y)
  | .nilCheck x => some (.nilck (opd x))
  | .binOp op t x y _ => opB P op t x y
  | .unOp .neg _ x => some (.neg (opd x))
  | .unOp .not _ x => some (.not (opd x))
  | .convert src dst x => match P.underlying src, P.underlying dst with
    | some (.int _), some (.int k) => some (.cvInt k (opd x))
    | some .string, some .string => some (.cvStr (opd x))
    | _, _ => none
  | .makeFunc fn first caps => some (.mkf fn (first.toList.map opd) (caps.toList.map opd))
  | .makeSlice t x y => match P.underlying t with
    | some (.slice e) => match sizeT P e, bytesT P e, zeroT P e with
      | some sz, some by_, some z => if z.length = sz ∧ z.all isOne = true then some (.mks sz by_ z (opd x) (opd y)) else none
      | _, _, _ => none
    | _ => none
  | .slice t x lo hi mx => match P.underlying t with
    | some (.slice e) => match sizeT P e with
      | some sz => match mx with
        | none => some (.slc sz (opd x) (lo.map opd) (hi.map opd))
        | some m => match lo, hi with
          | none, some h => some (.slc0 (opd x) (opd h) (opd m))
          | _, _ => none
      | none => none
    | some .string => match mx with
      | none => some (.slcS (opd x) (lo.map opd) (hi.map opd))
      | some _ => none
    | _ => none
  | .fieldAddr t x f => match P.underlying t with
    | some (.struct fs) => match fs[f]? with
      | some fd => match sizeT P fd.type with
        | some n => if n ≠ 0 then some (.faddr fd.offset (opd x)) else none
        | none => none
      | none => none
    | _ => none
  | .field t x f => match P.underlying t with
    | some (.struct fs) => match fs[f]? with
      | some fd => match sizeT P fd.type, isAggT P fd.type with
        | some n, some g => some (.fld fd.offset n g (opd x))
        | _, _ => none
      | none => none
    | _ => none
  | .indexAddr t x i => match P.underlying t with
    | some (.slice e) => (sizeT P e).map fun sz => .iaddrS sz (opd x) (opd i)
    | some (.array n e) => (sizeT P e).map fun sz => .iaddrA n sz (opd x) (opd i)
    | _ => none
  | .index t x i => match P.underlying t with
    | some (.array n e) => match sizeT P e, isAggT P e with
      | some sz, some g => some (.idxA n sz g (opd x) (opd i))
      | _, _ => none
    | some .string => some (.idxS (opd x) (opd i))
    | _ => none
  | .extract x i => some (.ext (opd x) i)
  | .makeMap t none => (opMap P t).map fun p => .mkmap p.1
  | .lookup t x k ok => (opMap P t).bind fun p => (zeroV P p.2).map fun z => .mlook p.1 ok z (opd x) (opd k)
  | .mapUpdate t x k v => (opMap P t).map fun p => .mset p.1 (opd x) (opd k) (opd v)
  | .call c => opC P muts c
  | _ => none

def AOp.isCall : AOp → Bool
  | .call .. => true
  | _ => false
def AOp.makes : AOp → Bool
  | .alloc _ | .box .. | .bslice .. | .app .. | .mks .. | .mkmap _ => true
  | _ => false

section
variable {P : Program} {C : Ctx} {s : Nat → AV} {a : Act} {o : Oper} {v : AV} {ws : List (Nat × Blk)} {fr : Nat}

theorem ok_op (hR : HeapRel C) (hS : Slots C s a) {muts : List FuncId} {ao : AOp} (ht : trOp P muts o.op = some ao) (hfr : ao.makes = true → C.H[fr]? = some .resv) (hc : ao.isCall = false)
    (h : aop fr s (hget C.H) ao = some (v, ws)) : OpOk P C a o v ws := by
  cases ho : o.op with
  | move x => rw [ho] at ht; simp only [trOp, Option.some.injEq] at ht; subst ht; exact ok_mv hR hS (.inl ho) h
  | assign x => rw [ho] at ht; simp only [trOp, Option.some.injEq] at ht; subst ht; exact ok_mv hR hS (.inr ho) h
  | pick c x y => rw [ho] at ht; simp only [trOp, Option.some.injEq] at ht; subst ht; exact ok_pick hR hS ho h
  | alloc t =>
    rw [ho] at ht; simp only [trOp] at ht
    split at ht
    · rename_i z hz
      split at ht
      · rename_i h1; simp only [Option.some.injEq] at ht; subst ht; exact ok_alloc hR ho hz h1 (hfr rfl) h
      · simp at ht
    · simp at ht
  | box t x =>
    rw [ho] at ht; simp only [trOp, Option.map_eq_some_iff] at ht
    obtain ⟨n, hn, rfl⟩ := ht
    exact ok_box hR hS ho (hfr rfl) h
  | build t parts =>
    rw [ho] at ht; simp only [trOp] at ht
    split at ht
    · rename_i z pr hz hp hpr; simp only [Option.some.injEq] at ht; subst ht; exact ok_build hR hS ho hz hp hpr h
    · simp at ht
  | buildSlice t len parts =>
    rw [ho] at ht; simp only [trOp] at ht
    split at ht
    · rename_i e he
      split at ht
      · rename_i sz z hsz hz
        split at ht
        · rename_i hc2
          obtain ⟨h1, h2, h3, h4, h5⟩ := hc2
          simp only [Option.some.injEq] at ht; subst ht
          exact ok_bslice hR hS ho he hsz hz h1 h2 h3 h4 (fun hl => List.eq_nil_of_length_eq_zero (h5 hl)) rfl (hfr rfl) h
        · simp at ht
      · simp at ht
    · simp at ht
  | load t x =>
    rw [ho] at ht; simp only [trOp] at ht
    split at ht
    · rename_i n g hn hg; simp only [Option.some.injEq] at ht; subst ht; exact ok_load hR hS ho hg hn h
    · simp at ht
  | store t x y =>
    rw [ho] at ht; simp only [trOp, Option.map_eq_some_iff] at ht
    obtain ⟨n, hn, rfl⟩ := ht
    exact ok_store hR hS ho hn h
  | nilCheck x => rw [ho] at ht; simp only [trOp, Option.some.injEq] at ht; subst ht; exact ok_nilck hR hS ho h
  | binOp op t x y ty =>
    rw [ho] at ht; simp only [trOp] at ht
    have hcmp : ∀ neq : Bool, o.op = .binOp (if neq then .neq else .eql) t x y ty → (match P.underlying t with
        | some (.int _) | some .string => some (AOp.bin (if neq then .neq else .eql) (opd x) (opd y))
        | some .bool => some (.eqBool neq (opd x) (opd y))
        | some (.slice _) => if isNilC y then some (.eqNil neq (opd x)) else if isNilC x then some (.eqNil neq (opd y)) else none
        | some (.struct _) | some (.array _ _) => if P.eqGuardType P.depth t then none else (kindsOf P 12 t).map fun ks => .eqAgg neq ks (opd x) (opd y)
        | _ => none) = some ao → OpOk P C a o v ws := by
      intro neq ho ht
      split at ht
      · simp only [Option.some.injEq] at ht; subst ht; exact ok_bin hR hS ho h
      · simp only [Option.some.injEq] at ht; subst ht; exact ok_bin hR hS ho h
      · rename_i hu; simp only [Option.some.injEq] at ht; subst ht; exact ok_eqBool hR hS ho hu h
      · rename_i e hu
        split at ht
        · rename_i hn; simp only [Option.some.injEq] at ht; subst ht; exact ok_eqNil hR hS ho hu (.inl ⟨rfl, isNilC_spec hn⟩) h
        · split at ht
          · rename_i hn; simp only [Option.some.injEq] at ht; subst ht; exact ok_eqNil hR hS ho hu (.inr ⟨rfl, isNilC_spec hn⟩) h
          · simp at ht
      · rename_i fs hu
        split at ht
        · simp at ht
        · rename_i hg
          simp only [Option.map_eq_some_iff] at ht
          obtain ⟨ks, hk, rfl⟩ := ht
          exact ok_eqAgg hR hS ho hk (isAggT_basic hu) (by simpa using hg) h
      · rename_i n e hu
        split at ht
        · simp at ht
        · rename_i hg
          simp only [Option.map_eq_some_iff] at ht
          obtain ⟨ks, hk, rfl⟩ := ht
          exact ok_eqAgg hR hS ho hk (isAggT_basic hu) (by simpa using hg) h
      · simp at ht
    cases op with
    | eql => exact hcmp false (by simpa using ho) (by simpa [opB] using ht)
    | neq => exact hcmp true (by simpa using ho) (by simpa [opB] using ht)
    | _ => simp only [opB, Option.some.injEq] at ht; subst ht; exact ok_bin hR hS ho h
  | unOp op t x =>
    rw [ho] at ht
    cases op with
    | neg => simp only [trOp, Option.some.injEq] at ht; subst ht; exact ok_neg hR hS ho h
    | not => simp only [trOp, Option.some.injEq] at ht; subst ht; exact ok_not hR hS ho h
    | _ => simp [trOp] at ht
  | convert src dst x =>
    rw [ho] at ht; simp only [trOp] at ht
    split at ht
    · rename_i k k' h1 h2; simp only [Option.some.injEq] at ht; subst ht; exact ok_cvInt hR hS ho h1 h2 h
    · rename_i h1 h2; simp only [Option.some.injEq] at ht; subst ht; exact ok_cvStr hR hS ho h1 h2 h
    · simp at ht
  | makeFunc fn first caps => rw [ho] at ht; simp only [trOp, Option.some.injEq] at ht; subst ht; exact ok_mkf hR hS ho h
  | makeSlice t x y =>
    rw [ho] at ht; simp only [trOp] at ht
    split at ht
    · rename_i e he
      split at ht
      · rename_i sz by_ z hsz hby hz
        split at ht
        · rename_i hc2; simp only [Option.some.injEq] at ht; subst ht; exact ok_mks hR hS ho he hsz hby hz hc2.1 hc2.2 (hfr rfl) h
        · simp at ht
      · simp at ht
    · simp at ht
  | slice t x lo hi mx =>
    rw [ho] at ht; simp only [trOp] at ht
    split at ht
    · rename_i e he
      split at ht
      · rename_i sz hsz
        split at ht
        · simp only [Option.some.injEq] at ht; subst ht; exact ok_slc hR hS ho he hsz h
        · split at ht
          · simp only [Option.some.injEq] at ht; subst ht; exact ok_slc0 hR hS ho he hsz h
          · simp at ht
      · simp at ht
    · rename_i hs
      split at ht
      · simp only [Option.some.injEq] at ht; subst ht; exact ok_slcS hR hS ho hs h
      · simp at ht
    · simp at ht
  | fieldAddr t x f =>
    rw [ho] at ht; simp only [trOp] at ht
    split at ht
    · rename_i fs hfs
      split at ht
      · rename_i fd hfd
        split at ht
        · rename_i n hn
          split at ht
          · rename_i h0; simp only [Option.some.injEq] at ht; subst ht; exact ok_faddr hR hS ho hfs hfd hn h0 h
          · simp at ht
        · simp at ht
      · simp at ht
    · simp at ht
  | field t x f =>
    rw [ho] at ht; simp only [trOp] at ht
    split at ht
    · rename_i fs hfs
      split at ht
      · rename_i fd hfd
        split at ht
        · rename_i n g hn hg; simp only [Option.some.injEq] at ht; subst ht; exact ok_fld hR hS ho hfs hfd hg hn h
        · simp at ht
      · simp at ht
    · simp at ht
  | indexAddr t x i =>
    rw [ho] at ht; simp only [trOp] at ht
    split at ht
    · rename_i e he; simp only [Option.map_eq_some_iff] at ht; obtain ⟨sz, hsz, rfl⟩ := ht; exact ok_iaddrS hR hS ho he hsz h
    · rename_i n e he; simp only [Option.map_eq_some_iff] at ht; obtain ⟨sz, hsz, rfl⟩ := ht; exact ok_iaddrA hR hS ho he hsz h
    · simp at ht
  | index t x i =>
    rw [ho] at ht; simp only [trOp] at ht
    split at ht
    · rename_i n e he
      split at ht
      · rename_i sz g hsz hg; simp only [Option.some.injEq] at ht; subst ht; exact ok_idxA hR hS ho he hg hsz h
      · simp at ht
    · rename_i hs; simp only [Option.some.injEq] at ht; subst ht; exact ok_idxS hR hS ho hs h
    · simp at ht
  | extract x i => rw [ho] at ht; simp only [trOp, Option.some.injEq] at ht; subst ht; exact ok_ext hR hS ho h
  | makeMap t r =>
    rw [ho] at ht
    cases r with
    | none =>
      simp only [trOp, Option.map_eq_some_iff] at ht
      obtain ⟨⟨kd, e⟩, _, rfl⟩ := ht
      exact ok_mkmap hR ho (hfr rfl) h
    | some r => simp [trOp] at ht
  | lookup t x k ok =>
    rw [ho] at ht; simp only [trOp, Option.bind_eq_some_iff, Option.map_eq_some_iff] at ht
    obtain ⟨⟨kd, e⟩, h1, z, hz, rfl⟩ := ht
    obtain ⟨k', h2, h3⟩ := opMap_spec h1
    refine ok_mlook hR hS ho h2 h3 (fun w => ?_) h
    unfold zeroV at hz
    rw [Option.bind_eq_some_iff] at hz
    obtain ⟨i, hi, hz⟩ := hz
    simp [zeroValue, typeInfo, hi, hz]
  | mapUpdate t x k v' =>
    rw [ho] at ht; simp only [trOp, Option.map_eq_some_iff] at ht
    obtain ⟨⟨kd, e⟩, h1, rfl⟩ := ht
    obtain ⟨k', h2, h3⟩ := opMap_spec h1
    exact ok_mset hR hS ho h2 h3 h
  | call c =>
    rw [ho] at ht; simp only [trOp] at ht
    obtain ⟨callee, args, argTypes⟩ := c
    obtain ⟨args⟩ := args
    obtain ⟨argTypes⟩ := argTypes
    unfold opC at ht
    dsimp only at ht
    split at ht
    · split at ht
      · split at ht
        · rename_i he; simp only [Option.some.injEq] at ht; subst ht; exact ok_len hR hS ho he h
        · rename_i he; simp only [Option.some.injEq] at ht; subst ht; exact ok_lenS hR hS ho he h
        · simp at ht
      · simp at ht
    · simp only [Option.some.injEq] at ht; subst ht; exact ok_minmax (mx := false) hR hS ho h
    · simp only [Option.some.injEq] at ht; subst ht; exact ok_minmax (mx := true) hR hS ho h
    · split at ht
      · split at ht
        · rename_i he he2
          split at ht
          · rename_i sz by_ z hsz hby hz
            split at ht
            · rename_i hc2; simp only [Option.some.injEq] at ht; subst ht; exact ok_app hR hS ho he he2 hsz hby hc2.2 hz hc2.1 (hfr rfl) h
            · simp at ht
          · simp at ht
        · simp at ht
      · simp at ht
    · split at ht
      · split at ht
        · rename_i he
          split at ht
          · rename_i hsz; simp only [Option.some.injEq] at ht; subst ht; exact ok_copy hR hS ho he hsz h
          · simp at ht
        · simp at ht
      · simp at ht
    · split at ht <;> (simp only [Option.some.injEq] at ht; subst ht; simp [AOp.isCall] at hc)
    · simp at ht
  | _ => rw [ho] at ht; simp [trOp] at ht
end
end Go.Abs
