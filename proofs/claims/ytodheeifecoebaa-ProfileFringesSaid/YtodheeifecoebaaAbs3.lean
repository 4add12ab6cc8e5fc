/- Operations that leave the world alone: from Go's to ours, and that ours is true. -/
import Derived.Test.YtodheeifecoebaaAbs2
import Derived.Laws.StructEq
set_option linter.all false
set_option linter.unusedVariables false
set_option linter.unusedSimpArgs false
set_option linter.unusedSectionVars false
namespace Go.Abs
open Go.RowKit

def hget (H : List Blk) (id : Nat) : Blk := (H[id]?).getD .resv
theorem hget_cells {H : List Blk} {id : Nat} {own nil : Bool} {sz : Nat} {els : List (List AV)} (h : hget H id = .cells own nil sz els) : H[id]? = some (.cells own nil sz els) := by
  unfold hget at h
  cases hb : H[id]? with
  | none => rw [hb] at h; simp at h
  | some b => rw [hb] at h; simp at h; rw [h]

def opd : Operand → Opd
  | .tmp t => .tmp t
  | .const v => .val (ofValue v)
  | .global g => .val (.lit (.pointer (some ⟨g, 0, none⟩)))
  | .func f => .val (.lit (.func (.func f) #[] #[]))

def aggD : TypeDesc → Bool
  | .struct _ | .array _ _ => true
  | _ => false
def isAggT (P : Program) (t : TypeId) : Option Bool := (P.underlying t).map aggD
def sizeT (P : Program) (t : TypeId) : Option Nat := (P.info? t).map (·.size)
def bytesT (P : Program) (t : TypeId) : Option Nat := (P.info? t).map (·.bytes)
def zeroT (P : Program) (t : TypeId) : Option (List AV) := (P.info? t).bind fun i => i.zero.map fun z => z.cells.toList.map ofValue

def kindsFs (k : TypeId → Option (List CK)) (P : Program) : List Field → Nat → Option (List CK)
  | [], _ => some []
  | f :: fs, off =>
    if f.name = "_" ∨ f.offset ≠ off then none else
    (k f.type).bind fun a => if sizeT P f.type = some a.length then (kindsFs k P fs (off + a.length)).map (a ++ ·) else none
def kindsOf (P : Program) : Nat → TypeId → Option (List CK)
  | 0, _ => none
  | d + 1, t => match P.underlying t with
    | some (.int _) => some [.ci]
    | some .string => some [.cs]
    | some .bool => some [.cb]
    | some (.struct fs) => if P.stoodInHeld t then none else kindsFs (kindsOf P d) P fs.toList 0
    | some (.array n e) => (kindsOf P d e).bind fun a => if sizeT P e = some a.length then some (List.replicate n a).flatten else none
    | _ => none

structure Slots (C : Ctx) (s : Nat → AV) (a : Act) : Prop where
  at_ : ∀ t, Conc C (s t) (a.tmps.getD t undef)

theorem Slots.ev {C : Ctx} {s : Nat → AV} {a : Act} (h : Slots C s a) : ∀ x : Operand, Conc C (Abs.ev s (opd x)) (a.eval x)
  | .tmp t => h.at_ t
  | .const v => conc_ofValue C v
  | .global g => by simp [opd, Abs.ev, Conc, Act.eval]
  | .func f => by simp [opd, Abs.ev, Conc, Act.eval]

def writes (H : List Blk) : List (Nat × Blk) → List Blk
  | [] => H
  | (i, b) :: r => writes (H.set i b) r

/-- what one operation is worth -/
def OpOk (P : Program) (C : Ctx) (a : Act) (o : Oper) (v : AV) (ws : List (Nat × Blk)) : Prop :=
  ∃ u w' m', ((execOp a.eval o).run P C.w = .ok (.value u) w' ∨ ((execOp a.eval o).run P C.w = .ok .skip w' ∧ u = undef)) ∧
    Step C ⟨writes C.H ws, m', w', C.prot⟩ ∧ HeapRel ⟨writes C.H ws, m', w', C.prot⟩ ∧ Conc ⟨writes C.H ws, m', w', C.prot⟩ v u

theorem OpOk.same {P : Program} {C : Ctx} {a : Act} {o : Oper} {v : AV} {u : Value} (hR : HeapRel C) (h : (execOp a.eval o).run P C.w = .ok (.value u) C.w) (hc : Conc C v u) : OpOk P C a o v [] :=
  ⟨u, C.w, C.m, .inl h, Step.refl C, hR, hc⟩

section
variable {P : Program} {C : Ctx} {s : Nat → AV} {a : Act} {o : Oper} {v : AV} {ws : List (Nat × Blk)} {fr : Nat}

theorem Slots.lit (hS : Slots C s a) {x : Operand} {u : Value} (h : Abs.ev s (opd x) = .lit u) : a.eval x = u := by
  have := hS.ev x
  rw [h] at this
  simpa [Conc] using this

theorem ok_mv (hR : HeapRel C) (hS : Slots C s a) {x : Operand} (ho : o.op = .move x ∨ o.op = .assign x) (h : aop fr s (hget C.H) (.mv (opd x)) = some (v, ws)) : OpOk P C a o v ws := by
  simp only [aop, Option.some.injEq, Prod.mk.injEq] at h
  obtain ⟨rfl, rfl⟩ := h
  refine OpOk.same hR (u := a.eval x) ?_ (hS.ev x)
  rcases ho with ho | ho <;> simp [execOp, ho]

theorem ok_pick (hR : HeapRel C) (hS : Slots C s a) {c x y : Operand} (ho : o.op = .pick c x y) (h : aop fr s (hget C.H) (.pick (opd c) (opd x) (opd y)) = some (v, ws)) : OpOk P C a o v ws := by
  simp only [aop] at h
  have hx := hS.ev x
  have hy := hS.ev y
  split at h
  · rename_i b vx vy h1 h2 h3
    simp only [Option.some.injEq, Prod.mk.injEq] at h
    obtain ⟨rfl, rfl⟩ := h
    have hc := hS.lit h1
    rw [h2] at hx; rw [h3] at hy
    simp only [Conc] at hx hy
    refine OpOk.same hR (u := if b then vx else vy) ?_ (by simp [Conc])
    simp [execOp, ho, hc, asBool, hx, hy]
  · rename_i b h1 _
    simp only [Option.some.injEq, Prod.mk.injEq] at h
    obtain ⟨rfl, rfl⟩ := h
    have hc := hS.lit h1
    refine OpOk.same hR (u := if b then a.eval x else a.eval y) ?_ ?_
    · simp [execOp, ho, hc, asBool]
    · cases b <;> simp [hx, hy]
  · simp at h

theorem run_binV {op : BinOp} {t : TypeId} {x y r : Value} {w : World} (h : binV op x y = some r) : (binOp op t x y).run P w = .ok r w := by
  unfold binV at h
  split at h
  · rename_i k a k' b
    split at h
    · rename_i hop
      subst hop
      split at h
      · simp at h
      · rename_i hb
        simp only [Option.some.injEq] at h
        subst h
        simp [binOp, Op.shift, hb]
    split at h
    · rename_i hop
      subst hop
      split at h
      · simp at h
      · rename_i hb
        simp only [Option.some.injEq] at h
        subst h
        simp [binOp, Op.shift, hb]
    split at h
    · rename_i hk
      subst hk
      cases op <;> simp at h <;> first
        | (subst h; simp [binOp, Op.intArith, Op.intCmp, Op.intBits]; done)
        | (obtain ⟨hb, rfl⟩ := h; simp [binOp, Op.intDiv, hb])
    · simp at h
  · rename_i a b
    cases op <;> simp at h <;> first
      | (subst h; simp [binOp, Op.stringOp]; done)
      | (obtain ⟨hb, rfl⟩ := h; simp only [binOp, Op.stringOp]; rw [if_neg (by push_cast; intro h'; exact absurd hb (by simpa using h'))]; rfl)
  · simp at h

theorem eqGuard_bin {op : BinOp} {t : TypeId} {x y : Operand} {p q r : Value} {w : World} (h : binV op p q = some r) : (eqGuard op t x y p q).run P w = .ok () w := by
  unfold binV at h
  split at h
  · cases op <;> simp [eqGuard]
  · cases op <;> simp [eqGuard]
  · simp at h

theorem ok_bin (hR : HeapRel C) (hS : Slots C s a) {op : BinOp} {t ty : TypeId} {x y : Operand} (ho : o.op = .binOp op t x y ty) (h : aop fr s (hget C.H) (.bin op (opd x) (opd y)) = some (v, ws)) : OpOk P C a o v ws := by
  simp only [aop] at h
  split at h
  · rename_i p q h1 h2
    simp only [Option.map_eq_some_iff, Prod.mk.injEq] at h
    obtain ⟨r, hr, rfl, rfl⟩ := h
    refine OpOk.same hR (u := r) ?_ (by simp [Conc])
    simp [execOp, ho, hS.lit h1, hS.lit h2, run_binV hr, eqGuard_bin hr]
  · simp at h

theorem ok_eqBool (hR : HeapRel C) (hS : Slots C s a) {neq : Bool} {t ty : TypeId} {x y : Operand} (ho : o.op = .binOp (if neq then .neq else .eql) t x y ty) (ht : P.underlying t = some .bool)
    (h : aop fr s (hget C.H) (.eqBool neq (opd x) (opd y)) = some (v, ws)) : OpOk P C a o v ws := by
  simp only [aop] at h
  split at h
  · rename_i p q h1 h2
    simp only [Option.some.injEq, Prod.mk.injEq] at h
    obtain ⟨rfl, rfl⟩ := h
    refine OpOk.same hR (u := .bool (if neq then !(p == q) else p == q)) ?_ (by simp [Conc, boolV])
    have e := run_equalIn_bool' (P := P) C.w 9999 t p q ht
    cases neq
    · simp only [execOp, ho, hS.lit h1, hS.lit h2, eqGuard]
      simp [show ∀ w : World, (binOp .eql t (.bool p) (.bool q)).run P w = .ok (.bool (p == q)) w from fun w => by
        simp only [binOp]; simp [Op.equal, Op.maxDepth, run_equalIn_bool' (P := P) w 9999 t p q ht]]
    · simp only [execOp, ho, hS.lit h1, hS.lit h2, eqGuard]
      simp [show ∀ w : World, (binOp .neq t (.bool p) (.bool q)).run P w = .ok (.bool (!(p == q))) w from fun w => by
        simp only [binOp]; simp [Op.equal, Op.maxDepth, run_equalIn_bool' (P := P) w 9999 t p q ht]]
  · simp at h

theorem ok_neg (hR : HeapRel C) (hS : Slots C s a) {t : TypeId} {x : Operand} (ho : o.op = .unOp .neg t x) (h : aop fr s (hget C.H) (.neg (opd x)) = some (v, ws)) : OpOk P C a o v ws := by
  simp only [aop] at h
  split at h
  · rename_i k n h1
    simp only [Option.some.injEq, Prod.mk.injEq] at h
    obtain ⟨rfl, rfl⟩ := h
    exact OpOk.same hR (u := .int k (k.wrap (0 - n))) (by simp [execOp, ho, hS.lit h1, Op.unary, Op.intArith]) (by simp [Conc])
  · simp at h
theorem ok_not (hR : HeapRel C) (hS : Slots C s a) {t : TypeId} {x : Operand} (ho : o.op = .unOp .not t x) (h : aop fr s (hget C.H) (.not (opd x)) = some (v, ws)) : OpOk P C a o v ws := by
  simp only [aop] at h
  split at h
  · rename_i b h1
    simp only [Option.some.injEq, Prod.mk.injEq] at h
    obtain ⟨rfl, rfl⟩ := h
    exact OpOk.same hR (u := .bool (!b)) (by simp [execOp, ho, hS.lit h1, Op.unary]) (by simp [Conc, boolV])
  · simp at h
theorem ok_cvInt (hR : HeapRel C) (hS : Slots C s a) {src dst : TypeId} {d : TypeDesc} {k : IntKind} {x : Operand} (ho : o.op = .convert src dst x) (h1 : P.underlying src = some d) (h2 : P.underlying dst = some (.int k))
    (h : aop fr s (hget C.H) (.cvInt k (opd x)) = some (v, ws)) : OpOk P C a o v ws := by
  simp only [aop] at h
  split at h
  · rename_i k' n h3
    simp only [Option.some.injEq, Prod.mk.injEq] at h
    obtain ⟨rfl, rfl⟩ := h
    exact OpOk.same hR (u := .int k (k.wrap n)) (by simp [execOp, ho, hS.lit h3, convert, run_underlying h1, run_underlying h2, Conv.intToInt]) (by simp [Conc])
  · simp at h
theorem ok_cvStr (hR : HeapRel C) (hS : Slots C s a) {src dst : TypeId} {x : Operand} (ho : o.op = .convert src dst x) (h1 : P.underlying src = some .string) (h2 : P.underlying dst = some .string)
    (h : aop fr s (hget C.H) (.cvStr (opd x)) = some (v, ws)) : OpOk P C a o v ws := by
  simp only [aop] at h
  split at h
  · rename_i b h3
    simp only [Option.some.injEq, Prod.mk.injEq] at h
    obtain ⟨rfl, rfl⟩ := h
    exact OpOk.same hR (u := .string b) (by simp [execOp, ho, hS.lit h3, convert, run_underlying h1, run_underlying h2]) (by simp [Conc])
  · simp at h
theorem ok_ext (hR : HeapRel C) (hS : Slots C s a) {i : Nat} {x : Operand} (ho : o.op = .extract x i) (h : aop fr s (hget C.H) (.ext (opd x) i) = some (v, ws)) : OpOk P C a o v ws := by
  simp only [aop] at h
  have hx := hS.ev x
  split at h
  · rename_i vs h1
    simp only [Option.map_eq_some_iff, Prod.mk.injEq] at h
    obtain ⟨r, hr, rfl, rfl⟩ := h
    rw [h1] at hx
    simp only [Conc] at hx
    obtain ⟨us, hu, hl⟩ := hx
    obtain ⟨u, h2, h3⟩ := hl.get hr
    exact OpOk.same hR (u := u) (by simp [execOp, ho, hu, Instr.extract, show us[i]? = some u by simpa using h2]) h3
  · simp at h

/-- a value that is made of cells -/
theorem conc_value {n off : Nat} {isAgg : Bool} {cs : List AV} {us : List Value} (hl : ConcL C cs us) (hv : value n isAgg (cut cs off n) = some v) :
    (isAgg = true ∧ Conc C v (.agg ((us.drop off).take n).toArray) ∧ ((us.drop off).take n).length = n) ∨ (isAgg = false ∧ ∃ u, us[off]? = some u ∧ Conc C v u) := by
  unfold value at hv
  split at hv
  · rename_i hn
    have hc : ConcL C (cut cs off n) ((us.drop off).take n) := (hl.drop off).take n
    cases isAgg with
    | true =>
      simp only [if_true, Option.some.injEq] at hv
      subst hv
      exact .inl ⟨rfl, conc_mkAgg hc, by rw [hc.length, hn]⟩
    | false =>
      simp only [Bool.false_eq_true, if_false] at hv
      split at hv
      · rename_i c hcc
        simp only [Option.some.injEq] at hv
        subst hv
        rw [hcc] at hc hn
        have hn1 : n = 1 := by simpa using hn.symm
        subst hn1
        simp only [ConcL] at hc
        obtain ⟨u, us', hu, h1, rfl⟩ := hc
        refine .inr ⟨rfl, u, ?_, h1⟩
        have : ((us.drop off).take 1)[0]? = some u := by rw [hu]; rfl
        simpa [List.getElem?_take, List.getElem?_drop] using this
      · simp at hv
  · simp at hv

theorem run_part {t : TypeId} {cs : Array Value} {off n : Nat} {isAgg : Bool} {w : World} {u : Value} (h1 : isAggT P t = some isAgg) (h2 : sizeT P t = some n)
    (h : (isAgg = true ∧ u = .agg ((cs.toList.drop off).take n).toArray) ∨ (isAgg = false ∧ cs.toList[off]? = some u)) : (part t cs off).run P w = .ok u w := by
  unfold isAggT at h1
  unfold sizeT at h2
  simp only [Option.map_eq_some_iff] at h1 h2
  obtain ⟨d, hd, h1⟩ := h1
  obtain ⟨i, hi, h2⟩ := h2
  have hs : (Go.isAgg t).run P w = .ok isAgg w := by
    simp only [Go.isAgg, Sem.run_bind, run_underlying hd, Result.andThen_ok]
    rw [← h1]
    cases d <;> rfl
  simp only [part, Sem.run_bind, hs, Result.andThen_ok]
  rcases h with ⟨rfl, rfl⟩ | ⟨rfl, h⟩
  · simp only [if_true, Sem.run_bind, sizeOf, typeInfo, run_program, hi, Result.andThen_ok, Sem.run_pure, h2]
    congr 2
    rw [← Array.toList_inj]
    simp [List.take_drop]
  · have : cs[off]? = some u := by simpa using h
    simp [this]

theorem ok_fld (hR : HeapRel C) (hS : Slots C s a) {t : TypeId} {f : Nat} {x : Operand} {fs : Array Field} {fd : Field} {n : Nat} {isAgg : Bool} (ho : o.op = .field t x f) (ht : P.underlying t = some (.struct fs)) (hf : fs[f]? = some fd)
    (h1 : isAggT P fd.type = some isAgg) (h2 : sizeT P fd.type = some n) (h : aop fr s (hget C.H) (.fld fd.offset n isAgg (opd x)) = some (v, ws)) : OpOk P C a o v ws := by
  have key : ∀ (us : Array Value) (cs : List AV), a.eval x = .agg us → ConcL C cs us.toList → value n isAgg (cut cs fd.offset n) = some v → OpOk P C a o v [] := by
    intro us cs hu hl hv
    rcases conc_value hl hv with ⟨hi, hc, _⟩ | ⟨hi, u, hu', hc⟩
    · refine OpOk.same hR ?_ hc
      simp [execOp, ho, Instr.field, hu, run_underlying ht, hf, asAgg, run_part (w := C.w) (u := .agg ((us.toList.drop fd.offset).take n).toArray) h1 h2 (.inl ⟨hi, rfl⟩)]
    · refine OpOk.same hR ?_ hc
      simp [execOp, ho, Instr.field, hu, run_underlying ht, hf, asAgg, run_part (w := C.w) (u := u) h1 h2 (.inr ⟨hi, hu'⟩)]
  simp only [aop] at h
  have hx := hS.ev x
  split at h
  · rename_i cs hc
    simp only [Option.map_eq_some_iff, Prod.mk.injEq] at h
    obtain ⟨r, hr, rfl, rfl⟩ := h
    rw [hc] at hx
    simp only [Conc] at hx
    obtain ⟨us, hu, hl⟩ := hx
    exact key us cs hu hl hr
  · rename_i us hc
    simp only [Option.map_eq_some_iff, Prod.mk.injEq] at h
    obtain ⟨r, hr, rfl, rfl⟩ := h
    exact key us _ (hS.lit hc) (concL_ofValue C _) hr
  · simp at h

theorem run_idx {t e : TypeId} {len n : Nat} {isAgg : Bool} {w : World} {us : Array Value} {k : IntKind} {i : Int} {u : Value} (ht : P.underlying t = some (.array len e)) (h1 : isAggT P e = some isAgg) (h2 : sizeT P e = some n) (hi : 0 ≤ i ∧ i < len)
    (h : (isAgg = true ∧ u = .agg ((us.toList.drop (i.toNat * n)).take n).toArray) ∨ (isAgg = false ∧ us.toList[i.toNat * n]? = some u)) : (Instr.index t (.agg us) (.int k i)).run P w = .ok u w := by
  have h2' := h2
  unfold sizeT at h2
  simp only [Option.map_eq_some_iff] at h2
  obtain ⟨inf, hinf, h2⟩ := h2
  simp [Instr.index, asIntOf, run_underlying ht, hi, sizeOf, typeInfo, hinf, h2, run_part (w := w) h1 h2' h]

theorem ok_idxA (hR : HeapRel C) (hS : Slots C s a) {t e : TypeId} {len n : Nat} {x i : Operand} {isAgg : Bool} (ho : o.op = .index t x i) (ht : P.underlying t = some (.array len e))
    (h1 : isAggT P e = some isAgg) (h2 : sizeT P e = some n) (h : aop fr s (hget C.H) (.idxA len n isAgg (opd x) (opd i)) = some (v, ws)) : OpOk P C a o v ws := by
  simp only [aop] at h
  split at h
  · rename_i k j hj
    split at h
    · rename_i hb
      have key : ∀ (us : Array Value) (cs : List AV), a.eval x = .agg us → ConcL C cs us.toList → value n isAgg (cut cs (j.toNat * n) n) = some v → OpOk P C a o v [] := by
        intro us cs hu hl hv
        rcases conc_value hl hv with ⟨hi, hc, _⟩ | ⟨hi, u, hu', hc⟩
        · refine OpOk.same hR ?_ hc
          simp [execOp, ho, hu, hS.lit hj, run_idx (w := C.w) (k := k) (us := us) (u := .agg ((us.toList.drop (j.toNat * n)).take n).toArray) ht h1 h2 hb (.inl ⟨hi, rfl⟩)]
        · refine OpOk.same hR ?_ hc
          simp [execOp, ho, hu, hS.lit hj, run_idx (w := C.w) (k := k) (us := us) (u := u) ht h1 h2 hb (.inr ⟨hi, hu'⟩)]
      have hx := hS.ev x
      split at h
      · rename_i cs hc
        simp only [Option.map_eq_some_iff, Prod.mk.injEq] at h
        obtain ⟨r, hr, rfl, rfl⟩ := h
        rw [hc] at hx
        simp only [Conc] at hx
        obtain ⟨us, hu, hl⟩ := hx
        exact key us cs hu hl hr
      · rename_i us hc
        simp only [Option.map_eq_some_iff, Prod.mk.injEq] at h
        obtain ⟨r, hr, rfl, rfl⟩ := h
        exact key us _ (hS.lit hc) (concL_ofValue C _) hr
      · simp at h
    · simp at h
  · simp at h

theorem ok_idxS (hR : HeapRel C) (hS : Slots C s a) {t : TypeId} {x i : Operand} (ho : o.op = .index t x i) (ht : P.underlying t = some .string)
    (h : aop fr s (hget C.H) (.idxS (opd x) (opd i)) = some (v, ws)) : OpOk P C a o v ws := by
  simp only [aop] at h
  split at h
  · rename_i b k n h1 h2
    split at h
    · rename_i hn
      simp only [Option.map_eq_some_iff, Prod.mk.injEq] at h
      obtain ⟨c, hc, rfl, rfl⟩ := h
      refine OpOk.same hR (u := .int .u8 c.toNat) ?_ (by simp [Conc])
      simp [execOp, ho, hS.lit h1, hS.lit h2, Instr.index, asIntOf, run_underlying ht, hn, hc]
    · simp at h
  · simp at h

theorem ok_mkf (hR : HeapRel C) (hS : Slots C s a) {fn : Fn} {first caps : Array Operand} (ho : o.op = .makeFunc fn first caps)
    (h : aop fr s (hget C.H) (.mkf fn (first.toList.map opd) (caps.toList.map opd)) = some (v, ws)) : OpOk P C a o v ws := by
  simp only [aop, Option.some.injEq, Prod.mk.injEq] at h
  obtain ⟨rfl, rfl⟩ := h
  refine OpOk.same hR (u := .func fn (first.map a.eval) (caps.map a.eval)) (by simp [execOp, ho, Instr.makeFunc]) ?_
  simp only [Conc, List.map_map]
  refine ⟨_, _, rfl, ?_, ?_⟩
  · rw [Array.toList_map]; exact ConcL.map _ _ _ fun x _ => hS.ev x
  · rw [Array.toList_map]; exact ConcL.map _ _ _ fun x _ => hS.ev x

theorem ok_minmax (hR : HeapRel C) (hS : Slots C s a) {mx : Bool} {args : Array Operand} {ts : Array TypeId} (ho : o.op = .call { callee := .builtin (if mx then .max else .min), args, argTypes := ts })
    (h : aop fr s (hget C.H) (.minmax mx (args.toList.map opd)) = some (v, ws)) : OpOk P C a o v ws := by
  obtain ⟨args⟩ := args
  simp only [aop, List.map_map] at h
  split at h
  · rename_i k p k' q hl
    obtain ⟨x, y, rfl⟩ : ∃ x y, args = [x, y] := by
      have : args.length = 2 := by simpa using congrArg List.length hl
      match args, this with | [x, y], _ => exact ⟨x, y, rfl⟩
    · simp only [List.map_cons, List.map_nil, Function.comp, List.cons.injEq, and_true] at hl
      split at h
      · rename_i hk
        subst hk
        simp only [Option.some.injEq, Prod.mk.injEq] at h
        obtain ⟨rfl, rfl⟩ := h
        refine OpOk.same hR (u := .int k (if mx then (if q > p then q else p) else (if q < p then q else p))) ?_ (by simp [Conc])
        cases mx <;> simp [execOp, ho, resolve, invoke, builtin, Builtin.min_, Builtin.max_, Builtin.min2, Builtin.max2, hS.lit hl.1, hS.lit hl.2]
      · simp at h
  · rename_i k p k' q k'' r hl
    obtain ⟨x, y, z, rfl⟩ : ∃ x y z, args = [x, y, z] := by
      have : args.length = 3 := by simpa using congrArg List.length hl
      match args, this with | [x, y, z], _ => exact ⟨x, y, z, rfl⟩
    · simp only [List.map_cons, List.map_nil, Function.comp, List.cons.injEq, and_true] at hl
      split at h
      · rename_i hk
        obtain ⟨rfl, rfl⟩ := hk
        simp only [Option.some.injEq, Prod.mk.injEq] at h
        obtain ⟨rfl, rfl⟩ := h
        refine OpOk.same hR ?_ (by simp only [Conc]; rfl)
        cases mx <;> simp [execOp, ho, resolve, invoke, builtin, Builtin.min_, Builtin.max_, Builtin.min2, Builtin.max2, hS.lit hl.1, hS.lit hl.2.1, hS.lit hl.2.2]
      · simp at h
  · simp at h

theorem ok_nilck (hR : HeapRel C) (hS : Slots C s a) {x : Operand} (ho : o.op = .nilCheck x) (h : aop fr s (hget C.H) (.nilck (opd x)) = some (v, ws)) : OpOk P C a o v ws := by
  simp only [aop] at h
  have hx := hS.ev x
  split at h
  · rename_i id i off hc
    split at h
    · rename_i hl
      simp only [Option.some.injEq, Prod.mk.injEq] at h
      obtain ⟨rfl, rfl⟩ := h
      rw [hc] at hx
      have hx' := hx
      simp only [Conc, hget_cells hl] at hx
      obtain ⟨b, base, _, hu⟩ := hx
      exact OpOk.same hR (u := a.eval x) (by simp [execOp, ho, hu]) hx'
    · simp at h
  · rename_i sz els i off hc
    simp only [Option.some.injEq, Prod.mk.injEq] at h
    obtain ⟨rfl, rfl⟩ := h
    rw [hc] at hx
    have hx' := hx
    simp only [Conc] at hx
    obtain ⟨b, base, hu, _⟩ := hx
    exact OpOk.same hR (u := a.eval x) (by simp [execOp, ho, hu]) hx'
  · rename_i fn f c hc
    simp only [Option.some.injEq, Prod.mk.injEq] at h
    obtain ⟨rfl, rfl⟩ := h
    rw [hc] at hx
    have hx' := hx
    simp only [Conc] at hx
    obtain ⟨uf, uc, hu, _⟩ := hx
    exact OpOk.same hR (u := a.eval x) (by simp [execOp, ho, hu]) hx'
  · rename_i fn f c hc
    simp only [Option.some.injEq, Prod.mk.injEq] at h
    obtain ⟨rfl, rfl⟩ := h
    exact OpOk.same hR (u := .func (.func fn) f c) (by simp [execOp, ho, hS.lit hc]) (by simp [Conc])
  · simp at h
end
end Go.Abs
