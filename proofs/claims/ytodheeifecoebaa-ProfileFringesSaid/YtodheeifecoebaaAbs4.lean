/- Operations that read. -/
import Derived.Test.YtodheeifecoebaaAbs3
set_option linter.all false
set_option linter.unusedVariables false
set_option linter.unusedSimpArgs false
set_option linter.unusedSectionVars false
namespace Go.Abs
open Go.RowKit
section
variable {P : Program} {C : Ctx} {s : Nat → AV} {a : Act} {o : Oper} {v : AV} {ws : List (Nat × Blk)} {fr : Nat}

/-! comparing structs -/
def valOf (isAgg : Bool) (cs : List Value) : Value → Prop := fun u => (isAgg = true ∧ u = .agg cs.toArray) ∨ (isAgg = false ∧ cs = [u])

theorem cellsEq_len : ∀ {ks : List CK} {xs ys : List Value} {r : Bool}, cellsEq ks xs ys = some r → xs.length = ks.length ∧ ys.length = ks.length
  | [], [], [], _, _ => ⟨rfl, rfl⟩
  | k :: ks, x :: xs, y :: ys, r, h => by
    simp only [cellsEq] at h
    split at h
    · split at h
      · have := cellsEq_len h; simp [this]
      · split at h
        · simp_all
        · simp at h
    · simp at h
  | [], [], _ :: _, _, h => by simp [cellsEq] at h
  | [], _ :: _, _, _, h => by simp [cellsEq] at h
  | _ :: _, [], _, _, h => by simp [cellsEq] at h
  | _ :: _, _ :: _, [], _, h => by simp [cellsEq] at h

theorem cellsEq_append : ∀ {k1 k2 : List CK} {xs ys : List Value} {r : Bool}, cellsEq (k1 ++ k2) xs ys = some r →
    ∃ r1, cellsEq k1 (xs.take k1.length) (ys.take k1.length) = some r1 ∧ (if r1 then cellsEq k2 (xs.drop k1.length) (ys.drop k1.length) = some r else r = false)
  | [], k2, xs, ys, r, h => ⟨true, by simp [cellsEq], by simpa using h⟩
  | k :: k1, k2, [], ys, r, h => by simp [cellsEq] at h
  | k :: k1, k2, x :: xs, [], r, h => by simp [cellsEq] at h
  | k :: k1, k2, x :: xs, y :: ys, r, h => by
    have hl := cellsEq_len h
    simp only [List.cons_append, cellsEq] at h
    split at h
    · rename_i c hc
      split at h
      · rename_i hct
        obtain ⟨r1, h1, h2⟩ := cellsEq_append h
        exact ⟨r1, by simp [cellsEq, hc, hct, h1], by simpa using h2⟩
      · rename_i hct
        split at h
        · simp only [Option.some.injEq] at h
          subst h
          refine ⟨false, ?_, by simp⟩
          have hcf : c = false := by simpa using hct
          simp only [List.length_cons, List.length_append] at hl
          simp [cellsEq, hc, hcf]
          omega
        · simp at h
    · simp at h

theorem isAggT_basic {t : TypeId} {d : TypeDesc} (h : P.underlying t = some d) : isAggT P t = some (aggD d) := by unfold isAggT; rw [h]; rfl

theorem drop_take_cons {α : Type} {l : List α} {i : Nat} {x : α} (h : l[i]? = some x) : (l.drop i).take 1 = [x] := by
  have hl : i < l.length := (List.getElem?_eq_some_iff.1 h).1
  rw [List.drop_eq_getElem_cons hl]
  have := (List.getElem?_eq_some_iff.1 h).2
  simp [this]

theorem part_valOf {t : TypeId} {cs : Array Value} {off n : Nat} {isAgg : Bool} {w : World} (h1 : isAggT P t = some isAgg) (h2 : sizeT P t = some n) (hb : isAgg = false → n = 1) (hl : off + n ≤ cs.size) :
    ∃ u, (part t cs off).run P w = .ok u w ∧ valOf isAgg ((cs.toList.drop off).take n) u := by
  cases isAgg with
  | true => exact ⟨_, run_part (w := w) h1 h2 (.inl ⟨rfl, rfl⟩), .inl ⟨rfl, rfl⟩⟩
  | false =>
    have hn := hb rfl
    subst hn
    have hlt : off < cs.toList.length := by simp; omega
    have hg : cs.toList[off]? = some cs.toList[off] := List.getElem?_eq_getElem hlt
    exact ⟨_, run_part (w := w) h1 h2 (.inr ⟨rfl, hg⟩), .inr ⟨rfl, by rw [drop_take_cons hg]⟩⟩

theorem kindsOf_one {d : Nat} {t : TypeId} {ks : List CK} (h : kindsOf P d t = some ks) : ∃ isAgg, isAggT P t = some isAgg ∧ (isAgg = false → ks.length = 1) := by
  cases d with
  | zero => simp [kindsOf] at h
  | succ d =>
    simp only [kindsOf] at h
    split at h
    · rename_i hu; simp only [Option.some.injEq] at h; subst h; exact ⟨_, isAggT_basic hu, fun _ => rfl⟩
    · rename_i hu; simp only [Option.some.injEq] at h; subst h; exact ⟨_, isAggT_basic hu, fun _ => rfl⟩
    · rename_i hu; simp only [Option.some.injEq] at h; subst h; exact ⟨_, isAggT_basic hu, fun _ => rfl⟩
    · rename_i hu; exact ⟨_, isAggT_basic hu, fun h => by simp [aggD] at h⟩
    · rename_i hu; exact ⟨_, isAggT_basic hu, fun h => by simp [aggD] at h⟩
    · simp at h

def EqSays (P : Program) (d : Nat) (t : TypeId) (ks : List CK) : Prop :=
  ∀ (w : World) (isAgg : Bool) (xs ys : List Value) (u v : Value) (r : Bool), isAggT P t = some isAgg → valOf isAgg xs u → valOf isAgg ys v → cellsEq ks xs ys = some r → (Op.equalIn d t u v).run P w = .ok r w

theorem eqFields_says {d : Nat} {k : TypeId → Option (List CK)} (hk : ∀ t ks, k t = some ks → EqSays P d t ks ∧ ∃ isAgg, isAggT P t = some isAgg ∧ (isAgg = false → ks.length = 1)) :
    ∀ (fs : List Field) (off : Nat) (ks : List CK) (xs ys : List Value) (r : Bool) (w : World), kindsFs k P fs off = some ks → off + ks.length ≤ xs.length → off + ks.length ≤ ys.length →
      cellsEq ks ((xs.drop off).take ks.length) ((ys.drop off).take ks.length) = some r → (Op.eqFields d xs.toArray ys.toArray fs).run P w = .ok r w
  | [], off, ks, xs, ys, r, w, h, _, _, he => by
    simp only [kindsFs, Option.some.injEq] at h
    subst h
    simp [cellsEq] at he
    subst he
    rfl
  | f :: fs, off, ks, xs, ys, r, w, h, hx, hy, he => by
    simp only [kindsFs] at h
    split at h
    · simp at h
    · rename_i hn
      simp only [Option.bind_eq_some_iff] at h
      obtain ⟨k1, hk1, h⟩ := h
      split at h
      · rename_i hsz
        simp only [Option.map_eq_some_iff] at h
        obtain ⟨k2, hk2, rfl⟩ := h
        obtain ⟨hs, isAgg, hag, hone⟩ := hk _ _ hk1
        obtain ⟨r1, e1, e2⟩ := cellsEq_append he
        have hoff : f.offset = off := by
          rcases Nat.lt_trichotomy f.offset off with h' | h' | h' <;> first | exact h' | exact (hn (.inr (by omega))).elim
        have hname : f.name ≠ "_" := fun h' => hn (.inl h')
        simp only [List.length_append] at hx hy
        rw [List.length_append] at e1 e2
        obtain ⟨u1, hu1, hv1⟩ := part_valOf (P := P) (w := w) (cs := xs.toArray) (off := off) hag hsz hone (by simp; omega)
        obtain ⟨u2, hu2, hv2⟩ := part_valOf (P := P) (w := w) (cs := ys.toArray) (off := off) hag hsz hone (by simp; omega)
        simp only [List.take_take, Nat.min_eq_left (Nat.le_add_right _ _)] at e1
        have h3 := hs w isAgg _ _ u1 u2 r1 hag hv1 hv2 (by simpa using e1)
        simp only [Op.eqFields, if_pos hname, hoff, Sem.run_bind, hu1, hu2, h3, Result.andThen_ok]
        cases r1 with
        | false => simp only [Bool.false_eq_true, if_false] at e2; subst e2; simp
        | true =>
          simp only [if_true] at e2
          simp only [Bool.not_true, Bool.false_eq_true, if_false]
          refine eqFields_says hk fs (off + k1.length) k2 xs ys r w hk2 (by omega) (by omega) ?_
          rw [List.drop_take, List.drop_take, List.drop_drop, List.drop_drop] at e2
          simpa using e2
      · simp at h

theorem run_arrEq {d : Nat} {e : TypeId} {k : List CK} (hs : EqSays P d e k) {isAgg : Bool} (hag : isAggT P e = some isAgg) (hone : isAgg = false → k.length = 1) (hsz : sizeT P e = some k.length) (xs ys : Array Value) (w : World) :
    ∀ (n i : Nat) (r : Bool), (i + n) * k.length ≤ xs.size → (i + n) * k.length ≤ ys.size → cellsEq (List.replicate n k).flatten ((xs.toList.drop (i * k.length)).take (n * k.length)) ((ys.toList.drop (i * k.length)).take (n * k.length)) = some r →
    ∃ q, (forIn (List.range' i n) ((none, ()) : Option Bool × Unit) fun i _ => (do
        let a ← part e xs (i * k.length)
        let b ← part e ys (i * k.length)
        let c ← Op.equalIn d e a b
        if !c then pure (ForInStep.done (some false, ())) else pure (ForInStep.yield (none, ())) : Sem (ForInStep (Option Bool × Unit)))).run P w = .ok q w ∧
      q.fst = if r then none else some false
  | 0, i, r, _, _, he => by
    simp [cellsEq] at he
    subst he
    exact ⟨(none, ()), by simp, rfl⟩
  | n + 1, i, r, hx, hy, he => by
    rw [List.replicate_succ, List.flatten_cons] at he
    have hm : (n + 1) * k.length = k.length + n * k.length := by rw [Nat.add_mul]; omega
    have hm' : (i + (n + 1)) * k.length = i * k.length + (k.length + n * k.length) := by rw [Nat.add_mul, hm]
    obtain ⟨r1, e1, e2⟩ := cellsEq_append he
    rw [hm'] at hx hy
    rw [hm] at e1 e2
    obtain ⟨u1, hu1, hv1⟩ := part_valOf (P := P) (w := w) (cs := xs) (off := i * k.length) hag hsz hone (by omega)
    obtain ⟨u2, hu2, hv2⟩ := part_valOf (P := P) (w := w) (cs := ys) (off := i * k.length) hag hsz hone (by omega)
    simp only [List.take_take, Nat.min_eq_left (Nat.le_add_right _ _)] at e1
    have h3 := hs w isAgg _ _ u1 u2 r1 hag hv1 hv2 e1
    rw [List.range'_succ, List.forIn_cons]
    simp only [Sem.run_bind, hu1, hu2, h3, Result.andThen_ok]
    cases r1 with
    | false => simp only [Bool.false_eq_true, if_false] at e2; subst e2; exact ⟨_, by simp; rfl, rfl⟩
    | true =>
      simp only [if_true] at e2
      simp only [Bool.not_true, Bool.false_eq_true, if_false, Sem.run_pure, Result.andThen_ok]
      rw [List.drop_take, List.drop_take, List.drop_drop, List.drop_drop] at e2
      have hi : i * k.length + k.length = (i + 1) * k.length := by rw [Nat.add_mul, Nat.one_mul]
      refine run_arrEq hs hag hone hsz xs ys w n (i + 1) r ?_ ?_ ?_
      · rw [show (i + 1 + n) * k.length = i * k.length + (k.length + n * k.length) from by rw [Nat.add_mul, ← hi]; omega]; exact hx
      · rw [show (i + 1 + n) * k.length = i * k.length + (k.length + n * k.length) from by rw [Nat.add_mul, ← hi]; omega]; exact hy
      · rw [← hi]; simpa using e2

theorem kinds_says : ∀ (d : Nat) (t : TypeId) (ks : List CK), kindsOf P d t = some ks → ∀ D, d ≤ D → EqSays P D t ks
  | 0, t, ks, h, _, _ => by simp [kindsOf] at h
  | d + 1, t, ks, h, D, hD => by
    obtain ⟨D, rfl⟩ : ∃ D', D = D' + 1 := ⟨D - 1, by omega⟩
    intro w isAgg xs ys u v r hag hu hv he
    simp only [kindsOf] at h
    split at h
    · rename_i k ht
      rw [isAggT_basic ht] at hag
      simp [aggD] at hag h
      subst hag h
      simp [valOf] at hu hv
      subst hu hv
      simp only [cellsEq] at he
      split at he
      · rename_i c hc
        have hr : r = c := by cases c <;> simp_all
        subst hr
        cases u <;> cases v <;> simp [cellEq] at hc
        obtain ⟨rfl, rfl⟩ := hc
        exact run_equalIn_int w D t _ _ _ _ ht
      · simp at he
    · rename_i ht
      rw [isAggT_basic ht] at hag
      simp [aggD] at hag h
      subst hag h
      simp [valOf] at hu hv
      subst hu hv
      simp only [cellsEq] at he
      split at he
      · rename_i c hc
        have hr : r = c := by cases c <;> simp_all
        subst hr
        cases u <;> cases v <;> simp [cellEq] at hc
        subst hc
        exact run_equalIn_string w D t _ _ ht
      · simp at he
    · rename_i ht
      rw [isAggT_basic ht] at hag
      simp [aggD] at hag h
      subst hag h
      simp [valOf] at hu hv
      subst hu hv
      simp only [cellsEq] at he
      split at he
      · rename_i c hc
        have hr : r = c := by cases c <;> simp_all
        subst hr
        cases u <;> cases v <;> simp [cellEq] at hc
        subst hc
        exact run_equalIn_bool' w D t _ _ ht
      · simp at he
    · rename_i fs ht
      rw [isAggT_basic ht] at hag
      simp [aggD] at hag
      subst hag
      simp [valOf] at hu hv
      subst hu hv
      split at h
      · simp at h
      · rename_i hst
        have hf : P.fieldsOf t = fs := by simp [Program.fieldsOf, ht]
        rw [run_equalIn_struct w D t _ _ (by rw [hf]; exact ht) (by simpa using hst), hf]
        obtain ⟨hx, hy⟩ := cellsEq_len he
        exact eqFields_says (k := kindsOf P d) (fun t ks hk => ⟨kinds_says d t ks hk D (by omega), kindsOf_one hk⟩) fs.toList 0 ks xs ys r w h (by omega) (by omega)
          (by rw [List.drop_zero, List.drop_zero, List.take_of_length_le (by omega), List.take_of_length_le (by omega)]; exact he)
    · rename_i n e ht
      rw [isAggT_basic ht] at hag
      simp [aggD] at hag
      subst hag
      simp [valOf] at hu hv
      subst hu hv
      simp only [Option.bind_eq_some_iff] at h
      obtain ⟨k, hk, h⟩ := h
      split at h
      · rename_i hsz
        simp only [Option.some.injEq] at h
        subst h
        obtain ⟨isAgg, hag, hone⟩ := kindsOf_one hk
        obtain ⟨hx, hy⟩ := cellsEq_len he
        simp only [List.length_flatten, List.map_replicate, List.sum_replicate_nat] at hx hy
        have hsz' := hsz
        unfold sizeT at hsz'
        simp only [Option.map_eq_some_iff] at hsz'
        obtain ⟨inf, hinf, hisz⟩ := hsz'
        obtain ⟨q, hq, hq2⟩ := run_arrEq (kinds_says d e k hk D (by omega)) hag hone hsz xs.toArray ys.toArray w n 0 r (by simp; omega) (by simp; omega)
          (by simp only [Nat.zero_mul, List.drop_zero]; rw [List.take_of_length_le (by omega), List.take_of_length_le (by omega)]; exact he)
        simp only [Op.equalIn, Sem.run_bind, run_underlying ht, Result.andThen_ok, sizeOf, typeInfo, run_program, hinf, Sem.run_pure, hisz]
        rw [Std.Legacy.Range.forIn_eq_forIn_range']
        have hrng : List.range' (⟨0, n, 1, by omega⟩ : Std.Legacy.Range).start (⟨0, n, 1, by omega⟩ : Std.Legacy.Range).size (⟨0, n, 1, by omega⟩ : Std.Legacy.Range).step = List.range' 0 n := by simp [Std.Legacy.Range.size]
        rw [hrng, hq]
        simp only [Result.andThen_ok, hq2]
        cases r <;> rfl
      · simp at h
    · simp at h

theorem ok_eqAgg (hR : HeapRel C) (hS : Slots C s a) {neq : Bool} {t ty : TypeId} {x y : Operand} {ks : List CK} (ho : o.op = .binOp (if neq then .neq else .eql) t x y ty) (hk : kindsOf P 12 t = some ks) (ha : isAggT P t = some true) (hg : P.eqGuardType P.depth t = false)
    (h : aop fr s (hget C.H) (.eqAgg neq ks (opd x) (opd y)) = some (v, ws)) : OpOk P C a o v ws := by
  simp only [aop] at h
  split at h
  · rename_i p q h1 h2
    simp only [Option.map_eq_some_iff, Prod.mk.injEq] at h
    obtain ⟨r, hr, rfl, rfl⟩ := h
    have he := kinds_says 12 t ks hk 10000 (by omega) C.w true p.toList q.toList (.agg p) (.agg q) r ha (.inl ⟨rfl, by simp⟩) (.inl ⟨rfl, by simp⟩) hr
    refine OpOk.same hR (u := .bool (if neq then !r else r)) ?_ (by simp [Conc, boolV])
    cases neq
    · simp [execOp, ho, hS.lit h1, hS.lit h2, run_eqGuard_agg (P := P) C.w .eql t x y p q hg, run_eql_struct, he]
    · simp [execOp, ho, hS.lit h1, hS.lit h2, run_eqGuard_agg (P := P) C.w .neq t x y p q hg, run_neq_struct, he]
  · simp at h

/-! slices against nil -/
theorem run_equalIn_nil {t e : TypeId} {n c d : Nat} {w : World} (ht : P.underlying t = some (.slice e)) (A : Option Addr) :
    (Op.equalIn (d + 1) t (.slice A n c) (.slice none 0 0)).run P w = .ok A.isNone w ∧ (Op.equalIn (d + 1) t (.slice none 0 0) (.slice A n c)).run P w = .ok A.isNone w := by
  cases A <;> simp [Op.equalIn, run_underlying ht]
theorem run_eqlNil {t e : TypeId} {n c : Nat} {w : World} (ht : P.underlying t = some (.slice e)) (A : Option Addr) :
    (binOp .eql t (.slice A n c) (.slice none 0 0)).run P w = .ok (.bool A.isNone) w ∧ (binOp .neq t (.slice A n c) (.slice none 0 0)).run P w = .ok (.bool (!A.isNone)) w ∧
    (binOp .eql t (.slice none 0 0) (.slice A n c)).run P w = .ok (.bool A.isNone) w ∧ (binOp .neq t (.slice none 0 0) (.slice A n c)).run P w = .ok (.bool (!A.isNone)) w := by
  have h := fun w : World => run_equalIn_nil (P := P) (w := w) (n := n) (c := c) (d := 9999) ht A
  refine ⟨?_, ?_, ?_, ?_⟩ <;> simp only [binOp] <;> unfold Op.equal Op.maxDepth <;> simp only [Sem.run_bind, (h _).1, (h _).2, Result.andThen_ok, Sem.run_pure]

theorem ok_eqNil (hR : HeapRel C) (hS : Slots C s a) {neq : Bool} {t ty e : TypeId} {x y z : Operand} (ho : o.op = .binOp (if neq then .neq else .eql) t x y ty) (ht : P.underlying t = some (.slice e))
    (hxy : (z = x ∧ y = .const (.slice none 0 0)) ∨ (z = y ∧ x = .const (.slice none 0 0)))
    (h : aop fr s (hget C.H) (.eqNil neq (opd z)) = some (v, ws)) : OpOk P C a o v ws := by
  have key : ∀ (A : Option Addr) (n c : Nat), a.eval z = .slice A n c → (A = none → n = 0 ∧ c = 0) → ∀ nil : Bool, A.isNone = nil → OpOk P C a o (boolV (if neq then !nil else nil)) [] := by
    intro A n c hz hA nil hn
    refine OpOk.same hR (u := .bool (if neq then !nil else nil)) ?_ (by simp [Conc, boolV])
    subst hn
    have hg : ∀ op (p q : Operand) x y, (eqGuard op t p q (.slice x n c) (.slice none 0 0)).run P C.w = .ok y C.w ∧ (eqGuard op t p q (.slice none 0 0) (.slice x n c)).run P C.w = .ok y C.w := by
      intro op p q x y; constructor <;> (unfold eqGuard; cases op <;> rfl)
    rcases hxy with ⟨rfl, rfl⟩ | ⟨rfl, rfl⟩
    · have e1 := run_eqlNil (P := P) (w := C.w) (n := n) (c := c) ht A
      cases neq
      · simp [execOp, ho, show a.eval (.const (.slice none 0 0)) = .slice none 0 0 from rfl, hz, (hg .eql z (.const (.slice none 0 0)) A ()).1, e1.1]
      · simp [execOp, ho, show a.eval (.const (.slice none 0 0)) = .slice none 0 0 from rfl, hz, (hg .neq z (.const (.slice none 0 0)) A ()).1, e1.2.1]
    · have e1 := run_eqlNil (P := P) (w := C.w) (n := n) (c := c) ht A
      cases neq
      · simp [execOp, ho, show a.eval (.const (.slice none 0 0)) = .slice none 0 0 from rfl, hz, (hg .eql (.const (.slice none 0 0)) z A ()).2, e1.2.2.1]
      · simp [execOp, ho, show a.eval (.const (.slice none 0 0)) = .slice none 0 0 from rfl, hz, (hg .neq (.const (.slice none 0 0)) z A ()).2, e1.2.2.2]
  have hx := hS.ev z
  simp only [aop] at h
  split at h
  · rename_i nil sz els hc
    simp only [Option.some.injEq, Prod.mk.injEq] at h
    obtain ⟨rfl, rfl⟩ := h
    rw [hc] at hx
    simp only [Conc] at hx
    rcases hx with ⟨rfl, _, hu⟩ | ⟨rfl, b, base, cap, hu, _⟩
    · exact key _ _ _ hu (fun _ => ⟨rfl, rfl⟩) true rfl
    · exact key _ _ _ hu (fun h => by simp at h) false rfl
  · rename_i hc
    simp only [Option.some.injEq, Prod.mk.injEq] at h
    obtain ⟨rfl, rfl⟩ := h
    rw [hc] at hx
    simp only [Conc] at hx
    obtain ⟨ad, ao, hu⟩ := hx
    have := key _ _ _ hu (fun h => by simp at h) false rfl
    cases neq <;> simpa using this
  · rename_i id i len hc
    split at h
    · rename_i own nil sz els hl
      simp only [Option.some.injEq, Prod.mk.injEq] at h
      obtain ⟨rfl, rfl⟩ := h
      rw [hc] at hx
      simp only [Conc, hget_cells hl] at hx
      rcases hx with ⟨rfl, _, _, _, hu⟩ | ⟨rfl, _, _, ad, ao, hu⟩ | ⟨rfl, b, base, cap, c, e', f, _, _, hu, _⟩
      · exact key _ _ _ hu (fun _ => ⟨rfl, rfl⟩) true rfl
      · exact key _ _ _ hu (fun h => by simp at h) false rfl
      · exact key _ _ _ hu (fun h => by simp at h) false rfl
    · simp at h
  · simp at h
end
end Go.Abs
