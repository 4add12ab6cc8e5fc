import Derived.Test.YtdedhipkncagjaaAbs21
import Derived.Test.YtdedhipkncagjaaK1x
import Derived.Test.YtdedhipkncagjaaK38
import Derived.Test.YtdedhipkncagjaaK302x
import Derived.Carry
import Derived.OpenShut
import Derived.ChangeSame
import Derived.ChangeSlices
import Derived.Below
import Derived.RowKit
import Derived.WalkKit
import Derived.ProofKit
set_option linter.all false
set_option linter.unusedVariables false
set_option linter.unusedSimpArgs false
set_option linter.unusedSectionVars false
namespace Go.Abs
open Go.ChangeShapes Go.WideShapes Go.RowKit
/-! from the machine's answer to a law's row -/
def lone (W : World) : Ctx := ⟨[], [], W, fun _ => False⟩
theorem lone_rel (W : World) : HeapRel (lone W) :=
  ⟨rfl, fun _ _ _ _ _ h => by simp [lone] at h, fun _ _ _ _ _ _ _ _ _ _ _ _ _ h => by simp [lone] at h, fun _ h => h.elim, fun _ _ h => by simp [lone] at h, fun _ _ _ _ _ _ _ _ _ _ h => by simp [lone] at h, fun _ _ _ h => by simp [lone] at h⟩
theorem lone_own {W : World} {b : Nat} : ¬ (lone W).own b := by
  rintro (⟨_, _, _, _, _, h, _⟩ | ⟨_, _, h, _⟩) <;> simp [lone] at h
theorem lone_bad {W : World} {b : Nat} : ¬ (lone W).bad b := fun h => h.elim lone_own fun h => h
theorem law_calls {P : Program} {g : FuncId} {args : List AV} {cargs : List Value} {W : World} (h : Fn P g args (.lit (.bool true)) []) (hc : ConcL (lone W) args cargs) :
    Calls P g cargs.toArray W fun e W' => e = .returned (.bool true) ∧ Below W.heap.size W W' :=
  (h.2 (lone W) cargs rfl (lone_rel W) hc).mono fun e W' ⟨u, r, H', m', he, ⟨hr, _⟩, hs, _, hu⟩ => by
    subst hr
    simp only [Conc] at hu
    subst hu
    exact ⟨he, hs.os, hs.tape, hs.output, hs.size, fun k hk => hs.blk k hk lone_own⟩

section
variable {H : Type} {enc : TypeId × Value → H} {P : Program} {W W' : World}
theorem trodAll_stays (hl : laidOutB P = true) (hb : Below W.heap.size W W') {sp : Nat → Bool} :
    ∀ {ts : List TypeId} {vs : List Value} {ds : List (DataW H)} {ps : List MemPlace}, DataW.TrodAll enc P W 0 (fun _ => true) true ts vs ds ps → (∀ t ∈ ts, P.readableRec t = true ∧ t < P.types.size) →
      (∀ x ∈ ps, x.block < W.heap.size) → (∀ x ∈ ps, sp x.block = true) → DataW.TrodAll enc P W' 0 sp true ts vs ds ps
  | [], _, _, _, h, _, _, _ => by
    obtain ⟨rfl, rfl, rfl⟩ := trodAll_nil h
    exact rfl
  | t :: ts, _, _, _, h, hr, hlt, hsp => by
    obtain ⟨v, vs1, d, ds1, a, b, rfl, rfl, rfl, h1, h2⟩ := trodAll_cons h
    refine ⟨a, b, WideElems.Trod_stays hl (hr t (by simp)).1 (hr t (by simp)).2 h1 (fun x hx => hb.same (hlt x (by simp [hx]))) (fun x hx => hsp x (by simp [hx])), ?_, rfl⟩
    exact trodAll_stays hl hb h2 (fun t ht => hr t (by simp [ht])) (fun x hx => hlt x (by simp [hx])) (fun x hx => hsp x (by simp [hx]))

theorem post_law {f : Func} {s : ChangeSpec} {t : TypeId} {args : Array Value} {ds gs : List (DataW H)} {before : List MemPlace}
    (hW : DataW.Whole enc P f.params.toList s.vars false W args.toList ds gs before) (hv : s.vars = []) (hfn : s.fn H (ds ++ gs) = { results := [.lit (.bool true)], args := ds })
    (hrt : f.resultTypes = #[t]) (ht : P.underlying t = some .bool) (hl : laidOutB P = true) (hr : ∀ t ∈ f.params.toList, P.readableRec t = true ∧ t < P.types.size) (hb : Below W.heap.size W W') :
    s.post enc P f false true false false W args (.bool true) W' := by
  have hlt := hW.lt
  have hold : ∀ p ∈ before, (fun b => decide (b < W.heap.size)) p.block = true := fun p hp => by simpa using hlt p hp
  have hW' := hW
  obtain ⟨p, q, hA, hV, hbe, hz, hn⟩ := hW'
  rw [hv] at hV
  obtain ⟨rfl, rfl⟩ := trodVars_none hV
  rw [List.append_nil] at hbe
  subst hbe
  have hres : ∀ (b : Nat) (sp : Nat → Bool) (hd : Bool), DataW.TrodAll enc P W' b sp hd f.resultTypes.toList ((Value.bool true).resultList f.resultTypes.size) (s.fn H (ds ++ [])).results [] := fun b sp hd => by
    rw [hrt, hfn]; exact trodAll_mk1 (shut_bool ht true)
  have hargs : ∀ sp : Nat → Bool, (∀ x ∈ before, sp x.block = true) → DataW.TrodAll enc P W' 0 sp true f.params.toList args.toList (s.fn H (ds ++ [])).args before := fun sp hsp => by
    rw [hfn]; exact trodAll_stays hl hb hA hr hlt hsp
  have hvars : ∀ sp : Nat → Bool, DataW.TrodVars enc P W' sp s.vars (s.fn H (ds ++ [])).vars [] := fun sp => by
    rw [hfn, hv]; exact rfl
  refine ⟨ds, [], before, [], before, [], hW, hres _ _ _, hargs _ hold, hvars _, hb.frame _, fun _ => ?_⟩
  refine ⟨ok_one hrt rfl (okWide_bool_mk ht true), _, _, ([] ++ before) ++ [], ⟨[] ++ before, [], trodAll_append (hargs _ (fun _ _ => rfl)) (hres _ _ _), hvars _, rfl, ?_, ?_⟩, ?_⟩
  · intro b off hp
    have hp' : MemPlace.cell b off ∈ before := by simpa using hp
    have := hb.frozen (p := ⟨b, off, none⟩) (hlt _ hp')
    rw [this]
    exact hz b off hp'
  · intro ha; simp at ha
  · intro x hp _
    simpa using hp
end

section
variable {H : Type} {enc : TypeId × Value → H} {P : Program} {w : World} {base : Nat}
theorem rowsAt_ints {C : Ctx} {b : Nat} : ∀ (xs : List Int) (off : Nat), (∀ i, i < xs.length → C.w.cell? ⟨b, off + i, none⟩ = some (.int .i64 (xs.getD i 0))) → RowsAt C b off 1 (xs.map fun x => [i64 x])
  | [], _, _ => trivial
  | x :: r, off, h => by
    refine ⟨rfl, ⟨⟨_, h 0 (by simp), rfl, rfl, rfl⟩, trivial⟩, rowsAt_ints r (off + 1) fun i hi => ?_⟩
    have := h (i + 1) (by simpa using hi)
    rw [show off + 1 + i = off + (i + 1) by omega]
    simpa using this
end
end Go.Abs
namespace Go.Abs
open Go.Proofs
/-! Copy: what it yields reads as the strokes -/
def otS (l : List Sk) (k : Nat) : List (List AV) := (List.range k).map fun i => [tx (l.getD i sk0).nm, AV.lsl (3 * i + 2) 0 (l.getD i sk0).wr.length]
structure I22 (l : List Sk) (k : Nat) (H : List Blk) : Prop where
  n : H.length = 3 * k
  r : ∀ i, i < k → ∃ o, H[3 * i + 2]? = some (.cells o false 1 ((l.getD i sk0).wr.map fun x => [i64 x]))
  t : k ≠ 0 → H[3 * k - 2]? = some (.cells true false 2 (otS l k))
end Go.Abs
namespace Go.Abs
open Go.Proofs
/-! Light; numbers of which something is true -/
end Go.Abs
namespace Go.Abs
open Go.Proofs
/-! CheckStrokes of the reference -/
end Go.Abs
namespace Go.Abs
open Go.Proofs
/-! the program's CheckStrokes -/
structure J101 (l : List Sk) (k : Nat) (H : List Blk) : Prop where
  m : ∃ es, H[0]? = some (.obj (.smap .str es)) ∧ Seen (fun b => ∃ j, j < k ∧ eqT (l.getD j sk0).nm b = true) es
end Go.Abs
namespace Go.Abs
open Go.Proofs
/-! first: checks one after the other -/
def ClA (g : FuncId) (cap : List AV) (H : List Blk) (e : Int) : Prop := ∀ H', Ext H H' → ACall Try.prog g cap H' fun r H'' => r = i64 e ∧ Ext H' H''
theorem ClA.ext {g : FuncId} {cap : List AV} {H H2 : List Blk} {e : Int} (h : ClA g cap H e) (hx : Ext H H2) : ClA g cap H2 e := fun H' h' => h H' (hx.trans h')
end Go.Abs
namespace Go.Abs
open Go.Proofs
/-! find -/
end Go.Abs
namespace Go.Abs
open Go.Proofs
/-! demands -/
end Go.Abs
namespace Go.Abs
open Go.Proofs
/-! demands: the closure, the copy, CheckDemand of the reference -/
end Go.Abs
namespace Go.Abs
open Go.Proofs
/-! sessions -/
structure Ss where
  mi : ByteArray
  st : ByteArray
  mn : Int
def ss0 : Ss := ⟨⟨#[]⟩, ⟨#[]⟩, 0⟩
/-! the limits, the copy -/
end Go.Abs
namespace Go.Abs
open Go.Proofs
/-! sessions: the closures, CheckSessions of the reference -/
end Go.Abs
namespace Go.Abs
open Go.Proofs
/-! first, of so many checks; CheckSessions -/
/-- strokes as they come -/
structure StV (l : List Sk) (b : Bool) (m : Nat) (E : List (List AV)) : Prop where
  p : plainR E = true
  f : Fn Try.prog 63 [.sl b m E] (.tup [i64 (sN l), i64 (sE l)]) []
  g : sE l = 0 → m = 2 ∧ E = skR l
end Go.Abs
namespace Go.Abs
open Go.Proofs
/-! wear -/
def fR (n : Nat) (f : Nat → Int) : List (List AV) := (List.range n).map fun z => [i64 (f z)]
/-- right sessions -/
structure ZOk (l : List Sk) (s : List Ss) : Prop where
  few : s.length ≤ 200
  at_ : ∀ k, k < s.length → 0 ≤ sAt l (s.getD k ss0).st ∧ sAt l (s.getD k ss0).st < l.length
  mn : ∀ k, k < s.length → 1 ≤ (s.getD k ss0).mn ∧ (s.getD k ss0).mn ≤ 10000
end Go.Abs
namespace Go.Abs
open Go.ChangeShapes Go.WideShapes Go.RowKit
/-! opening structs -/
section
variable {H : Type} {enc : TypeId × Value → H} {P : Program} {w : World} {base : Nat}
theorem trod_struct3 {t : TypeId} {f0 f1 f2 : Field} {b : Nat} {spare : Nat → Bool} {held : Bool} {fuel : Nat} {cs : List Value} {x : DataW H × List MemPlace} (ht : P.underlying t = some (.struct #[f0, f1, f2])) (h : DataW.trod enc P w b spare held fuel t cs = some x) :
    ∃ y0 y1 y2 n, cs.length = P.cellsOf t ∧ DataW.trod enc P w b spare held n f0.type ((cs.drop f0.offset).take (P.cellsOf f0.type)) = some y0 ∧
      DataW.trod enc P w b spare held n f1.type ((cs.drop f1.offset).take (P.cellsOf f1.type)) = some y1 ∧ DataW.trod enc P w b spare held n f2.type ((cs.drop f2.offset).take (P.cellsOf f2.type)) = some y2 := by
  obtain ⟨xs, n, _, rfl, hl, hlen, hf⟩ := DataW.trod_struct ht h
  match xs, hlen with
  | [y0, y1, y2], _ => exact ⟨y0, y1, y2, n, hl, by simpa using hf 0 f0 rfl, by simpa using hf 1 f1 rfl, by simpa using hf 2 f2 rfl⟩
end
end Go.Abs
namespace Go.Abs
open Go.ChangeShapes Go.WideShapes Go.RowKit Go.Proofs
/-! strokes and sessions opened -/
section
variable {H : Type} {enc : TypeId × Value → H} {P : Program} {w : World} {base : Nat}
theorem cell_some {a : Addr} {v : Value} (h : w.cell? a = some v) : a.spot = none ∧ IsCells w a.block := by
  unfold World.cell? at h
  split at h
  · rename_i c e f hb
    refine ⟨?_, c, e, f, hb⟩
    cases hs : a.spot with
    | none => rfl
    | some s => rw [hs] at h; simp at h
  · simp at h
theorem add_zero (a : Addr) : a.add 0 = a := by unfold Addr.add; simp
theorem add_spot {a : Addr} (h : a.spot = none) (n : Nat) : a.add n = ⟨a.block, a.off + n, none⟩ := by
  obtain ⟨b, o, s⟩ := a
  dsimp only at h
  subst h
  unfold Addr.add; split <;> simp_all
/-- a list of numbers, as a cell holds it -/
theorem conc_ints {A : Option Addr} {L C : Nat} {Z : List Int} (h1 : L ≤ C) (h2 : Z.length = C) (h3 : A = none → C = 0) (h4 : ∀ a', A = some a' → ∀ c, c < C → w.cell? (a'.add c) = some (.int .i64 (Z.getD c 0))) :
    ∃ (nil : Bool) (xs : List Int), Conc (lone w) (ints nil xs) (.slice A L C) := by
  cases A with
  | none =>
    have := h3 rfl
    obtain rfl : L = 0 := by omega
    subst this
    exact ⟨true, [], by simp [Conc]⟩
  | some a =>
    by_cases hc : C = 0
    · subst hc
      obtain rfl : L = 0 := by omega
      exact ⟨false, [], by simp only [Conc]; exact .inr (.inr ⟨trivial, rfl, a, rfl⟩)⟩
    · have h5 := h4 a rfl 0 (by omega)
      obtain ⟨hs1, hs2⟩ := cell_some h5
      rw [add_zero] at hs1 hs2
      refine ⟨false, Z.take L, ?_⟩
      simp only [Conc]
      right; left
      refine ⟨trivial, a.block, a.off, C, ?_, ?_, fun _ => ⟨lone_bad, hs2⟩, rowsAt_ints _ _ fun i hi => ?_⟩
      · obtain ⟨b, o, s⟩ := a
        dsimp only at hs1
        subst hs1
        simp [h2, Nat.min_eq_left h1]
      · simp [h2]; omega
      · have hi' : i < L := by rw [List.length_take] at hi; omega
        have h6 := h4 a rfl i (by omega)
        rw [add_spot hs1] at h6
        show w.cell? _ = _
        rw [h6]
        simp [List.getD, List.getElem?_take, hi']
/-- a list of numbers in a cell -/
theorem ints_of_trod {t e : TypeId} {c : Value} {fuel : Nat} {y : DataW H × List MemPlace} (ht : P.underlying t = some (.slice e)) (he : P.underlying e = some (.int .i64)) (hc : P.cellsOf e = 1)
    (h : DataW.trod enc P w 0 (fun _ => true) true fuel t [c] = some y) : ∃ (nil : Bool) (xs : List Int), Conc (lone w) (ints nil xs) c := by
  rcases open_ints ht he hc h with ⟨h1, _⟩ | ⟨a', len', cap', zs, h1, _, hl', hm', hz, _, hcell, _⟩
  · obtain rfl := List.head_eq_of_cons_eq h1
    exact conc_ints (A := none) (L := 0) (C := 0) (Z := []) (Nat.le_refl _) rfl (fun _ => rfl) (fun a' h => by simp at h)
  · obtain rfl := List.head_eq_of_cons_eq h1
    simp only [if_true] at hz
    exact conc_ints (A := some a') (L := len') (C := cap') (Z := zs) hl' hz (fun h => by simp at h) (fun a'' h c hc => by cases h; exact hcell c (by omega))
end
section
variable {H : Type} {enc : TypeId × Value → H} {w : World} {base : Nat}
theorem cells3' : Try.prog.cellsOf 3 = 1 := by kernel_rfl
theorem cells22' : Try.prog.cellsOf 22 = 1 := by kernel_rfl
set_option maxRecDepth 100000 in
theorem agg_of {t : TypeId} {fs : Array Field} {v : Value} (ht : Try.prog.underlying t = some (.struct fs)) (hval : Value.okWide Try.prog w .any base t v) : ∃ cs, v = .agg cs := by
  unfold Value.okWide at hval
  rw [ht] at hval
  obtain ⟨cs, h1, _⟩ := hval
  exact ⟨cs, h1⟩
end
end Go.Abs
