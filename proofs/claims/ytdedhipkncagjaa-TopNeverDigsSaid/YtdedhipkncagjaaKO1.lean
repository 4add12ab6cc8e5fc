import Derived.Test.YtdedhipkncagjaaAbs21
import Derived.Carry
import Derived.OpenShut
import Derived.ChangeSame
import Derived.ChangeSlices
import Derived.Below
import Derived.RowKit
set_option linter.all false
set_option linter.unusedVariables false
set_option linter.unusedSimpArgs false
set_option linter.unusedSectionVars false
namespace Go.Abs
open Go.ChangeShapes Go.WideShapes Go.RowKit
/-! from the machine's answer to a law's row -/
def lone (W : World) : Ctx := ⟨[], [], W, fun _ => False⟩
theorem lone_rel (W : World) : HeapRel (lone W) :=
  ⟨rfl, fun _ _ _ _ _ h => by simp [lone] at h, fun _ _ _ _ _ _ _ _ _ _ _ _ _ h => by simp [lone] at h, fun _ h => h.elim, fun _ _ h => by simp [lone] at h, fun _ _ _ _ _ _ _ _ _ _ h => by simp [lone] at h, fun _ _ _ h => by simp [lone] at h⟩
theorem lone_own {W : World} {b : Nat} : ¬ (lone W).own b := by
  rintro (⟨_, _, _, _, _, h, _⟩ | ⟨_, _, h, _⟩) <;> simp [lone] at h
theorem lone_bad {W : World} {b : Nat} : ¬ (lone W).bad b := fun h => h.elim lone_own fun h => h
theorem law_calls {P : Program} {g : FuncId} {args : List AV} {cargs : List Value} {W : World} (h : Fn P g args (.lit (.bool true)) []) (hc : ConcL (lone W) args cargs) :
    Calls P g cargs.toArray W fun e W' => e = .returned (.bool true) ∧ Below W.heap.size W W' :=
  (h.2 (lone W) cargs rfl (lone_rel W) hc).mono fun e W' ⟨u, r, H', m', he, ⟨hr, _⟩, hs, _, hu⟩ => by
    subst hr
    simp only [Conc] at hu
    subst hu
    exact ⟨he, hs.os, hs.tape, hs.output, hs.size, fun k hk => hs.blk k hk lone_own⟩

section
variable {H : Type} {enc : TypeId × Value → H} {P : Program} {W W' : World}
theorem trodAll_stays (hl : laidOutB P = true) (hb : Below W.heap.size W W') {sp : Nat → Bool} :
    ∀ {ts : List TypeId} {vs : List Value} {ds : List (DataW H)} {ps : List MemPlace}, DataW.TrodAll enc P W 0 (fun _ => true) true ts vs ds ps → (∀ t ∈ ts, P.readableRec t = true ∧ t < P.types.size) →
      (∀ x ∈ ps, x.block < W.heap.size) → (∀ x ∈ ps, sp x.block = true) → DataW.TrodAll enc P W' 0 sp true ts vs ds ps
  | [], _, _, _, h, _, _, _ => by
    obtain ⟨rfl, rfl, rfl⟩ := trodAll_nil h
    exact rfl
  | t :: ts, _, _, _, h, hr, hlt, hsp => by
    obtain ⟨v, vs1, d, ds1, a, b, rfl, rfl, rfl, h1, h2⟩ := trodAll_cons h
    refine ⟨a, b, WideElems.Trod_stays hl (hr t (by simp)).1 (hr t (by simp)).2 h1 (fun x hx => hb.same (hlt x (by simp [hx]))) (fun x hx => hsp x (by simp [hx])), ?_, rfl⟩
    exact trodAll_stays hl hb h2 (fun t ht => hr t (by simp [ht])) (fun x hx => hlt x (by simp [hx])) (fun x hx => hsp x (by simp [hx]))

theorem post_law {f : Func} {s : ChangeSpec} {t : TypeId} {args : Array Value} {ds gs : List (DataW H)} {before : List MemPlace}
    (hW : DataW.Whole enc P f.params.toList s.vars false W args.toList ds gs before) (hv : s.vars = []) (hfn : s.fn H (ds ++ gs) = { results := [.lit (.bool true)], args := ds })
    (hrt : f.resultTypes = #[t]) (ht : P.underlying t = some .bool) (hl : laidOutB P = true) (hr : ∀ t ∈ f.params.toList, P.readableRec t = true ∧ t < P.types.size) (hb : Below W.heap.size W W') :
    s.post enc P f false true false false W args (.bool true) W' := by
  have hlt := hW.lt
  have hold : ∀ p ∈ before, (fun b => decide (b < W.heap.size)) p.block = true := fun p hp => by simpa using hlt p hp
  have hW' := hW
  obtain ⟨p, q, hA, hV, hbe, hz, hn⟩ := hW'
  rw [hv] at hV
  obtain ⟨rfl, rfl⟩ := trodVars_none hV
  rw [List.append_nil] at hbe
  subst hbe
  have hres : ∀ (b : Nat) (sp : Nat → Bool) (hd : Bool), DataW.TrodAll enc P W' b sp hd f.resultTypes.toList ((Value.bool true).resultList f.resultTypes.size) (s.fn H (ds ++ [])).results [] := fun b sp hd => by
    rw [hrt, hfn]; exact trodAll_mk1 (shut_bool ht true)
  have hargs : ∀ sp : Nat → Bool, (∀ x ∈ before, sp x.block = true) → DataW.TrodAll enc P W' 0 sp true f.params.toList args.toList (s.fn H (ds ++ [])).args before := fun sp hsp => by
    rw [hfn]; exact trodAll_stays hl hb hA hr hlt hsp
  have hvars : ∀ sp : Nat → Bool, DataW.TrodVars enc P W' sp s.vars (s.fn H (ds ++ [])).vars [] := fun sp => by
    rw [hfn, hv]; exact rfl
  refine ⟨ds, [], before, [], before, [], hW, hres _ _ _, hargs _ hold, hvars _, hb.frame _, fun _ => ?_⟩
  refine ⟨ok_one hrt rfl (okWide_bool_mk ht true), _, _, ([] ++ before) ++ [], ⟨[] ++ before, [], trodAll_append (hargs _ (fun _ _ => rfl)) (hres _ _ _), hvars _, rfl, ?_, ?_⟩, ?_⟩
  · intro b off hp
    have hp' : MemPlace.cell b off ∈ before := by simpa using hp
    have := hb.frozen (p := ⟨b, off, none⟩) (hlt _ hp')
    rw [this]
    exact hz b off hp'
  · intro ha; simp at ha
  · intro x hp _
    simpa using hp
end

section
variable {H : Type} {enc : TypeId × Value → H} {P : Program} {w : World} {base : Nat}
theorem rowsAt_ints {C : Ctx} {b : Nat} : ∀ (xs : List Int) (off : Nat), (∀ i, i < xs.length → C.w.cell? ⟨b, off + i, none⟩ = some (.int .i64 (xs.getD i 0))) → RowsAt C b off 1 (xs.map fun x => [i64 x])
  | [], _, _ => trivial
  | x :: r, off, h => by
    refine ⟨rfl, ⟨⟨_, h 0 (by simp), rfl, rfl, rfl⟩, trivial⟩, rowsAt_ints r (off + 1) fun i hi => ?_⟩
    have := h (i + 1) (by simpa using hi)
    rw [show off + 1 + i = off + (i + 1) by omega]
    simpa using this
theorem open_ints_av {t e : TypeId} {v : Value} {d : DataW H} {ps : List MemPlace} (ht : P.underlying t = some (.slice e)) (he : P.underlying e = some (.int .i64)) (hc : P.cellsOf e = 1)
    (hval : Value.okWide P w .any base t v) (h : DataW.Trod enc P w 0 (fun _ => true) true t v d ps) : ∃ (nil : Bool) (xs : List Int), Conc (lone w) (ints nil xs) v := by
  obtain ⟨a, len, cap, rfl⟩ := okWide_slice ht hval
  obtain ⟨fuel, hf⟩ := h
  rcases open_ints ht he hc hf with ⟨h1, _⟩ | ⟨a', len', cap', zs, h1, _, hlc, hcm, hz, _, hcell, _⟩
  · simp only [Value.cells] at h1
    refine ⟨true, [], ?_⟩
    simp only [ints, Conc]
    left
    exact ⟨trivial, rfl, by simpa using h1⟩
  · simp [Value.cells] at h1
    obtain ⟨rfl, rfl, rfl⟩ := h1
    have hok : w.has P .any base a' e cap := by
      unfold Value.okWide Cell.okWide Cell.ok at hval
      rw [ht] at hval
      exact hval.2.2
    obtain ⟨_, hsp, row, cells, hsh, _⟩ := hok
    obtain ⟨b, off, sp⟩ := a'
    dsimp only at hsp hsh
    subst hsp
    have hcells : IsCells w b := by
      unfold World.shape? at hsh
      split at hsh
      · rename_i c el f hb; exact ⟨c, el, f, hb⟩
      · simp at hsh
    have hlz : len ≤ zs.length := by rw [hz]; simpa using hlc
    refine ⟨false, zs.take len, ?_⟩
    · simp only [ints, Conc]
      right; left
      refine ⟨trivial, b, off, cap, ?_, ?_, fun _ => ⟨lone_bad, hcells⟩, rowsAt_ints _ _ fun i hi => ?_⟩
      · simp [List.length_take, Nat.min_eq_left hlz]
      · simp [List.length_take]; omega
      · have hi' : i < len := by rw [List.length_take] at hi; omega
        have h2 := hcell i (by omega)
        have e2 : Addr.add ⟨b, off, none⟩ i = ⟨b, off + i, none⟩ := by
          unfold Addr.add; split <;> simp_all
        rw [e2] at h2
        show w.cell? _ = _
        rw [h2]
        congr 2
        simp [List.getD, List.getElem?_take, hi']
end
end Go.Abs
namespace Go.Abs
open Go.ChangeShapes Go.WideShapes Go.RowKit
/-! opening structs -/
section
variable {H : Type} {enc : TypeId × Value → H} {P : Program} {w : World} {base : Nat}
theorem trod_struct3 {t : TypeId} {f0 f1 f2 : Field} {b : Nat} {spare : Nat → Bool} {held : Bool} {fuel : Nat} {cs : List Value} {x : DataW H × List MemPlace} (ht : P.underlying t = some (.struct #[f0, f1, f2])) (h : DataW.trod enc P w b spare held fuel t cs = some x) :
    ∃ y0 y1 y2 n, cs.length = P.cellsOf t ∧ DataW.trod enc P w b spare held n f0.type ((cs.drop f0.offset).take (P.cellsOf f0.type)) = some y0 ∧
      DataW.trod enc P w b spare held n f1.type ((cs.drop f1.offset).take (P.cellsOf f1.type)) = some y1 ∧ DataW.trod enc P w b spare held n f2.type ((cs.drop f2.offset).take (P.cellsOf f2.type)) = some y2 := by
  obtain ⟨xs, n, _, rfl, hl, hlen, hf⟩ := DataW.trod_struct ht h
  match xs, hlen with
  | [y0, y1, y2], _ => exact ⟨y0, y1, y2, n, hl, by simpa using hf 0 f0 rfl, by simpa using hf 1 f1 rfl, by simpa using hf 2 f2 rfl⟩
end
end Go.Abs
