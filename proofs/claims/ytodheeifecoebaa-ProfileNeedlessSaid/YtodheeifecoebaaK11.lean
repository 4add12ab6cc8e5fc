import Derived.Test.YtodheeifecoebaaAbs21
import Derived.Test.YtodheeifecoebaaK40x
import Derived.Test.YtodheeifecoebaaK344x
import Derived.Carry
import Derived.OpenShut
import Derived.ChangeSame
import Derived.ChangeSlices
import Derived.Below
import Derived.RowKit
import Derived.Test.YtodheeifecoebaaRows
import Derived.WalkKit
import Derived.ProofKit
set_option linter.all false
set_option linter.unusedVariables false
set_option linter.unusedSimpArgs false
set_option linter.unusedSectionVars false
namespace Go.Abs
open Go.ChangeShapes Go.WideShapes Go.RowKit
/-! from the machine's answer to a law's row -/
def lone (W : World) : Ctx := ⟨[], [], W, fun _ => False⟩
theorem lone_rel (W : World) : HeapRel (lone W) :=
  ⟨rfl, fun _ _ _ _ _ h => by simp [lone] at h, fun _ _ _ _ _ _ _ _ _ _ _ _ _ h => by simp [lone] at h, fun _ h => h.elim, fun _ _ h => by simp [lone] at h, fun _ _ _ _ _ _ _ _ _ _ h => by simp [lone] at h, fun _ _ _ h => by simp [lone] at h⟩
theorem lone_own {W : World} {b : Nat} : ¬ (lone W).own b := by
  rintro (⟨_, _, _, _, _, h, _⟩ | ⟨_, _, h, _⟩) <;> simp [lone] at h
theorem lone_bad {W : World} {b : Nat} : ¬ (lone W).bad b := fun h => h.elim lone_own fun h => h
theorem law_calls {P : Program} {g : FuncId} {args : List AV} {cargs : List Value} {W : World} (h : Fn P g args (.lit (.bool true)) []) (hc : ConcL (lone W) args cargs) :
    Calls P g cargs.toArray W fun e W' => e = .returned (.bool true) ∧ Below W.heap.size W W' :=
  (h.2 (lone W) cargs rfl (lone_rel W) hc).mono fun e W' ⟨u, r, H', m', he, ⟨hr, _⟩, hs, _, hu⟩ => by
    subst hr
    simp only [Conc] at hu
    subst hu
    exact ⟨he, hs.os, hs.tape, hs.output, hs.size, fun k hk => hs.blk k hk lone_own⟩

section
variable {H : Type} {enc : TypeId × Value → H} {P : Program} {W W' : World}
theorem trodAll_stays (hl : laidOutB P = true) (hb : Below W.heap.size W W') {sp : Nat → Bool} :
    ∀ {ts : List TypeId} {vs : List Value} {ds : List (DataW H)} {ps : List MemPlace}, DataW.TrodAll enc P W 0 (fun _ => true) true ts vs ds ps → (∀ t ∈ ts, P.readableRec t = true ∧ t < P.types.size) →
      (∀ x ∈ ps, x.block < W.heap.size) → (∀ x ∈ ps, sp x.block = true) → DataW.TrodAll enc P W' 0 sp true ts vs ds ps
  | [], _, _, _, h, _, _, _ => by
    obtain ⟨rfl, rfl, rfl⟩ := trodAll_nil h
    exact rfl
  | t :: ts, _, _, _, h, hr, hlt, hsp => by
    obtain ⟨v, vs1, d, ds1, a, b, rfl, rfl, rfl, h1, h2⟩ := trodAll_cons h
    refine ⟨a, b, WideElems.Trod_stays hl (hr t (by simp)).1 (hr t (by simp)).2 h1 (fun x hx => hb.same (hlt x (by simp [hx]))) (fun x hx => hsp x (by simp [hx])), ?_, rfl⟩
    exact trodAll_stays hl hb h2 (fun t ht => hr t (by simp [ht])) (fun x hx => hlt x (by simp [hx])) (fun x hx => hsp x (by simp [hx]))

theorem post_law {f : Func} {s : ChangeSpec} {t : TypeId} {args : Array Value} {ds gs : List (DataW H)} {before : List MemPlace}
    (hW : DataW.Whole enc P f.params.toList s.vars false W args.toList ds gs before) (hv : s.vars = []) (hfn : s.fn H (ds ++ gs) = { results := [.lit (.bool true)], args := ds })
    (hrt : f.resultTypes = #[t]) (ht : P.underlying t = some .bool) (hl : laidOutB P = true) (hr : ∀ t ∈ f.params.toList, P.readableRec t = true ∧ t < P.types.size) (hb : Below W.heap.size W W') :
    s.post enc P f false true false false W args (.bool true) W' := by
  have hlt := hW.lt
  have hold : ∀ p ∈ before, (fun b => decide (b < W.heap.size)) p.block = true := fun p hp => by simpa using hlt p hp
  have hW' := hW
  obtain ⟨p, q, hA, hV, hbe, hz, hn⟩ := hW'
  rw [hv] at hV
  obtain ⟨rfl, rfl⟩ := trodVars_none hV
  rw [List.append_nil] at hbe
  subst hbe
  have hres : ∀ (b : Nat) (sp : Nat → Bool) (hd : Bool), DataW.TrodAll enc P W' b sp hd f.resultTypes.toList ((Value.bool true).resultList f.resultTypes.size) (s.fn H (ds ++ [])).results [] := fun b sp hd => by
    rw [hrt, hfn]; exact trodAll_mk1 (shut_bool ht true)
  have hargs : ∀ sp : Nat → Bool, (∀ x ∈ before, sp x.block = true) → DataW.TrodAll enc P W' 0 sp true f.params.toList args.toList (s.fn H (ds ++ [])).args before := fun sp hsp => by
    rw [hfn]; exact trodAll_stays hl hb hA hr hlt hsp
  have hvars : ∀ sp : Nat → Bool, DataW.TrodVars enc P W' sp s.vars (s.fn H (ds ++ [])).vars [] := fun sp => by
    rw [hfn, hv]; exact rfl
  refine ⟨ds, [], before, [], before, [], hW, hres _ _ _, hargs _ hold, hvars _, hb.frame _, fun _ => ?_⟩
  refine ⟨ok_one hrt rfl (okWide_bool_mk ht true), _, _, ([] ++ before) ++ [], ⟨[] ++ before, [], trodAll_append (hargs _ (fun _ _ => rfl)) (hres _ _ _), hvars _, rfl, ?_, ?_⟩, ?_⟩
  · intro b off hp
    have hp' : MemPlace.cell b off ∈ before := by simpa using hp
    have := hb.frozen (p := ⟨b, off, none⟩) (hlt _ hp')
    rw [this]
    exact hz b off hp'
  · intro ha; simp at ha
  · intro x hp _
    simpa using hp
end

section
variable {H : Type} {enc : TypeId × Value → H} {P : Program} {w : World} {base : Nat}
end
end Go.Abs
namespace Go.Abs
open Go.ChangeShapes Go.WideShapes Go.RowKit
/-! opening structs -/
section
variable {H : Type} {enc : TypeId × Value → H} {P : Program} {w : World} {base : Nat}
theorem trod_struct3 {t : TypeId} {f0 f1 f2 : Field} {b : Nat} {spare : Nat → Bool} {held : Bool} {fuel : Nat} {cs : List Value} {x : DataW H × List MemPlace} (ht : P.underlying t = some (.struct #[f0, f1, f2])) (h : DataW.trod enc P w b spare held fuel t cs = some x) :
    ∃ y0 y1 y2 n, cs.length = P.cellsOf t ∧ DataW.trod enc P w b spare held n f0.type ((cs.drop f0.offset).take (P.cellsOf f0.type)) = some y0 ∧
      DataW.trod enc P w b spare held n f1.type ((cs.drop f1.offset).take (P.cellsOf f1.type)) = some y1 ∧ DataW.trod enc P w b spare held n f2.type ((cs.drop f2.offset).take (P.cellsOf f2.type)) = some y2 := by
  obtain ⟨xs, n, _, rfl, hl, hlen, hf⟩ := DataW.trod_struct ht h
  match xs, hlen with
  | [y0, y1, y2], _ => exact ⟨y0, y1, y2, n, hl, by simpa using hf 0 f0 rfl, by simpa using hf 1 f1 rfl, by simpa using hf 2 f2 rfl⟩
end
end Go.Abs
namespace Go.Abs
open Go.ChangeShapes Go.WideShapes Go.RowKit Go.Proofs
section
variable {H : Type} {enc : TypeId × Value → H} {w : World} {base : Nat}
theorem cells3' : Try.prog.cellsOf 3 = 1 := by kernel_rfl
theorem cells56' : Try.prog.cellsOf 56 = 2 := by kernel_rfl
theorem cells106' : Try.prog.cellsOf 106 = 4 := by kernel_rfl
set_option maxRecDepth 100000 in
theorem rdg_cells {b : Nat} {spare : Nat → Bool} {held : Bool} {fuel : Nat} {cs : List Value} {y : DataW H × List MemPlace} (h : DataW.trod enc Try.prog w b spare held fuel 106 cs = some y) : ∃ r : Rd, cs = [.int .i64 r.a, .int .i64 r.b, .int .i64 r.lo, .int .i64 r.hi] := by
  obtain ⟨y0, y1, y2, n, hl, h0, h1, h2⟩ := trod_struct3 Try.underlying106 h
  rw [cells106'] at hl
  match cs, hl with
  | [c0, c1, c2, c3], _ =>
  rw [cells3'] at h0 h1
  rw [cells56'] at h2
  obtain ⟨z0, z1, m, _, _, h3, h4⟩ := trod_struct2 Try.underlying56 h2
  rw [cells3'] at h3 h4
  obtain ⟨i0, e0, _, _⟩ := DataW.trod_int Try.underlying3 h0
  obtain ⟨i1, e1, _, _⟩ := DataW.trod_int Try.underlying3 h1
  obtain ⟨i2, e2, _, _⟩ := DataW.trod_int Try.underlying3 h3
  obtain ⟨i3, e3, _, _⟩ := DataW.trod_int Try.underlying3 h4
  simp at e0 e1 e2 e3
  subst e0 e1 e2 e3
  exact ⟨⟨i0, i1, i2, i3⟩, rfl⟩
theorem rowsAt_rd {C : Ctx} {b : Nat} : ∀ (l : List Rd) (off : Nat), (∀ i, i < l.length → C.w.cell? ⟨b, off + 4 * i, none⟩ = some (.int .i64 (l.getD i rd0).a) ∧ C.w.cell? ⟨b, off + 4 * i + 1, none⟩ = some (.int .i64 (l.getD i rd0).b) ∧ C.w.cell? ⟨b, off + 4 * i + 2, none⟩ = some (.int .i64 (l.getD i rd0).lo) ∧ C.w.cell? ⟨b, off + 4 * i + 3, none⟩ = some (.int .i64 (l.getD i rd0).hi)) → RowsAt C b off 4 (rows4 l)
  | [], _, _ => trivial
  | x :: r, off, h => by
    obtain ⟨h0, h1, h2, h3⟩ := h 0 (by simp)
    refine ⟨rfl, ⟨⟨_, h0, rfl, rfl, rfl⟩, ⟨_, h1, rfl, rfl, rfl⟩, ⟨_, h2, rfl, rfl, rfl⟩, ⟨_, h3, rfl, rfl, rfl⟩, trivial⟩, rowsAt_rd r (off + 4) fun i hi => ?_⟩
    have := h (i + 1) (by simpa using hi)
    rw [show off + 4 + 4 * i = off + 4 * (i + 1) by omega]
    simpa using this
set_option maxRecDepth 100000 in
theorem open_rdgs {v : Value} {d : DataW H} {ps : List MemPlace} (hval : Value.okWide Try.prog w .any base 42 v) (h : DataW.Trod enc Try.prog w 0 (fun _ => true) true 42 v d ps) : ∃ (nil : Bool) (l : List Rd), Conc (lone w) (rdgs nil l) v := by
  obtain ⟨a, len, cap, rfl⟩ := okWide_slice Try.underlying42 hval
  obtain ⟨fuel, hf⟩ := h
  rcases DataW.trod_slice Try.underlying42 hf with ⟨h1, _⟩ | ⟨a', len', cap', elems, rest, n, _, h1, _, _, hlc, hcm, hlen, hel, _, _⟩
  · simp only [Value.cells] at h1
    refine ⟨true, [], ?_⟩
    simp only [Conc]
    left
    exact ⟨trivial, rfl, by simpa using h1⟩
  · simp [Value.cells] at h1
    obtain ⟨rfl, rfl, rfl⟩ := h1
    have hok : w.has Try.prog .any base a' 106 cap := by
      unfold Value.okWide Cell.okWide Cell.ok at hval
      rw [Try.underlying42] at hval
      exact hval.2.2
    obtain ⟨_, hsp, row, cells, hsh, _⟩ := hok
    obtain ⟨b, off, sp⟩ := a'
    dsimp only at hsp hsh
    subst hsp
    have hcells : IsCells w b := by
      unfold World.shape? at hsh
      split at hsh
      · rename_i c el f hb; exact ⟨c, el, f, hb⟩
      · simp at hsh
    have each : ∀ i, i < len → ∃ r : Rd, ∀ j, j < 4 → w.cell? ((Addr.add ⟨b, off, none⟩ (i * 4)).add j) = [Value.int .i64 r.a, .int .i64 r.b, .int .i64 r.lo, .int .i64 r.hi][j]? := by
      intro i hi
      have h2 := hel i hi
      have h3 : elems[i]? ≠ none := by rw [List.getElem?_eq_some_iff.2 ⟨by omega, rfl⟩]; simp
      rw [cells106'] at h2
      cases hc : w.cells? 0 (Addr.add ⟨b, off, none⟩ (i * 4)) 4 with
      | none => rw [hc] at h2; exact (h3 h2.symm).elim
      | some cs =>
        rw [hc] at h2
        cases ht : DataW.trod enc Try.prog w 0 (fun _ => true) true n 106 cs with
        | none => simp only [Option.bind_some, ht] at h2; exact (h3 h2.symm).elim
        | some y =>
          obtain ⟨r, rfl⟩ := rdg_cells ht
          refine ⟨r, fun j hj => ?_⟩
          have := (World.cells?_some hc).2.2 j hj
          exact this
    have hlist : ∀ n, n ≤ len → ∃ l : List Rd, l.length = n ∧ ∀ i, i < n → ∀ j, j < 4 → w.cell? ⟨b, off + 4 * i + j, none⟩ = [Value.int .i64 (l.getD i rd0).a, .int .i64 (l.getD i rd0).b, .int .i64 (l.getD i rd0).lo, .int .i64 (l.getD i rd0).hi][j]? := by
      intro n
      induction n with
      | zero => intro _; exact ⟨[], rfl, fun i hi => by omega⟩
      | succ n ih =>
        intro hn
        obtain ⟨l, h4, h5⟩ := ih (by omega)
        obtain ⟨r, h6⟩ := each n (by omega)
        refine ⟨l ++ [r], by simp [h4], fun i hi j hj => ?_⟩
        by_cases hin : i < n
        · have e : (l ++ [r]).getD i rd0 = l.getD i rd0 := by
            rw [List.getD_eq_getElem?_getD, List.getElem?_append_left (by omega), ← List.getD_eq_getElem?_getD]
          rw [e]; exact h5 i hin j hj
        · have : i = n := by omega
          subst this
          have e : (l ++ [r]).getD i rd0 = r := by
            rw [List.getD_eq_getElem?_getD, List.getElem?_append_right (by omega), h4]; simp
          rw [e]
          have := h6 j hj
          have e2 : (Addr.add ⟨b, off, none⟩ (i * 4)).add j = ⟨b, off + 4 * i + j, none⟩ := by
            have e3 : ∀ o n : Nat, Addr.add ⟨b, o, none⟩ n = ⟨b, o + n, none⟩ := fun o n => by unfold Addr.add; split <;> simp_all
            rw [e3, e3, Nat.mul_comm]
          rwa [e2] at this
    obtain ⟨l, hl, hl2⟩ := hlist len (Nat.le_refl _)
    refine ⟨false, l, ?_⟩
    simp only [Conc]
    right; left
    refine ⟨trivial, b, off, cap, ?_, ?_, fun _ => ⟨lone_bad, hcells⟩, rowsAt_rd _ _ fun i hi => ?_⟩
    · simp [rows4_len, hl]
    · simp [rows4_len, hl, hlc]
    · have := hl2 i (by omega)
      exact ⟨this 0 (by omega), this 1 (by omega), this 2 (by omega), this 3 (by omega)⟩
end
end Go.Abs
namespace Go.Proofs.Ytodheeifecoebaa.profileNeedless
open Go.ChangeShapes Go.WideShapes Go.ChangeAt Go.RowKit Go.Abs
set_option linter.unusedVariables false
theorem own : ownKnob Try.prog.godebug = none := by kernel_rfl
set_option maxRecDepth 100000 in
set_option maxHeartbeats 4000000 in
theorem contract (H : Type) (enc : TypeId × Value → H) (W : World) (base : Nat) (args : Array Value) (ds gs : List (DataW H)) (before : List MemPlace)
    (hval : ∀ (j : Nat) t v, Try.f15.params[j]? = some t → args[j]? = some v → Value.okWide Try.prog W .any base t v)
    (hW : DataW.Whole enc Try.prog Try.f15.params.toList Rows.profileNeedlessSpec.vars false W args.toList ds gs before) :
    Calls Try.prog 15 args W fun e W' => ∃ v, e = .returned v ∧ Rows.profileNeedlessSpec.post enc Try.prog Try.f15 false true false false W args v W' := by
  have hW' := hW
  obtain ⟨p, q, hA0, hV, hbe, hfz, hnd⟩ := hW
  have hA : DataW.TrodAll enc Try.prog W 0 (fun _ => true) true Try.f15.params.toList args.toList ds p := hA0
  rw [Try.params15] at hA hval
  obtain ⟨v0, v1, d0, d1, p0, p1, rfl, rfl, rfl, h0, h1⟩ := trodAll_two hA
  obtain ⟨rfl, rfl⟩ := trodVars_none hV
  obtain ⟨i0, rfl, _, _⟩ := open_int Try.underlying3 (hval 0 3 v0 rfl rfl) h0
  obtain ⟨nil1, l1, hc1⟩ := open_rdgs (hval 1 42 v1 rfl rfl) h1
  refine (law_calls (k15 i0 nil1 l1) (cargs := [_, _]) ⟨_, _, rfl, rfl, ⟨_, _, rfl, hc1, rfl⟩⟩).mono fun e W' ⟨he, hb⟩ => ?_
  subst he
  exact ⟨_, rfl, post_law (t := 4) hW' rfl rfl (by kernel_rfl) Try.underlying4 (by kernel_rfl) (by rw [Try.params15]; intro t ht; simp only [List.mem_cons, List.not_mem_nil, or_false] at ht; rcases ht with rfl | rfl <;> exact ⟨by kernel_rfl, of_decide_eq_true (by kernel_rfl)⟩) hb⟩
set_option maxRecDepth 100000 in
theorem lifted (os : Os) (started : os.Started) (H : Type) (enc : TypeId × Value → H) :
    ReturnsInHanded {} Try.checked os 15 .any (Rows.profileNeedlessSpec.pre6 enc Try.prog Try.f15 Rows.profileNeedlessRow.domain false) (Rows.profileNeedlessSpec.post enc Try.prog Try.f15 false true false false) := by
  refine returnsInHanded_of_change (C := Try.checked) own started (by kernel_rfl) Try.func15
    (ChangeSpec.witness6 (enc := enc) (C := Try.checked) false ⟨#[], #[.int .i64 0, .slice none 0 0], []⟩ 8 (by kernel_rfl) (by kernel_rfl) (by kernel_rfl) (by kernel_rfl)) ?_
  intro W base args ds gs before hval hW hcnd _
  exact contract H enc W base args ds gs before hval hW
end Go.Proofs.Ytodheeifecoebaa.profileNeedless
