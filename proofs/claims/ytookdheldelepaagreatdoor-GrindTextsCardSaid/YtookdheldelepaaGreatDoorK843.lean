import Derived.Test.YtookdheldelepaaGreatDoorKP18
import Derived.Lib.LaidU8
import Derived.Lib.LaidTab
import Derived.Shelf.Vars
import Derived.MakeChecks
import Derived.Test.YtookdheldelepaaGreatDoorRows
import Derived.Test.YtookdheldelepaaGreatDoorTie
import Derived.Test.YtookdheldelepaaGreatDoorCards
import Derived.WalkKit
import Derived.ProofKit
import Derived.OpenShut
import Derived.Lay
import Derived.HandedShaped
import Derived.SevenTiedAt
set_option linter.all false
set_option linter.unusedVariables false
set_option linter.unusedSimpArgs false
set_option linter.unusedSectionVars false
namespace Go.Abs
open Go.ChangeShapes Go.WideShapes Go.RowKit Go.Proofs Go.Proofs.YtookdheldelepaaGreatDoor
theorem iface_of_trod {P : Program} {w : World} {base : Nat} {sp : Nat → Bool} {fuel : Nat} {t : TypeId} {ms : Array (String × TypeId)} {cs : List Value} {nm : String} {d : DataW Unit} {p : List MemPlace} (ht : P.underlying t = some (.interface ms))
    (h : DataW.trod (fun _ => ()) P w base sp false fuel t cs = some (.iface nm d, p)) : ∃ u v, cs = [.iface u v] := by
  cases fuel with
  | zero => simp [DataW.trod] at h
  | succ n =>
    match cs, h with
    | [], h => simp [DataW.trod, ht] at h
    | [c], h => cases c <;> first | exact ⟨_, _, rfl⟩ | simp [DataW.trod, ht] at h
    | _ :: _ :: _, h => simp [DataW.trod, ht] at h
theorem var_block {P : Program} {w : World} {n : String} {g : Nat} {cs : Array Value} (hg : P.globalNamed n = some g) (h : w.var? P n = some cs) : ∃ e f, w.heap[g]? = some (.cells cs e f) := by
  unfold World.var? at h
  rw [hg] at h
  simp only [Option.bind_some] at h
  split at h
  · rename_i c e f hb
    obtain rfl := Option.some.inj h
    exact ⟨e, f, hb⟩
  · simp at h
theorem shape_block {W : World} (h : W.ShapedOpen Tryz.prog) : ∃ m e f, W.heap[1]? = some (.cells #[.int .i64 m] e f) := by
  have h0 : (((begin Tryz.prog (fun _ _ => 0) default).world.heap[1]?).bind Obj.row?).map (fun x => (x.1.size, x.2)) = some (1, 3) := by kernel_rfl
  cases hb : ((begin Tryz.prog (fun _ _ => 0) default).world.heap[1]?).bind Obj.row? with
  | none => rw [hb] at h0; simp at h0
  | some x =>
    obtain ⟨zero, t⟩ := x
    rw [hb] at h0
    simp only [Option.map_some, Option.some.injEq, Prod.mk.injEq] at h0
    obtain ⟨hz, rfl⟩ := h0
    obtain ⟨cs, hh, hs, hr⟩ := h.1 1 zero 3 (of_decide_eq_true (by kernel_rfl)) hb
    obtain ⟨m, hm⟩ := cell_of_shapedOpen_int (k := .i64) h (of_decide_eq_true (by kernel_rfl)) hb hz (by kernel_rfl) (by kernel_rfl) Tryz.underlying3
    refine ⟨m, 3, (0, 0), hh.trans ?_⟩
    obtain ⟨l⟩ := cs
    simp only [World.cell?, hh] at hm
    rw [hz] at hs
    match l, hs with
    | [c], _ =>
      have : c = .int .i64 m := by simpa using hm
      rw [this]
theorem laid_glw {W : World} (hL : laidMetH Tryz.prog Rows.grindTextsRow.laid W) (hs : W.ShapedOpen Tryz.prog) : GlW W := by
  rw [MakeChecks.laidMetH_plain _ _ _ (by kernel_rfl)] at hL
  have r3 := Lib.laidMet.reads hL (n := _) (d := Lib.tabData .u64 Lib.pow10Tab) (.tail _ (.tail _ (.head _)))
  have rR := Lib.laidMet.reads hL (n := _) (d := Rows.laid_strconv_ErrRange) (.tail _ (.tail _ (.tail _ (.tail _ (.head _)))))
  have rS := Lib.laidMet.reads hL (n := _) (d := Rows.laid_strconv_ErrSyntax) (.tail _ (.tail _ (.tail _ (.tail _ (.tail _ (.head _))))))
  intro q hq
  simp only [globs, List.mem_cons, List.not_mem_nil, or_false] at hq
  have sent : ∀ {n : String} {g : Nat} {nm : String} {d : DataW Unit}, Lib.VarReads Tryz.prog W n (.iface nm d) → Tryz.prog.globalNamed n = some g → (Tryz.prog.globals[g]?).map (·.type) = some 87 → ∃ u v e f, W.heap[g]? = some (.cells #[.iface u v] e f) := by
    rintro n g nm d ⟨g', t, cs, fuel, p, h1, h2, h3, h4⟩ hg ht
    obtain rfl := Option.some.inj (hg.symm.trans h1)
    obtain rfl := Option.some.inj (ht.symm.trans h2)
    obtain ⟨u, v, e⟩ := iface_of_trod Tryz.underlying87 h4
    obtain ⟨b, f, hb⟩ := var_block hg h3
    obtain ⟨l⟩ := cs
    dsimp only at e
    subst e
    exact ⟨u, v, b, f, hb⟩
  rcases hq with rfl | rfl | rfl | rfl
  · obtain ⟨g', t, cs, fuel, p, h1, h2, h3, h4⟩ := r3
    have g3 : some 0 = some g' := by rw [← h1]; kernel_rfl
    obtain rfl := Option.some.inj g3
    obtain rfl := Option.some.inj ((show (Tryz.prog.globals[0]?).map (·.type) = some 169 by kernel_rfl).symm.trans h2)
    have e := Lib.cells_of_tab Tryz.underlying169 Tryz.underlying153 (by kernel_rfl) (by kernel_rfl) h4
    obtain ⟨b, f, hb⟩ := var_block h1 h3
    refine ⟨_, b, f, hb, ?_⟩
    obtain ⟨l⟩ := cs
    dsimp only at e
    rw [e]
  · obtain ⟨m, e, f, h⟩ := shape_block hs
    exact ⟨_, e, f, h, m, rfl⟩
  · obtain ⟨u, v, e, f, h⟩ := sent rS (g := 2) (by kernel_rfl) (by kernel_rfl)
    exact ⟨_, e, f, h, u, v, rfl⟩
  · obtain ⟨u, v, e, f, h⟩ := sent rR (g := 3) (by kernel_rfl) (by kernel_rfl)
    exact ⟨_, e, f, h, u, v, rfl⟩
end Go.Abs
namespace Go.Proofs.YtookdheldelepaaGreatDoor
open Go.ChangeShapes Go.WideShapes Go.ChangeAt Go.RowKit Go.Abs
set_option linter.unusedVariables false
theorem own : ownKnob Tryz.prog.godebug = none := by kernel_rfl
theorem glw_size {W : World} (hg : GlW W) : 4 ≤ W.heap.size := by
  obtain ⟨c, e, f, h, _⟩ := hg (3, _) (.tail _ (.tail _ (.tail _ (.head _))))
  exact (Array.getElem?_eq_some_iff.1 h).1
set_option maxRecDepth 100000 in
set_option maxHeartbeats 4000000 in
theorem contract (H : Type) (enc : TypeId × Value → H) (W : World) (base : Nat) (args : Array Value) (ds gs : List (DataW H)) (before : List MemPlace)
    (hval : ∀ (j : Nat) t v, Tryz.f4.params[j]? = some t → args[j]? = some v → Value.okWide Tryz.prog W .any base t v)
    (hW : DataW.Whole enc Tryz.prog Tryz.f4.params.toList Rows.grindTextsSpec.vars false W args.toList ds gs before) (hL : laidMetH Tryz.prog Rows.grindTextsRow.laid W) (hsh : W.ShapedOpen Tryz.prog) :
    Calls Tryz.prog 4 args W fun e W' => ∃ v, e = .returned v ∧ Rows.grindTextsSpec.post enc Tryz.prog Tryz.f4 false true false false W args v W' := by
  have hg := laid_glw hL hsh
  have hW' := hW
  obtain ⟨p, q, hA0, hV, hbe, hfz, hnd⟩ := hW
  have hA : DataW.TrodAll enc Tryz.prog W 0 (fun _ => true) true Tryz.f4.params.toList args.toList ds p := hA0
  rw [Tryz.params4] at hA hval
  obtain ⟨v0, v1, v2, d0, d1, d2, p0, p1, p2, rfl, rfl, rfl, h0, h1, h2⟩ := trodAll_three hA
  obtain ⟨rfl, rfl⟩ := trodVars_none hV
  obtain ⟨s, rfl⟩ := open_str Tryz.underlying9 (hval 0 9 v0 rfl rfl)
  obtain ⟨x, hx, rfl⟩ := open_ses (hval 1 46 v1 rfl rfl)
  obtain ⟨t, rfl⟩ := open_str Tryz.underlying9 (hval 2 9 v2 rfl rfl)
  refine (law_callsG (k4 (s := s) (t := t) (x := x) hx) (glw_size hg) hg (cargs := [_, _, _]) ⟨_, _, rfl, rfl, ⟨_, _, rfl, rfl, ⟨_, _, rfl, rfl, rfl⟩⟩⟩).mono fun e W' ⟨he, hb⟩ => ?_
  subst he
  exact ⟨_, rfl, post_law (t := 4) hW' rfl rfl (by kernel_rfl) Tryz.underlying4 (by kernel_rfl) (by rw [Tryz.params4]; intro t ht; simp only [List.mem_cons, List.not_mem_nil, or_false] at ht; rcases ht with rfl | rfl | rfl <;> exact ⟨by kernel_rfl, of_decide_eq_true (by kernel_rfl)⟩) hb⟩
end Go.Proofs.YtookdheldelepaaGreatDoor
namespace Go.Proofs.YtookdheldelepaaGreatDoor
open Go.ChangeShapes Go.WideShapes Go.ChangeAt Go.RowKit Go.Abs
set_option linter.unusedVariables false
set_option maxRecDepth 100000 in
theorem lifted (os : Os) (started : os.Started) (H : Type) (enc : TypeId × Value → H) :
    ReturnsInHanded {} Tryz.checked os 4 .any (fun w args => (Rows.grindTextsSpec.pre enc Tryz.prog Tryz.f4 [] false w args ∧ laidMetH Tryz.prog Rows.grindTextsRow.laid w) ∧ sizedMet enc Tryz.prog Tryz.f4 (OpenSpec.ofChange Rows.grindTextsSpec) false w args)
      (Rows.grindTextsSpec.post enc Tryz.prog Tryz.f4 false true false false) := by
  refine returnsInHanded_of_calls (C := Tryz.checked) own started (by kernel_rfl)
    (ChangeSpec.witness_shaped (enc := enc) (C := Tryz.checked) (os := os) (X := fun w _ => laidMetH Tryz.prog Rows.grindTextsRow.laid w) false (World.laidAll Tryz.prog os Rows.grindTextsRow.laid) #[.string ⟨#[]⟩, .agg #[.string ⟨#[]⟩, .string ⟨#[]⟩, .int .i64 0], .string ⟨#[]⟩] 8 (World.laidAll_os _ _ _)
      (World.shaped_of_ZipB (by kernel_rfl) (by kernel_rfl)) (by kernel_rfl) (by kernel_rfl) (by kernel_rfl)
      (by rw [MakeChecks.laidMetH_plain _ _ _ (by kernel_rfl)]; exact laidMet_laidAll _ (by kernel_rfl) (by kernel_rfl))) ?_
  intro w tape i _ hsh _ hok hpre _
  obtain ⟨_, _, _, fn, hfn, _, _, _, _, hval⟩ := hok
  obtain rfl := Option.some.inj (hfn.symm.trans Tryz.func4)
  obtain ⟨⟨⟨ds, gs, before, hw, _⟩, hL⟩, _⟩ := hpre
  refine (contract H enc (w.forCall tape i) w.heap.size i.args ds gs before hval (DataW.Whole.of_heap (w' := w.forCall tape i) (by rfl) hw) (hL.of_heap (by rfl)) hsh).mono fun e W' ⟨v, he, hp⟩ => ?_
  subst he
  exact ChangeSpec.post_blind hp
end Go.Proofs.YtookdheldelepaaGreatDoor
