import Derived.Test.YtookdheldelepaaGreatDoorAbsL
import Derived.Test.YtookdheldelepaaGreatDoorSH
import Derived.Test.YtookdheldelepaaGreatDoorPCmin
import Derived.Lib.AtoiErrMem
set_option linter.all false
set_option linter.unusedVariables false
set_option linter.unusedSimpArgs false
set_option linter.unusedSectionVars false
/- the library's functions as calls of ours -/
namespace Go.Abs
open Go.Proofs Go.RowKit
theorem glw_max {w : World} (hw : GlW w) : ∃ m, w.cell? ⟨1, 0, none⟩ = some (.int .i64 m) := by
  obtain ⟨c, e, f, h, m, rfl⟩ := hw (1, fun c => ∃ m, c = #[.int .i64 m]) (by simp [globs])
  exact ⟨m, by simp only [World.cell?]; rw [h]; rfl⟩
theorem glw_err {w : World} (hw : GlW w) {i : Nat} (hi : i = 2 ∨ i = 3) : ∃ t v, w.cell? ⟨i, 0, none⟩ = some (.iface t v) := by
  obtain ⟨c, e, f, h, t, v, rfl⟩ := hw (i, fun c => ∃ t v, c = #[.iface t v]) (by rcases hi with rfl | rfl <;> simp [globs])
  exact ⟨t, v, by simp only [World.cell?]; rw [h]; rfl⟩
theorem glw_tab {w : World} (hw : GlW w) {name : String} (hn : Tryz.prog.globalNamed name = some 0) : Lib.TabIs Tryz.prog w name .u64 Lib.pow10Tab := by
  obtain ⟨c, e, f, h, rfl⟩ := hw (0, fun c => c = (Lib.pow10Tab.map fun z => Value.int .u64 z).toArray) (by simp [globs])
  unfold Lib.TabIs World.var?
  rw [hn]
  simp only [Option.bind_some]
  dsimp only at h
  rw [h]
theorem below_grow' (w : World) (k : Nat) (os : Array Obj) : Below w.heap.size w (Sort.grow (w.drewN k) os) :=
  ⟨rfl, rfl, rfl, by simp [Sort.grow], fun i hi => by
    show ((w.drewN k).heap ++ os)[i]? = _
    rw [Array.getElem?_append_left (by simpa using hi)]; rfl⟩
abbrev itoaB (n : Int) : ByteArray := ⟨(Lib.itoa n).toArray⟩
abbrev strV (s : ByteArray) : AV := .lit (.string s)
abbrev texts (nil : Bool) (xs : List ByteArray) : AV := .sl nil 1 (xs.map fun x => [strV x])
theorem k39 (n : Int) (h0 : -9223372036854775808 ≤ n) (h1 : n ≤ 9223372036854775807) : Fn Tryz.prog 39 [i64 n] (strV (itoaB n)) [] :=
  fn_lit (vals := [.int .i64 n]) Tryz.func39 (by kernel_rfl) (by kernel_rfl) fun w hw =>
    (Any.strconv_Itoa Tryz.laysM171 n h0 h1 w (glw_tab hw (by kernel_rfl))).mono fun e w' ⟨he, k, os, hw'⟩ => ⟨he, by rw [hw']; exact below_grow' w k os⟩
theorem k77 (s p : ByteArray) : Fn Tryz.prog 77 [strV s, strV p] (strV ⟨(Lib.trimPrefix s.data.toList p.data.toList).toArray⟩) [] :=
  fn_lit (vals := [.string s, .string p]) Tryz.func77 (by kernel_rfl) (by kernel_rfl) fun w _ =>
    (Any.strings_TrimPrefix Tryz.lays101 s p w).mono fun e w' ⟨he, hw'⟩ => ⟨he, by rw [hw']; exact Below.refl _ _⟩
abbrev pieces (s sep : ByteArray) : List ByteArray := Lib.splitB sep 0 (Lib.countB s sep) s
theorem k52 (s sep : ByteArray) (hs : s.size < 4294967281) (h1 : 1 ≤ sep.size) : Fn Tryz.prog 52 [strV s, strV sep] (texts false (pieces s sep)) [] := by
  refine fn_out Tryz.func52 (by kernel_rfl) (by kernel_rfl) fun C cargs hH hR hl => ?_
  obtain rfl := concL_lits (vals := [.string s, .string sep]) hl
  obtain ⟨m, hm⟩ := glw_max hR.glw
  refine (Any.strings_Split Tryz.lays146 (by kernel_rfl) s sep m C.w hs hm h1).mono fun e w' ⟨he, hw'⟩ => ⟨_, he, ?_, ?_⟩
  · rw [hw']; exact (Below.refl _ _).alloc (Nat.le_refl _) _
  · subst hw'
    rw [texts, show (pieces s sep).map (fun x => [strV x]) = ((pieces s sep).map Value.string).map (fun v => [AV.lit v]) by rw [List.map_map]; rfl]
    refine conc_new (c := ((pieces s sep).map Value.string).toArray) (e := 9) (f := (0, 0)) (W := C.w) ?_ (fun hp => absurd (hR.prot _ hp) (by omega)) rfl (fun v hv => ?_) ?_ (Nat.le_refl _)
    · show (C.w.heap.push _)[C.w.heap.size]? = _; simp; rfl
    · obtain ⟨x, -, rfl⟩ := List.mem_map.1 hv
      exact ⟨rfl, rfl⟩
    · rw [List.length_map, Lib.splitB_all sep h1 0 _ s rfl]
theorem k55 (xs : List ByteArray) (sep : ByteArray) (hne : xs ≠ []) (hN : xs.length ≤ 140737488355328) (hlen : (Lib.join (xs.map (·.data.toList)) sep.data.toList).length ≤ 140737488355328) :
    Fn Tryz.prog 55 [texts false xs, strV sep] (strV ⟨(Lib.join (xs.map (·.data.toList)) sep.data.toList).toArray⟩) [] := by
  refine fn_out Tryz.func55 (by kernel_rfl) (by kernel_rfl) fun C cargs hH hR hl => ?_
  simp only [ConcL, Conc, List.length_map] at hl
  obtain ⟨u, us, rfl, hu, v, vs, rfl, rfl, rfl⟩ := hl
  rcases hu with ⟨h, _⟩ | ⟨_, b, base, cap, rfl, hcap, hbad, hrows⟩ | ⟨_, h, _⟩
  · simp at h
  · have hl : xs.length ≠ 0 := fun h => hne (List.eq_nil_of_length_eq_zero h)
    obtain ⟨_, c, e, f, hb⟩ := hbad hl
    refine (Any.strings_Join Tryz.lays156 Tryz.Builder_Extra_156 b base cap xs sep C.w (fun j x hx => ?_) (Array.getElem?_eq_some_iff.1 hb).1 hN hcap hlen).mono fun e w' ⟨he, hb'⟩ => ⟨_, he, hb', by simp [Conc]⟩
    have := hrows.get (i := j) (r := [strV x]) (by rw [List.getElem?_map, hx]; rfl)
    obtain ⟨_, hc⟩ := this
    simp only [CellsAt, Conc] at hc
    obtain ⟨⟨u, h1, _, _, rfl⟩, _⟩ := hc
    simpa using h1
  · exact absurd (List.eq_nil_of_length_eq_zero h) hne
theorem below_world {w w' : World} (h : w' = w ∨ ∃ t, w' = Lib.bytesWorld w 5 t) : Below w.heap.size w w' := by
  rcases h with rfl | ⟨t, rfl⟩
  · exact Below.refl _ _
  · exact Lib.bytesWorld_below _ _ _
theorem k76o {s : ByteArray} {v : Int} (hs : s.size ≤ 281474976710656) (h : Lib.atoiAll s.data.toList = .ok v) : Fn Tryz.prog 76 [strV s] (.tup [i64 v, .lit .nilIface]) [] := by
  refine fn_out Tryz.func76 (by kernel_rfl) (by kernel_rfl) fun C cargs hH hR hl => ?_
  obtain rfl := concL_lits (vals := [.string s]) hl
  refine (Any.strconv_Atoi_ok Tryz.laysC172 s (by omega) v h C.w).mono fun e w' ⟨he, hw'⟩ => ⟨_, he, below_world hw', by simp [Conc, ConcL]⟩
theorem k76e {s : ByteArray} (hs : s.size ≤ 281474976710656) (h : ∀ v, Lib.atoiAll s.data.toList ≠ .ok v) : ∃ v, Fn Tryz.prog 76 [strV s] (.tup [i64 v, .err]) [] := by
  cases h1 : Lib.atoiAll s.data.toList with
  | ok v => exact absurd h1 (h v)
  | «syntax» =>
    refine ⟨0, fn_out Tryz.func76 (by kernel_rfl) (by kernel_rfl) fun C cargs hH hR hl => ?_⟩
    obtain rfl := concL_lits (vals := [.string s]) hl
    obtain ⟨t, v, hv⟩ := glw_err hR.glw (.inl rfl)
    exact (Any.strconv_Atoi_syntax Tryz.laysC172 s hs h1 _ C.w hv (.inr ⟨_, _, rfl⟩)).mono fun e w' ⟨N, he, _, _, hb⟩ => ⟨_, he, hb, ⟨_, rfl, ⟨_, _, rfl, rfl, _, _, rfl, ⟨_, _, rfl⟩, rfl⟩⟩⟩
  | range =>
    refine ⟨Lib.atoiSat s.data.toList, fn_out Tryz.func76 (by kernel_rfl) (by kernel_rfl) fun C cargs hH hR hl => ?_⟩
    obtain rfl := concL_lits (vals := [.string s]) hl
    obtain ⟨t, v, hv⟩ := glw_err hR.glw (.inr rfl)
    exact (Any.strconv_Atoi_range Tryz.laysC172 s hs h1 _ C.w hv (.inr ⟨_, _, rfl⟩)).mono fun e w' ⟨N, he, _, _, hb⟩ => ⟨_, he, hb, ⟨_, rfl, ⟨_, _, rfl, rfl, _, _, rfl, ⟨_, _, rfl⟩, rfl⟩⟩⟩
theorem k72 (s : ByteArray) : Fn Tryz.prog 72 [strV s, .lit (.int .u8 10)] (i64 (Lib.indexByte s.data.toList 10)) [] :=
  fn_lit (vals := [.string s, .int .u8 10]) Tryz.func72 (by kernel_rfl) (by kernel_rfl) fun w _ =>
    (Any.strings_IndexByte Tryz.lays137 s 10 w).mono fun e w' ⟨he, hw'⟩ => ⟨he, by rw [hw']; exact Below.refl _ _⟩
theorem k47 (s p : ByteArray) (hs : s.size ≤ 9223372036854775807) : Fn Tryz.prog 47 [strV s, strV p] (.tup [strV ⟨(Lib.trimSuffix s.data.toList p.data.toList).toArray⟩, bl (Lib.hasSuffix s.data.toList p.data.toList)]) [] := by
  refine fn_out Tryz.func47 (by kernel_rfl) (by kernel_rfl) fun C cargs hH hR hl => ?_
  obtain rfl := concL_lits (vals := [.string s, .string p]) hl
  exact (Any.strings_CutSuffix Tryz.lays104 s p C.w hs).mono fun e w' ⟨he, hw'⟩ => ⟨_, he, by rw [hw']; exact Below.refl _ _, by simp [Conc, ConcL]⟩
end Go.Abs
