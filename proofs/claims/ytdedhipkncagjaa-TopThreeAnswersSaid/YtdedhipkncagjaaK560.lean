import Derived.Test.YtdedhipkncagjaaK504x
import Derived.Test.YtdedhipkncagjaaKO1
import Derived.Test.YtdedhipkncagjaaK555x
import Derived.WalkKit
import Derived.ProofKit
import Derived.OpenShut
import Derived.Test.YtdedhipkncagjaaRows
set_option linter.all false
set_option linter.unusedVariables false
set_option linter.unusedSimpArgs false
set_option linter.unusedSectionVars false
namespace Go.Abs
open Go.ChangeShapes Go.WideShapes Go.RowKit Go.Proofs
/-! a measured mirror and a tolerance opened -/
section
variable {H : Type} {enc : TypeId × Value → H} {w : World} {base : Nat}
theorem cells39' : Try.prog.cellsOf 39 = 2 := by kernel_rfl
theorem cells23' : Try.prog.cellsOf 23 = 1 := by kernel_rfl
theorem cells25' : Try.prog.cellsOf 25 = 3 := by kernel_rfl
theorem cells27' : Try.prog.cellsOf 27 = 2 := by kernel_rfl
set_option maxRecDepth 100000 in
theorem pr_cells {b : Nat} {spare : Nat → Bool} {held : Bool} {fuel : Nat} {cs : List Value} {y : DataW H × List MemPlace} (h : DataW.trod enc Try.prog w b spare held fuel 39 cs = some y) : ∃ r : Int × Int, cs = [.int .i64 r.1, .int .i64 r.2] := by
  obtain ⟨xs, n, _, _, hl, hlen, hx⟩ := DataW.trod_array Try.underlying39 h
  rw [cells39'] at hl
  match cs, hl with
  | [c0, c1], _ =>
  have h0 := hx 0 (by omega)
  have h1 := hx 1 (by omega)
  rw [cells3'] at h0 h1
  simp at h0 h1
  rw [List.getElem?_eq_getElem (by omega)] at h0 h1
  obtain ⟨i0, e0, _, _⟩ := DataW.trod_int Try.underlying3 h0
  obtain ⟨i1, e1, _, _⟩ := DataW.trod_int Try.underlying3 h1
  simp at e0 e1
  subst e0 e1
  exact ⟨(i0, i1), rfl⟩
theorem rowsAt_rg {C : Ctx} {b : Nat} : ∀ (l : List (Int × Int)) (off : Nat), (∀ i, i < l.length → C.w.cell? ⟨b, off + 2 * i, none⟩ = some (.int .i64 (l.getD i (0, 0)).1) ∧ C.w.cell? ⟨b, off + 2 * i + 1, none⟩ = some (.int .i64 (l.getD i (0, 0)).2)) → RowsAt C b off 2 (rgR l)
  | [], _, _ => trivial
  | x :: r, off, h => by
    obtain ⟨h0, h1⟩ := h 0 (by simp)
    refine ⟨rfl, ⟨⟨_, h0, rfl, rfl, rfl⟩, ⟨_, h1, rfl, rfl, rfl⟩, trivial⟩, rowsAt_rg r (off + 2) fun i hi => ?_⟩
    have := h (i + 1) (by simpa using hi)
    rw [show off + 2 + 2 * i = off + 2 * (i + 1) by omega]
    simpa using this
set_option maxRecDepth 100000 in
theorem prs_of_trod {c : Value} {fuel : Nat} {y : DataW H × List MemPlace} (h : DataW.trod enc Try.prog w 0 (fun _ => true) true fuel 23 [c] = some y) : ∃ (nil : Bool) (l : List (Int × Int)), Conc (lone w) (.sl nil 2 (rgR l)) c ∧ l.length ≤ 9223372036854775807 := by
  rcases DataW.trod_slice Try.underlying23 h with ⟨h1, _⟩ | ⟨a', len, cap, elems, rest, n, _, h1, _, _, hlc, hcm, hlen, hel, hsp, _⟩
  · obtain rfl := List.head_eq_of_cons_eq h1
    exact ⟨true, [], by simp [Conc, rgR], by simp⟩
  · obtain rfl := List.head_eq_of_cons_eq h1
    obtain ⟨hr1, hr2⟩ := hsp rfl
    have each : ∀ i, i < cap → ∃ r : Int × Int, ∀ j, j < 2 → w.cell? ((a'.add (i * 2)).add j) = [Value.int .i64 r.1, .int .i64 r.2][j]? := by
      intro i hi
      have h2 : ∃ e : DataW H × List MemPlace, (w.cells? 0 (a'.add (i * 2)) 2).bind (DataW.trod enc Try.prog w 0 (fun _ => true) true n 39) = some e := by
        by_cases hil : i < len
        · have h2 := hel i hil
          rw [cells39', List.getElem?_eq_getElem (by omega)] at h2
          exact ⟨_, h2⟩
        · have h2 := hr2 (i - len) (by omega)
          rw [cells39', List.getElem?_eq_getElem (by omega), show len + (i - len) = i by omega] at h2
          exact ⟨_, h2⟩
      obtain ⟨e, h2⟩ := h2
      cases hc : w.cells? 0 (a'.add (i * 2)) 2 with
      | none => rw [hc] at h2; simp at h2
      | some cs =>
        rw [hc] at h2
        obtain ⟨r, rfl⟩ := pr_cells (y := e) h2
        refine ⟨r, fun j hj => ?_⟩
        exact (World.cells?_some hc).2.2 j hj
    by_cases hc : cap = 0
    · subst hc
      obtain rfl : len = 0 := by omega
      exact ⟨false, [], by simp only [Conc]; exact .inr (.inr ⟨trivial, rfl, a', rfl⟩), by simp⟩
    · obtain ⟨r0, h5⟩ := each 0 (by omega)
      have h6 := h5 0 (by omega)
      rw [Nat.zero_mul, add_zero, add_zero] at h6
      obtain ⟨hs1, hcells⟩ := cell_some h6
      obtain ⟨b, off, sp⟩ := a'
      dsimp only at hs1 hcells
      subst hs1
      have hlist : ∀ n, n ≤ len → ∃ l : List (Int × Int), l.length = n ∧ ∀ i, i < n → ∀ j, j < 2 → w.cell? ⟨b, off + 2 * i + j, none⟩ = [Value.int .i64 (l.getD i (0, 0)).1, .int .i64 (l.getD i (0, 0)).2][j]? := by
        intro n
        induction n with
        | zero => intro _; exact ⟨[], rfl, fun i hi => by omega⟩
        | succ n ih =>
          intro hn
          obtain ⟨l, h4, h5⟩ := ih (by omega)
          obtain ⟨r, h6⟩ := each n (by omega)
          refine ⟨l ++ [r], by simp [h4], fun i hi j hj => ?_⟩
          by_cases hin : i < n
          · have e : (l ++ [r]).getD i (0, 0) = l.getD i (0, 0) := by
              rw [List.getD_eq_getElem?_getD, List.getElem?_append_left (by omega), ← List.getD_eq_getElem?_getD]
            rw [e]; exact h5 i hin j hj
          · have : i = n := by omega
            subst this
            have e : (l ++ [r]).getD i (0, 0) = r := by
              rw [List.getD_eq_getElem?_getD, List.getElem?_append_right (by omega), h4]; simp
            rw [e]
            have := h6 j hj
            have e2 : (Addr.add ⟨b, off, none⟩ (i * 2)).add j = ⟨b, off + 2 * i + j, none⟩ := by
              have e3 : ∀ o n : Nat, Addr.add ⟨b, o, none⟩ n = ⟨b, o + n, none⟩ := fun o n => by unfold Addr.add; split <;> simp_all
              rw [e3, e3, Nat.mul_comm]
            rwa [e2] at this
      obtain ⟨l, hl, hl2⟩ := hlist len (Nat.le_refl _)
      refine ⟨false, l, ?_, by
        have : cap ≤ 9223372036854775807 := hcm
        omega⟩
      simp only [Conc]
      right; left
      refine ⟨trivial, b, off, cap, ?_, ?_, fun _ => ⟨lone_bad, hcells⟩, rowsAt_rg _ _ fun i hi => ?_⟩
      · simp [rgR_len, hl]
      · simp [rgR_len, hl, hlc]
      · have := hl2 i (by omega)
        exact ⟨this 0 (by omega), this 1 (by omega)⟩
set_option maxRecDepth 100000 in
theorem ms_cells {fuel : Nat} {cs : List Value} {y : DataW H × List MemPlace} (h : DataW.trod enc Try.prog w 0 (fun _ => true) true fuel 25 cs = some y) : ∃ u0 u1 u2, cs = [u0, u1, u2] ∧ (∃ (nil : Bool) (xs : List Int), Conc (lone w) (ints nil xs) u0) ∧ (∃ (nil : Bool) (l : List (Int × Int)), Conc (lone w) (.sl nil 2 (rgR l)) u1 ∧ l.length ≤ 9223372036854775807) ∧ (∃ (nil : Bool) (l : List (Int × Int)), Conc (lone w) (.sl nil 2 (rgR l)) u2 ∧ l.length ≤ 9223372036854775807) := by
  obtain ⟨y0, y1, y2, n, hl, h0, h1, h2⟩ := trod_struct3 Try.underlying25 h
  rw [cells25'] at hl
  match cs, hl with
  | [c0, c1, c2], _ =>
  rw [cells22'] at h0
  rw [cells23'] at h1
  rw [cells23'] at h2
  have a0 := ints_of_trod Try.underlying22 Try.underlying3 cells3' (c := c0) (by simpa using h0)
  have a1 := prs_of_trod (c := c1) (by simpa using h1)
  have a2 := prs_of_trod (c := c2) (by simpa using h2)
  exact ⟨_, _, _, rfl, a0, a1, a2⟩
set_option maxRecDepth 100000 in
theorem open_ms {v : Value} {d : DataW H} {ps : List MemPlace} (hval : Value.okWide Try.prog w .any base 25 v) (h : DataW.Trod enc Try.prog w 0 (fun _ => true) true 25 v d ps) : ∃ (hn pn en : Bool) (xs : List Int) (qs es : List (Int × Int)), Conc (lone w) (.agg [ints hn xs, .sl pn 2 (rgR qs), .sl en 2 (rgR es)]) v := by
  obtain ⟨cs, rfl⟩ := agg_of Try.underlying25 hval
  obtain ⟨fuel, hf⟩ := h
  obtain ⟨u0, u1, u2, e, ⟨n1, xs, h0⟩, ⟨n2, qs, h1, _⟩, n3, es, h2, _⟩ := ms_cells (cs := cs.toList) hf
  refine ⟨n1, n2, n3, xs, qs, es, ?_⟩
  simp only [Conc]
  refine ⟨cs, rfl, ?_⟩
  rw [e]
  exact ⟨_, _, rfl, h0, _, _, rfl, h1, _, _, rfl, h2, rfl⟩
set_option maxRecDepth 100000 in
theorem open_tl {v : Value} {d : DataW H} {ps : List MemPlace} (hval : Value.okWide Try.prog w .any base 27 v) (h : DataW.Trod enc Try.prog w 0 (fun _ => true) true 27 v d ps) : ∃ a b : Int, v = .agg #[.int .i64 a, .int .i64 b] := by
  obtain ⟨cs, rfl⟩ := agg_of Try.underlying27 hval
  obtain ⟨fuel, hf⟩ := h
  obtain ⟨y0, y1, n, _, hl, h0, h1⟩ := trod_struct2 (cs := cs.toList) Try.underlying27 hf
  rw [cells27'] at hl
  obtain ⟨l⟩ := cs
  match l, hl with
  | [c0, c1], _ =>
  rw [cells3'] at h0 h1
  obtain ⟨i0, e0, _, _⟩ := DataW.trod_int Try.underlying3 h0
  obtain ⟨i1, e1, _, _⟩ := DataW.trod_int Try.underlying3 h1
  simp at e0 e1
  subst e0 e1
  exact ⟨i0, i1, rfl⟩
end
end Go.Abs
namespace Go.Abs
open Go.Proofs
/-! TopThreeAnswers, whole -/
theorem hK_get (xs : List Int) : ∀ n k, k < n → (hK xs n).getD k 0 = xs.getD k 0 - xs.getD 0 0
  | 0, k, hk => by omega
  | n + 1, k, hk => by
    have hl := hK_len xs n
    unfold hK
    rw [List.getD_eq_getElem?_getD]
    by_cases h : k < n
    · rw [List.getElem?_append_left (by omega), ← List.getD_eq_getElem?_getD]; exact hK_get xs n k h
    · have : k = n := by omega
      subst this
      rw [List.getElem?_append_right (by omega), hl]; simp
theorem k3 {hn pn en : Bool} {xs : List Int} {ps es : List (Int × Int)} {pk sl : Int} : Fn Try.prog 3 [mV hn pn en xs ps es, tlV pk sl] (bl true) [] := by
  refine fn_of e3 ?_
  have hRet : ∀ τ : St, τ.get 4 = bl true → leave 0 [ARes.tmp 4] (fun r' H' => r' = bl true ∧ H' = []) Exit.ret τ := fun τ h => leave_of (.inr rfl) [bl true] (by simp [resL, resAV, h]) ⟨rfl, rfl⟩
  rw [c3_cut]
  show T none Try.prog muts 175 0 _ (S3 hn pn en xs ps es pk sl) _
  refine (Classical.em (MOk xs ps es)).elim ?_ fun hM => k3A1 hM _ hRet
  intro hM
  refine (Classical.em (tolE pk sl = 0)).elim ?_ fun hT => k3A2 hM hT _ hRet
  intro hT
  cases hF : farM xs ps es with
  | true => exact k3A3 hM hT hF _ hRet
  | false =>
  refine (Classical.em (encE (bM xs ps es) = 0)).elim ?_ fun hE => k3A4 hM hT hF hE _ hRet
  intro hE
  refine k3A5 hM hT hF hE _ ?_
  have hR := encE_ok hE
  obtain ⟨hp, hs0⟩ := tolE_ok hT
  have hxl := hM.n
  have hg := gH_all hM.h
  by_cases hok : ∃ k, k < xs.length ∧ ¬gH (xs.getD k 0 - xs.getD 0 0)
  · obtain ⟨k, hk, hb⟩ := hok
    obtain ⟨m, ⟨h3, h4⟩, _, h6⟩ := leastN (P := fun k => k < xs.length ∧ ¬gH (xs.getD k 0 - xs.getD 0 0)) k ⟨hk, hb⟩
    exact k3Bx hxl hg h3 h4 (fun j hj => Classical.byContradiction fun hh => h6 j hj ⟨by omega, hh⟩) _ hRet
  replace hok : ∀ k, k < xs.length → gH (xs.getD k 0 - xs.getD 0 0) := fun k hk => Classical.byContradiction fun hh => hok ⟨k, hk, hh⟩
  refine k3Bn hxl hg hok _ ?_
  have hll := hK_len xs xs.length
  have hget := hK_get xs xs.length
  have eS : S3C hn pn en xs ps es pk sl (bM xs ps es) = S3Cl hn pn en xs ps es pk sl (bM xs ps es) (hK xs xs.length) := by
    simp only [S3C, S3Cl, hK_len]
  rw [eS]
  clear eS
  have hBl := bM_len xs ps es
  have hH : Has (bM xs ps es) (hK xs xs.length) := fun k hk => by
    have h1 := bM_has hM k hk
    rw [hBl] at hk
    rw [dH_get hk] at h1
    rw [hget k hk]
    exact h1
  have hFk : FOk (hK xs xs.length) := ⟨by omega, fun k hk => by
    rw [hll] at hk
    rw [hget k hk]
    exact hok k hk⟩
  generalize bM xs ps es = B at *
  generalize hK xs xs.length = l at *
  obtain ⟨A, I, J, hj⟩ : ∃ A I J, jdg B pk sl (prs B.length) 1 = (A, I, J) := ⟨_, _, _, rfl⟩
  obtain ⟨E, I', J', hm⟩ : ∃ E I' J', mts l pk sl (prs l.length) = (E, I', J') := ⟨_, _, _, rfl⟩
  have hBll : B.length = l.length := by omega
  have h3 := three (E := E) (I' := I') (J' := J') hH hj (by rw [hBll]; exact hm)
  obtain ⟨e1, e2, e3, e4⟩ := h3
  have hcs : (A = 1 ∧ E = 0) ∨ (A = -1 ∧ E = 26) ∨ (A = 0 ∧ E = 0) ∨ (A = 0 ∧ E = 26) := by
    rcases e2 with h | h | h
    · exact .inl ⟨h, e3 h⟩
    · rcases e1 with g | g
      · exact .inr (.inr (.inl ⟨h, g⟩))
      · exact .inr (.inr (.inr ⟨h, g⟩))
    · exact .inr (.inl ⟨h, e4 h⟩)
  refine k3C hR hp hs0 hFk hj hm hcs _ ?_
  refine (Classical.em (A = 0)).elim ?_ fun hA => k3Dx (D := 24) (k14e hR hp hs0 hj hA) (.inl ⟨rfl, hA⟩) _ hRet
  intro hA
  subst hA
  cases hw : anyW B with
  | true => exact k3Dx (D := 8) (k14w hR hp hs0 hj hw) (.inr (.inl rfl)) _ hRet
  | false =>
  refine (Classical.em (∃ z, z < B.length ∧ Dz B pk sl z)).elim ?_ fun hD => k3Dx (D := 12) (k14n hR hp hs0 hj hw fun z hz hd => hD ⟨z, hz, hd⟩) (.inr (.inr rfl)) _ hRet
  intro hD
  obtain ⟨z, hz, hd⟩ := hD
  obtain ⟨z0, ⟨hz0, hd0⟩, _, hf⟩ := leastN (P := fun z => z < B.length ∧ Dz B pk sl z) z ⟨hz, hd⟩
  refine k3Dz (k14z hR hp hs0 hj hw hz0 hd0 fun y hy hyd => hf y hy ⟨by omega, hyd⟩) _ ?_
  have hzh := hH z0 hz0
  have hv := hFk.r z0 (by omega)
  have hans := hd0 (l.getD z0 0) hzh.1 hzh.2
  unfold ansA at hans
  obtain ⟨A2, I2, J2, hj2⟩ : ∃ A I J, jdg (B.set z0 (l.getD z0 0, l.getD z0 0)) pk sl (prs (B.set z0 (l.getD z0 0, l.getD z0 0)).length) 1 = (A, I, J) := ⟨_, _, _, rfl⟩
  rw [hj2] at hans
  dsimp only at hans
  have h4 := three (E := E) (I' := I') (J' := J') (hH.set z0) hj2 (by rw [List.length_set, hBll]; exact hm)
  obtain ⟨_, f2, f3, f4⟩ := h4
  have hcs2 : (A2 = 1 ∧ E = 0) ∨ (A2 = -1 ∧ E = 26) := by
    rcases f2 with h | h | h
    · exact .inl ⟨h, f3 h⟩
    · exact (hans h).elim
    · exact .inr ⟨h, f4 h⟩
  exact k3E hxl (by omega) hBl (by omega) (hR.set z0 hv) hp hs0 hj2 hcs2 _ hRet
end Go.Abs
namespace Go.Proofs.Ytdedhipkncagjaa.topThreeAnswers
open Go.ChangeShapes Go.WideShapes Go.ChangeAt Go.RowKit Go.Abs
set_option linter.unusedVariables false
theorem own : ownKnob Try.prog.godebug = none := by kernel_rfl
set_option maxRecDepth 100000 in
set_option maxHeartbeats 4000000 in
theorem contract (H : Type) (enc : TypeId × Value → H) (W : World) (base : Nat) (args : Array Value) (ds gs : List (DataW H)) (before : List MemPlace)
    (hval : ∀ (j : Nat) t v, Try.f3.params[j]? = some t → args[j]? = some v → Value.okWide Try.prog W .any base t v)
    (hW : DataW.Whole enc Try.prog Try.f3.params.toList Rows.topThreeAnswersSpec.vars false W args.toList ds gs before) :
    Calls Try.prog 3 args W fun e W' => ∃ v, e = .returned v ∧ Rows.topThreeAnswersSpec.post enc Try.prog Try.f3 false true false false W args v W' := by
  have hW' := hW
  obtain ⟨p, q, hA0, hV, hbe, hfz, hnd⟩ := hW
  have hA : DataW.TrodAll enc Try.prog W 0 (fun _ => true) true Try.f3.params.toList args.toList ds p := hA0
  rw [Try.params3] at hA hval
  obtain ⟨v0, v1, d0, d1, p0, p1, rfl, rfl, rfl, h0, h1⟩ := trodAll_two hA
  obtain ⟨rfl, rfl⟩ := trodVars_none hV
  obtain ⟨hn0, pn0, en0, xs0, qs0, es0, hc0⟩ := open_ms (hval 0 25 v0 rfl rfl) h0
  obtain ⟨a1, b1, rfl⟩ := open_tl (hval 1 27 v1 rfl rfl) h1
  refine (law_calls (k3   ) (cargs := [_, _]) ⟨_, _, rfl, hc0, ⟨_, _, rfl, rfl, rfl⟩⟩).mono fun e W' ⟨he, hb⟩ => ?_
  subst he
  exact ⟨_, rfl, post_law (t := 4) hW' rfl rfl (by kernel_rfl) Try.underlying4 (by kernel_rfl) (by rw [Try.params3]; intro t ht; simp only [List.mem_cons, List.not_mem_nil, or_false] at ht; rcases ht with rfl | rfl <;> exact ⟨by kernel_rfl, of_decide_eq_true (by kernel_rfl)⟩) hb⟩
set_option maxRecDepth 100000 in
theorem lifted (os : Os) (started : os.Started) (H : Type) (enc : TypeId × Value → H) :
    ReturnsInHanded {} Try.checked os 3 .any (Rows.topThreeAnswersSpec.pre6 enc Try.prog Try.f3 Rows.topThreeAnswersRow.domain false) (Rows.topThreeAnswersSpec.post enc Try.prog Try.f3 false true false false) := by
  refine returnsInHanded_of_change (C := Try.checked) own started (by kernel_rfl) Try.func3
    (ChangeSpec.witness6 (enc := enc) (C := Try.checked) false ⟨#[], #[.agg #[.slice none 0 0, .slice none 0 0, .slice none 0 0], .agg #[.int .i64 0, .int .i64 0]], []⟩ 8 (by kernel_rfl) (by kernel_rfl) (by kernel_rfl) (by kernel_rfl)) ?_
  intro W base args ds gs before hval hW hcnd _
  exact contract H enc W base args ds gs before hval hW
end Go.Proofs.Ytdedhipkncagjaa.topThreeAnswers
