import Derived.Test.YtookdheldelepaaGreatDoorPCmin
import Derived.Test.YtookdheldelepaaGreatDoorKP4x
import Derived.Test.YtookdheldelepaaGreatDoorK64
import Derived.Test.YtookdheldelepaaGreatDoorK304x
import Derived.Test.YtookdheldelepaaGreatDoorK305x
set_option linter.all false
set_option linter.unusedVariables false
set_option linter.unusedSimpArgs false
set_option linter.unusedSectionVars false
namespace Go.Abs
open Go.Proofs
/-! first: checks one after the other -/
def ClA (g : FuncId) (cap : List AV) (H : List Blk) (e : Int) : Prop := ∀ H', Ext H H' → ACall Tryz.prog g cap H' fun r H'' => r = i64 e ∧ Ext H' H''
theorem ClA.ext {g : FuncId} {cap : List AV} {H H2 : List Blk} {e : Int} (h : ClA g cap H e) (hx : Ext H H2) : ClA g cap H2 e := fun H' h' => h H' (hx.trans h')
end Go.Abs
namespace Go.Abs
open Go.Proofs
/-! find -/
end Go.Abs
namespace Go.Abs
open Go.Proofs
/-! demands -/
end Go.Abs
namespace Go.Abs
open Go.Proofs
/-! demands: the closure, the copy, CheckDemand of the reference -/
end Go.Abs
namespace Go.Abs
open Go.Proofs
/-! sessions -/
structure Ss where
  mi : ByteArray
  st : ByteArray
  mn : Int
/-! the limits, the copy -/
end Go.Abs
namespace Go.Abs
open Go.Proofs
/-! sessions: the closures, CheckSessions of the reference -/
end Go.Abs
namespace Go.Abs
open Go.Proofs
/-! first, of so many checks; CheckSessions -/
/-- strokes as they come -/
structure StV (l : List Sk) (b : Bool) (m : Nat) (E : List (List AV)) : Prop where
  p : plainR E = true
  f : Fn Tryz.prog 8 [.sl b m E] (.tup [i64 (sN l), i64 (sE l)]) []
  g : sE l = 0 → m = 2 ∧ E = skR l
set_option maxHeartbeats 8000000 in
theorem k8z : Fn Tryz.prog 8 [.sl true 0 []] (.tup [i64 0, i64 10]) [] := by
  refine fn_of e8 ?_
  unfold c8
  repeat' (first | (with_reducible first | refine T_seq ?_ | refine T_reg ?_ | refine T_skip ?_ | refine T_exit ?_ | refine T_block ?_ | refine T_cond_t rfl ?_ | refine T_cond_f rfl ?_ | refine T_ret ?_ | refine leave_of (.inr rfl) _ rfl ?_ | refine leave_of (.inl rfl) _ rfl ?_ | refine leaveA_of (.inr rfl) _ rfl ?_ | refine leaveA_of (.inl rfl) _ rfl ?_ | refine wif_intro ?_ (fun hc => ?_) | refine And.intro ?_ ?_ | intro hc) | simp (maxSteps := 4000000) only [wops_nil, wops_cons, wstep_none, wrun_mv, wrun_bin, wrun_len, get_mk, wop, aop, ev, look, put_some, writes, ores_some, ores_map, ores_bind, binV, thenK, blockK, intV, lenOf, hget, tupOf, List.map_cons, List.map_nil, List.length_nil, List.append_nil, List.replicate_zero, List.zipIdx_cons, List.zipIdx_nil, Option.pure_def, Option.bind_eq_bind, Option.map_some, if_true, if_false, Nat.reduceEqDiff, Nat.zero_add, reduceCtorEq, eq_self, ren, renL, *] | simp (disch := omega) only [getD_ints, wrapI] | omega)
  all_goals first | rfl
end Go.Abs
namespace Go.Abs
open Go.Proofs
/-! strokes that were read, in memory -/
abbrev Ln := ByteArray × List Int
def wz (l : List Int) : AV := if l = [] then .sl true 0 [] else ints false l
def rz (x : Ln) : List AV := [strV x.1, wz x.2]
abbrev stz (L : List Ln) : AV := .sl false 2 (L.map rz)
def skz (x : Ln) : Sk := ⟨x.1, x.2.isEmpty, x.2⟩
theorem conc_wz {C : Ctx} {l : List Int} {u : Value} : Conc C (wz l) u ↔ Conc C (ints l.isEmpty l) u := by
  unfold wz
  cases l with
  | nil => simp [Conc]
  | cons a r => rfl
theorem isOne_wz (l : List Int) : isOne (wz l) = isOne (ints l.isEmpty l) := by
  unfold wz
  cases l <;> rfl
theorem cellsAt_rz {C : Ctx} {b off : Nat} {x : Ln} (h : CellsAt C b off (rz x)) : CellsAt C b off [tx (skz x).nm, ints (skz x).nil (skz x).wr] := by
  obtain ⟨h1, ⟨u, h2, h3, h4, h5⟩, _⟩ := h
  exact ⟨h1, ⟨u, h2, h3, (isOne_wz x.2) ▸ h4, conc_wz.1 h5⟩, trivial⟩
theorem rowsAt_rz {C : Ctx} {b : Nat} : ∀ {L : List Ln} {off : Nat}, RowsAt C b off 2 (L.map rz) → RowsAt C b off 2 (skR (L.map skz))
  | [], _, _ => trivial
  | x :: L, off, h => by
    obtain ⟨_, h2, h3⟩ := h
    exact ⟨rfl, cellsAt_rz h2, rowsAt_rz h3⟩
theorem conc_stz {C : Ctx} {L : List Ln} {u : Value} (h : Conc C (stz L) u) : Conc C (sts false (L.map skz)) u := by
  simp only [Conc] at h ⊢
  rw [show (L.map rz).length = (skR (L.map skz)).length by simp [skR]] at h
  rcases h with h | ⟨h1, b, base, cap, h2, h3, h4, h5⟩ | h
  · exact .inl h
  · exact .inr (.inl ⟨h1, b, base, cap, h2, h3, h4, rowsAt_rz h5⟩)
  · exact .inr (.inr h)
theorem Fn.stz1 {g : FuncId} {L : List Ln} {r : AV} {new : List Blk} (h : Fn Tryz.prog g [sts false (L.map skz)] r new) : Fn Tryz.prog g [stz L] r new := by
  refine ⟨h.1, fun C cargs hH hR hl => h.2 C cargs hH hR ?_⟩
  obtain ⟨u, us, rfl, h1, h2⟩ := hl
  exact ⟨u, us, rfl, conc_stz h1, h2⟩
theorem Fn.stz2 {g : FuncId} {L M : List Ln} {r : AV} {new : List Blk} (h : Fn Tryz.prog g [sts false (L.map skz), sts false (M.map skz)] r new) : Fn Tryz.prog g [stz L, stz M] r new := by
  refine ⟨h.1, fun C cargs hH hR hl => h.2 C cargs hH hR ?_⟩
  obtain ⟨u, us, rfl, h1, v, vs, rfl, h2, h3⟩ := hl
  exact ⟨u, _, rfl, conc_stz h1, v, vs, rfl, conc_stz h2, h3⟩
theorem plain_wz (l : List Int) : plain (wz l) = true := by
  unfold wz
  split
  · rfl
  · exact plain_ints _ _
theorem plainR_rz (L : List Ln) : plainR (L.map rz) = true := plainR_map _ (fun x => by unfold rz; simp only [plainL, plain_wz, plain, Bool.and_self]) L
/-- rows that read as these strokes -/
def StRows (H : List Blk) (E : List (List AV)) (L : List Ln) : Prop := E.length = L.length ∧ ∀ k, k < L.length → ∃ v, E.getD k [] = [strV (L.getD k (⟨#[]⟩, [])).1, v] ∧ Rds 1 H v (wz (L.getD k (⟨#[]⟩, [])).2)
theorem StRows.nil (H : List Blk) : StRows H [] [] := ⟨rfl, fun k hk => absurd hk (by simp)⟩
theorem StRows.mono {H H' : List Blk} {E : List (List AV)} {L : List Ln} (h : StRows H E L) (hx : ∀ v l, Rds 1 H v (wz l) → Rds 1 H' v (wz l)) : StRows H' E L := ⟨h.1, fun k hk => let ⟨v, a, b⟩ := h.2 k hk; ⟨v, a, hx _ _ b⟩⟩
theorem StRows.snoc {H : List Blk} {E : List (List AV)} {L : List Ln} {v : AV} {x : Ln} (h : StRows H E L) (hv : Rds 1 H v (wz x.2)) : StRows H (E ++ [[strV x.1, v]]) (L ++ [x]) := by
  refine ⟨by simp [h.1], fun k hk => ?_⟩
  by_cases hkl : k < L.length
  · obtain ⟨w, h1, h2⟩ := h.2 k hkl
    refine ⟨w, ?_, ?_⟩
    · rw [List.getD_eq_getElem?_getD, List.getElem?_append_left (by rw [h.1]; exact hkl), List.getD_eq_getElem?_getD, List.getElem?_append_left hkl]
      simpa only [List.getD_eq_getElem?_getD] using h1
    · rw [List.getD_eq_getElem?_getD, List.getElem?_append_left hkl]
      simpa only [List.getD_eq_getElem?_getD] using h2
  · have hke : k = L.length := by simp at hk; omega
    subst hke
    refine ⟨v, ?_, ?_⟩
    · rw [List.getD_eq_getElem?_getD, List.getElem?_append_right (by rw [h.1]; exact Nat.le_refl _), h.1, List.getD_eq_getElem?_getD, List.getElem?_append_right (Nat.le_refl _)]
      simp
    · rw [List.getD_eq_getElem?_getD, List.getElem?_append_right (Nat.le_refl _)]
      simpa using hv
theorem StRows.map {H : List Blk} {d : Nat} (hd : 1 ≤ d) : ∀ {E : List (List AV)} {L : List Ln}, StRows H E L → E.map (fun r => r.map (rfy (hget H) d)) = L.map rz
  | [], [], _ => rfl
  | [], _ :: _, h => absurd h.1 (by simp)
  | _ :: _, [], h => absurd h.1 (by simp)
  | r :: E, x :: L, h => by
    obtain ⟨v, hv, hr⟩ := h.2 0 (by simp)
    have hv' : r = [strV x.1, v] := hv
    subst hv'
    have ih := StRows.map hd (E := E) (L := L) ⟨by have := h.1; simpa using this, fun k hk => by
      obtain ⟨u, h1, h2⟩ := h.2 (k + 1) (by simpa using hk)
      exact ⟨u, h1, h2⟩⟩
    rw [List.map_cons, ih]
    show [rfy (hget H) d (strV x.1), rfy (hget H) d v] :: L.map rz = rz x :: L.map rz
    rw [(hr.to hd).1]
    have : rfy (hget H) d (strV x.1) = strV x.1 := by cases d <;> rfl
    rw [this]; rfl
theorem StRows.rds {H : List Blk} {E : List (List AV)} {L : List Ln} {o : Bool} {io : Nat} (h : StRows H E L) (hw : H[io]? = some (.cells o false 2 E)) : Rds 2 H (.lsl io 0 L.length) (stz L) := by
  refine ⟨?_, by simp only [plain, plainR_rz]⟩
  unfold rfy
  rw [hget_some' hw]
  dsimp only
  rw [if_pos (by have := h.1; omega), List.drop_zero, ← h.1, List.take_length]
  exact congrArg (AV.sl false 2) (StRows.map (by omega) h)
theorem rds_set {H : List Blk} {io : Nat} {o nn : Bool} {E : List (List AV)} {x : Blk} {v : AV} {l : List Int} (hio : H[io]? = some (.cells o nn 2 E)) (h : Rds 1 H v (wz l)) : Rds 1 (H.set io x) v (wz l) := by
  refine ⟨?_, h.2⟩
  have h1 := h.1
  rw [← h1]
  cases v with
  | lsl id i n =>
    by_cases he : id = io
    · subst he
      exfalso
      unfold rfy at h1
      rw [hget_some' hio] at h1
      dsimp only at h1
      split at h1
      · unfold wz at h1
        split at h1 <;> simp at h1
      · unfold wz at h1
        split at h1 <;> simp at h1
    · unfold rfy
      have e : hget (H.set io x) id = hget H id := by unfold hget; rw [List.getElem?_set_ne (Ne.symm he)]
      rw [e]
      cases hget H id <;> rfl
  | _ => first | rfl | (unfold wz at h1; split at h1 <;> simp [rfy] at h1)
end Go.Abs
