import Derived.Test.YtodheeifecoebaaK235
import Derived.Test.YtodheeifecoebaaK224x
set_option linter.all false
set_option linter.unusedVariables false
set_option linter.unusedSimpArgs false
set_option linter.unusedSectionVars false
namespace Go.Abs
open Go.Proofs
/-! law 17: helpers -/
section
variable {P : Program} {s : List (Nat × AV)} {h : List Blk} {K : St → Prop} {g : FuncId} {args args' : List AV} {e : Option Nat} {d : Nat}
theorem fn_int {F : List Blk} {n : Nat} {xs : List Int} : (F ++ [iB xs].map (renB (shiftρ n)))[F.length]? = some (.cells true false 1 (xs.map fun x => [i64 x])) := by
  rw [List.getElem?_append_right (Nat.le_refl _), Nat.sub_self]
  simp [renB, renR_ints]
theorem wcallX_I {n : Nat} {xs : List Int} (hf : Fn P g args' (.lsl 0 0 n) [iB xs]) (he : rfyL (hget h) args = args') (hp : plainL args' = true)
    (hk : ∀ id H', Ext h H' → H'[id]? = some (.cells true false 1 (xs.map fun x => [i64 x])) → K (St.put ⟨s, H'⟩ e (.lsl id 0 n))) : wcallX P false (.lit (.func (.func g) #[] #[])) args e ⟨s, h⟩ K := by
  refine wcallX_fn hf he hp ?_
  refine hk _ _ (Ext.call _ _ _) ?_
  rw [Nat.zero_add]
  have := fn_int (F := freeze h (lidsL (hget h) args)) (n := h.length) (xs := xs)
  rwa [frzLen] at this
theorem wcall_F2 {w1 w2 : AV} (hf : Gv d P g args' [w1, w2]) (he : rfyL (hget h) args = args') (hp : plainL args' = true)
    (hk : ∀ v1 v2 H', Ext h H' → (∀ N : Nat, h[N]? = some .resv → H'[N]? = some .resv) → Rds d H' v1 w1 → Rds d H' v2 w2 → K (St.put ⟨s, H'⟩ e (.tup [v1, v2]))) : wcall P false (.lit (.func (.func g) #[] #[])) args e ⟨s, h⟩ K :=
  wcall_g2 hf he hp fun v1 v2 _ h1 h2 => hk v1 v2 _ (Ext.call _ _ _) (fun _ hN => call_resv hN _ _) (h1 _ (frzLen _ _)) (h2 _ (frzLen _ _))
end
theorem Rds.agg2 {d : Nat} {H : List Blk} {v : AV} {b : Bool} {n : Nat} {W : List (List AV)} {x : Value} (h : Rds (d + 1) H v (.agg [.sl b n W, .lit x])) : ∃ a, v = .agg [a, .lit x] ∧ Rds d H a (.sl b n W) := by
  obtain ⟨h1, h2⟩ := h
  cases v with
  | lsl id i len =>
    simp only [rfy] at h1
    split at h1
    · split at h1 <;> simp at h1
    · simp at h1
  | agg cs =>
    simp only [rfy, AV.agg.injEq] at h1
    match cs, h1 with
    | [a, c], h1 =>
      simp only [List.map_cons, List.map_nil, List.cons.injEq, and_true] at h1
      simp only [plain, plainL, Bool.and_eq_true] at h2
      have hc : Rds d H c (.lit x) := ⟨h1.2, rfl⟩
      exact ⟨a, by rw [hc.lit], h1.1, by simp only [plain]; exact h2.1⟩
    | [], h1 => simp at h1
    | [a], h1 => simp at h1
    | a :: b :: c :: r, h1 => simp at h1
  | _ => simp [rfy] at h1
theorem rds_iB {H : List Blk} {id n d : Nat} {own : Bool} {xs : List Int} (h : H[id]? = some (.cells own false 1 (xs.map fun x => [i64 x]))) (hl : xs.length = n) : Rds (d + 1) H (.lsl id 0 n) (ints false xs) := ⟨rfy_iB h hl, by simp [plain]⟩
theorem rL3 {d1 d2 d3 : Nat} {H : List Blk} {v1 v2 v3 w1 w2 w3 : AV} (h1 : Rds d1 H v1 w1) (h2 : Rds d2 H v2 w2) (h3 : Rds d3 H v3 w3) (e1 : d1 ≤ 6) (e2 : d2 ≤ 6) (e3 : d3 ≤ 6) : rfyL (hget H) [v1, v2, v3] = [w1, w2, w3] := by
  simp only [rfyL, List.map_cons, List.map_nil, h1.six e1, h2.six e2, h3.six e3]
theorem rds_agg {d : Nat} {H : List Blk} {a w : AV} (x : Value) (h : Rds d H a w) : Rds (d + 1) H (.agg [a, .lit x]) (.agg [w, .lit x]) :=
  ⟨by simp only [rfy, List.map_cons, List.map_nil, h.1, rfy0], by simp only [plain, plainL, h.2]; rfl⟩
theorem rds_self {d : Nat} {H : List Blk} {b : Bool} {n : Nat} {E : List (List AV)} (hE : plainR E = true) : Rds d H (.sl b n E) (.sl b n E) := ⟨rfy_sl .., by simp only [plain, hE]⟩
theorem cp_any (rows : List (Bool × List Int)) (p : List Int → Bool) : (cpR rows).any (fun r => p r.2) = rows.any (fun r => p r.2) := by
  unfold cpR; rw [List.any_map]; rfl
theorem cp_checkF (rows : List (Bool × List Int)) (h : List Int) : checkF (cpR rows) h = checkF rows h := by
  unfold checkF
  rw [cp_any rows (fun r => ((r.length : Nat) : Int) != ((h.length : Nat) : Int)), cp_any rows (fun r => r.any (outB 100))]
  simp only [List.length_map]
theorem cp_fP (rows : List (Bool × List Int)) : fP (cpR rows) = fP rows := by funext n i j; unfold fP; rw [cp_row, cp_row]
theorem cp_fQ (rows : List (Bool × List Int)) (h : List Int) : fQ (cpR rows) h = fQ rows h := by funext i; unfold fQ; rw [cp_row]
theorem cp_fN (rows : List (Bool × List Int)) (h : List Int) : fN (cpR rows) h = fN rows h := by unfold fN; rw [cp_fP, cp_fQ]; simp
theorem cp_fD (rows : List (Bool × List Int)) (h : List Int) : fD (cpR rows) h = fD rows h := by unfold fD; rw [cp_fP]; simp
theorem cp_chkF (rows : List (Bool × List Int)) (h nums : List Int) (den : Int) : chkF (cpR rows) h nums den = chkF rows h nums den := by
  unfold chkF rmF; rw [cp_fP, cp_fQ]; simp
theorem cp_casesF (rows : List (Bool × List Int)) (h : List Int) (hl : rows.length ≤ 3) (hr : ∀ t, t < rows.length → (rowN rows t).2.length ≤ 25) (hh : h.length ≤ 25) :
    ∃ b n E, cpW rows = .sl b n E ∧ plainR E = true ∧ Fn Try.prog 135 [.sl b n E, ints false h] (i64 (checkF rows h)) [] := by
  unfold cpW
  by_cases hne : rows = []
  · subst hne
    have : checkF [] h = 10 := by unfold checkF; split <;> simp
    rw [this]
    exact ⟨true, 0, [], rfl, rfl, k135n (by omega)⟩
  · rw [if_neg hne]
    refine ⟨false, 1, _, rfl, plain_rws _, ?_⟩
    have h135 := k135 (nil := false) (hn := false) (rows := cpR rows) (ht0 := h) (by simp; omega) (fun t ht => by rw [cp_row]; have := hr t (by simpa using ht); omega) (by omega)
    rw [cp_checkF] at h135
    exact h135
theorem cp_W {rows : List (Bool × List Int)} (h : rows.length ≠ 0) : cpW rows = .sl false 1 ((cpR rows).map fun r => [ints r.1 r.2]) := by
  unfold cpW; rw [if_neg (fun e => h (by rw [e]; rfl))]
theorem T_onlyF {P : Program} {muts : List FuncId} {N b : Nat} {σ S : St} {K : Exit → St → Prop} {md : Option Nat} {ac : ACode} (ts : List Nat) (h : σ.only ts = S) (hT : T md P muts N b ac S K) : T md P muts N b ac σ K :=
  T_weak (weak_only ts) (by rw [h]; exact hT)
/-- the limits of the law -/
def fewF (rows : List (Bool × List Int)) (h nums : List Int) : Bool := decide (rows.length ≤ 3) && decide (h.length ≤ 25) && decide (nums.length ≤ 4) && !(rows.any fun r => decide (25 < r.2.length))
end Go.Abs
