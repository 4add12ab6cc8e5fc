import Derived.Test.YtodheeifecoebaaK26x
import Derived.Test.YtodheeifecoebaaK29x
set_option linter.all false
set_option linter.unusedVariables false
set_option linter.unusedSimpArgs false
set_option linter.unusedSectionVars false
namespace Go.Abs
open Go.Proofs
/-! ref.Unwrap: one pair of cells -/
def kn (n : Nat) (o : List Nat) : List (List AV) := (List.range n).map fun c => [bl (decide (c ∈ o))]
theorem kn_len (n : Nat) (o : List Nat) : (kn n o).length = n := by simp [kn]
theorem kn_get {n c : Nat} {o : List Nat} (h : c < n) : (kn n o).getD c [] = [bl (decide (c ∈ o))] := by simp [kn, List.getD_eq_getElem?_getD, h]
theorem kn_set {n c : Nat} {o : List Nat} : (kn n o).set c [bl true] = kn n (o ++ [c]) := by
  refine List.ext_getElem (by simp [kn]) fun i h1 h2 => ?_
  rw [List.getElem_set]
  unfold kn
  by_cases h : c = i
  · subst h; simp
  · rw [if_neg h]; simp; omega
theorem mk_upd {n c : Nat} {h : Nat → Int} {v : Int} : (mk n h).set c v = mk n (upd h c v) := by rw [mk_set]; rfl
def newB (w : Int) (ph : List Int) (o : List Nat) (a b : Nat) : Bool := decide (a ∈ o) && !decide (b ∈ o) && edN w ph a b
end Go.Abs
namespace Go.Abs
/-! ref.Unwrap: what a pass over all pairs keeps (no program in sight) -/
structure Ps (w : Int) (ph : List Int) (P : Nat → Int) (o0 : List Nat) (a b : Nat) (gr : Bool) (o : List Nat) (h : Nat → Int) : Prop where
  fo : ∃ fr, Fo ph.length (thN ph) (edN w ph) (stN ph) P o h fr
  bd : ∀ c, -(1000 + 500 * (o.length : Int)) ≤ h c ∧ h c ≤ 1000 + 500 * (o.length : Int)
  pre : o0.length ≤ o.length ∧ ∀ c, c ∈ o0 → c ∈ o
  gt : gr = true → o0.length < o.length
  cl : gr = false → o = o0 ∧ ∀ a' b', (a' < a ∨ (a' = a ∧ b' < b)) → a' ∈ o → edN w ph a' b' = true → b' ∈ o
  ze : ∀ c, c ∉ o → h c = 0
section
variable {w : Int} {ph : List Int} {P : Nat → Int} {o0 : List Nat} {a b : Nat} {gr : Bool} {o : List Nat} {h : Nat → Int}
theorem Ps.step (hs : Ps w ph P o0 a b gr o h) : Ps w ph P o0 a (b + 1) (gr || newB w ph o a b) (if newB w ph o a b then o ++ [b] else o) (if newB w ph o a b then upd h b (h a + stN ph a b) else h) := by
  obtain ⟨⟨fr, fo⟩, bd, pre, gt, cl, ze⟩ := hs
  cases hn : newB w ph o a b with
  | true =>
    simp only [if_true, Bool.or_true]
    unfold newB at hn
    simp only [Bool.and_eq_true, decide_eq_true_eq, Bool.not_eq_true', decide_eq_false_iff_not] at hn
    obtain ⟨⟨h1, h2⟩, h3⟩ := hn
    have hg := grid_gr w ph
    have hbn := hg.inn b a (by rw [hg.sym]; exact h3)
    have hst := stepI_r ph (a : Int) (b : Int)
    refine ⟨⟨upd fr b a, fo.add h2 hbn (.inr ⟨a, h1, rfl, h3, rfl⟩)⟩, fun c => ?_, ⟨by simp; omega, fun c hc => by simp [pre.2 c hc]⟩, fun _ => by simp; omega, fun h => by simp at h, fun c hc => by
      simp only [List.mem_append, List.mem_singleton, not_or] at hc
      rw [upd_ne _ hc.2]; exact ze c hc.1⟩
    have hba := bd a
    have hbc := bd c
    have hl : (((o ++ [b]).length : Nat) : Int) = (o.length : Int) + 1 := by simp
    rw [hl]
    unfold upd
    split
    · show _ ∧ _
      have : stN ph a b = stepI ph a b := rfl
      rw [this]; omega
    · omega
  | false =>
    simp only [Bool.or_false, Bool.false_eq_true, if_false]
    refine ⟨⟨fr, fo⟩, bd, pre, gt, fun hgr => ⟨(cl hgr).1, fun a' b' hab ha' he => ?_⟩, ze⟩
    by_cases hc : a' = a ∧ b' = b
    · obtain ⟨rfl, rfl⟩ := hc
      unfold newB at hn
      rw [decide_eq_true ha', he] at hn
      simpa using hn
    · exact (cl hgr).2 a' b' (by omega) ha' he
theorem Ps.row (hs : Ps w ph P o0 a ph.length gr o h) : Ps w ph P o0 (a + 1) 0 gr o h := by
  obtain ⟨fo, bd, pre, gt, cl, ze⟩ := hs
  refine ⟨fo, bd, pre, gt, fun hgr => ⟨(cl hgr).1, fun a' b' hab ha' he => ?_⟩, ze⟩
  have hg := grid_gr w ph
  have hbn := (hg.inn b' a' (by rw [hg.sym]; exact he)).1
  exact (cl hgr).2 a' b' (by omega) ha' he
/-- a pass without a find: all neighbours are reached -/
theorem Ps.done (hs : Ps w ph P o0 ph.length b false o h) : o = o0 ∧ Cl (edN w ph) o o.length := by
  obtain ⟨_, _, _, _, cl, _⟩ := hs
  obtain ⟨h1, h2⟩ := cl rfl
  refine ⟨h1, fun i x y hi hx he => ?_⟩
  have hg := grid_gr w ph
  exact h2 x y (.inl (hg.inn x y he).1) (List.mem_of_getElem? hx) he
end
end Go.Abs
namespace Go.Abs
open Go.Proofs
/-! ref.Unwrap: one row of a pass -/
theorem T_thenR {P : Program} {muts : List FuncId} {N b : Nat} {σ : St} {K : Exit → St → Prop} {md : Option Nat} {ac : ACode} {A B : St → Prop} (h : T md P muts N b ac σ (thenK A K)) (hab : ∀ s, A s → B s) : T md P muts N b ac σ (thenK B K) :=
  T_mono h fun e s hs => by
    cases e with
    | normal => exact hab s hs
    | _ => exact hs
end Go.Abs
namespace Go.Abs
open Go.Proofs
/-! ref.Unwrap: passes until nothing grows -/
structure Pg (w : Int) (ph : List Int) (P : Nat → Int) (o0 o : List Nat) (h : Nat → Int) : Prop where
  fo : ∃ fr, Fo ph.length (thN ph) (edN w ph) (stN ph) P o h fr
  bd : ∀ c, -(1000 + 500 * (o.length : Int)) ≤ h c ∧ h c ≤ 1000 + 500 * (o.length : Int)
  pre : ∀ c, c ∈ o0 → c ∈ o
  ze : ∀ c, c ∉ o → h c = 0
end Go.Abs
namespace Go.Abs
open Go.Proofs
/-! ref.Unwrap: one first cell after the other -/
abbrev Pf (ph : List Int) : Nat → Int := fun c => ph.getD c 0
structure Pc (w : Int) (ph : List Int) (c : Nat) (o : List Nat) (h : Nat → Int) : Prop where
  fo : ∃ fr, Fo ph.length (thN ph) (edN w ph) (stN ph) (Pf ph) o h fr
  bd : ∀ c, -(1000 + 500 * (o.length : Int)) ≤ h c ∧ h c ≤ 1000 + 500 * (o.length : Int)
  cl : Cl (edN w ph) o o.length
  al : ∀ b, b < c → thN ph b = true → b ∈ o
  ze : ∀ c, c ∉ o → h c = 0
end Go.Abs
namespace Go.Abs
open Go.Proofs
/-! ref.Unwrap: do all steps agree? -/
end Go.Abs
namespace Go.Abs
open Go.Proofs
/-! ref.Unwrap: the whole function -/
end Go.Abs
