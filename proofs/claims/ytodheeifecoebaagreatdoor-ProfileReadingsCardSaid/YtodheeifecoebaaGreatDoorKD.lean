import Derived.Test.YtodheeifecoebaaGreatDoorPCmin
set_option linter.all false
set_option linter.unusedVariables false
set_option linter.unusedSimpArgs false
set_option linter.unusedSectionVars false
namespace Go.Abs
abbrev fmap (w : Int) (nil : Bool) (ph : List Int) : AV := .agg [i64 w, ints nil ph]
def thereB (ph : List Int) (c : Int) : Bool := decide (0 ≤ c ∧ c < ph.length ∧ ph.getD c.toNat 0 ≠ -1)
def lo2 (a b : Int) : Int := if b < a then b else a
def hi2 (a b : Int) : Int := if b > a then b else a
def besideB (w a b : Int) : Bool := decide (hi2 a b = lo2 a b + w) || (decide (hi2 a b = lo2 a b + 1) && (hi2 a b).tmod w != 0)
def cands (w c : Int) : List Int := [c - w, c - 1, c + 1, c + w]
def nextB (w : Int) (ph : List Int) (c x : Int) : Bool := thereB ph x && besideB w c x
def Grid (ic ig : Nat) (w c : Int) (nil : Bool) (ph : List Int) (H : List Blk) : Prop := (∃ o n, H[ic]? = some (.cells o n 1 [[i64 c]])) ∧ ∃ o n, H[ig]? = some (.cells o n 2 [[i64 w, ints nil ph]])
def tail146 (w c : Int) (ph : List Int) (k : Nat) : List Int := ((cands w c).drop k).filter (nextB w ph c)
def s146 (w c : Int) (hl ic ig : Nat) (k : Nat) : List (Nat × AV) := [(19, i64 k), (18, .lit (.agg #[.int .i64 (c - w), .int .i64 (c - 1), .int .i64 (c + 1), .int .i64 (c + w)])), (0, .mp hl), (1, .loc ic 0 0), (2, .loc ig 0 0)]
/-- whole numbers out of rows -/
def unI : List (List AV) → Option (List Int)
  | [] => some []
  | [.lit (.int .i64 x)] :: r => (unI r).map (x :: ·)
  | _ => none
theorem unI_ok : ∀ {l : List (List AV)} {xs : List Int}, unI l = some xs → l = xs.map fun x => [i64 x]
  | [], xs, h => by obtain rfl := Option.some.inj h; rfl
  | [.lit (.int .i64 x)] :: r, xs, h => by
    simp only [unI, Option.map_eq_some_iff] at h
    obtain ⟨ys, h1, rfl⟩ := h
    rw [unI_ok h1]; rfl
def gridOf (ic ig : Nat) (H : List Blk) : Option (Int × Int × Bool × List Int) :=
  match H[ic]? with
  | some (.cells _ _ 1 [[.lit (.int .i64 c)]]) => match H[ig]? with
    | some (.cells _ _ 2 [[.lit (.int .i64 w), .sl nil 1 els]]) => (unI els).map fun ph => (w, c, nil, ph)
    | _ => none
  | _ => none
theorem gridOf_ok {ic ig : Nat} {H : List Blk} {w c : Int} {nil : Bool} {ph : List Int} (h : gridOf ic ig H = some (w, c, nil, ph)) : Grid ic ig w c nil ph H := by
  unfold gridOf at h
  split at h
  · rename_i o n c' h1
    split at h
    · rename_i o2 n2 w' nil' els h2
      simp only [Option.map_eq_some_iff, Prod.mk.injEq] at h
      obtain ⟨ph', h200, rfl, rfl, rfl, rfl⟩ := h
      rw [unI_ok h200] at h2
      exact ⟨⟨o, n, h1⟩, o2, n2, h2⟩
    · simp at h
  · simp at h
theorem unI_map : ∀ xs : List Int, unI (xs.map fun x => [i64 x]) = some xs
  | [] => rfl
  | x :: r => by simp only [List.map_cons, unI, unI_map r]; rfl
theorem gridOf_of {ic ig : Nat} {H : List Blk} {w c : Int} {nil : Bool} {ph : List Int} (h : Grid ic ig w c nil ph H) : gridOf ic ig H = some (w, c, nil, ph) := by
  obtain ⟨⟨o, n, h1⟩, o2, n2, h2⟩ := h
  unfold gridOf
  simp only [h1, h2, unI_map, Option.map_some]
def locs2 : List AV → List AV → Option (Nat × Nat)
  | [], [.loc ic 0 0, .loc ig 0 0] => some (ic, ig)
  | _, _ => none
theorem locs2_ok {first cap : List AV} {ic ig : Nat} (h : locs2 first cap = some (ic, ig)) : first = [] ∧ cap = [.loc ic 0 0, .loc ig 0 0] := by
  unfold locs2 at h
  split at h
  · simp only [Option.some.injEq, Prod.mk.injEq] at h
    obtain ⟨rfl, rfl⟩ := h; exact ⟨rfl, rfl⟩
  · simp at h
def itA : Iters := fun gf first cap H => (locs2 first cap).bind fun p => (gridOf p.1 p.2 H).bind fun q =>
  if gf = 70 ∧ 1 ≤ q.1 ∧ q.1 ≤ 1000000 ∧ 0 ≤ q.2.1 ∧ q.2.1 ≤ 100000000 ∧ q.2.2.2.length < 4611686018427387904 then some (tail146 q.1 q.2.1 q.2.2.2 0, q.1 :: q.2.1 :: (if q.2.2.1 then 1 else 0) :: q.2.2.2) else none
theorem itA_iff {gf : FuncId} {first cap : List AV} {H : List Blk} {x : List Int × List Int} (h : itA gf first cap H = some x) : ∃ ic ig w c nil ph, gf = 70 ∧ first = [] ∧ cap = [.loc ic 0 0, .loc ig 0 0] ∧ gridOf ic ig H = some (w, c, nil, ph) ∧ (1 ≤ w ∧ w ≤ 1000000) ∧ (0 ≤ c ∧ c ≤ 100000000) ∧ ph.length < 4611686018427387904 ∧ x = (tail146 w c ph 0, w :: c :: (if nil then 1 else 0) :: ph) := by
  unfold itA at h
  simp only [Option.bind_eq_some_iff] at h
  obtain ⟨⟨ic, ig⟩, h1, ⟨w, c, nil, ph⟩, h2, h200⟩ := h
  dsimp only at h2 h200
  split at h200
  · rename_i hc
    obtain ⟨e1, e2⟩ := locs2_ok h1
    exact ⟨ic, ig, w, c, nil, ph, hc.1, e1, e2, h2, ⟨hc.2.1, hc.2.2.1⟩, ⟨hc.2.2.2.1, hc.2.2.2.2.1⟩, hc.2.2.2.2.2, (Option.some.inj h200).symm⟩
  · simp at h200
theorem itA_of {ic ig : Nat} {H : List Blk} {w c : Int} {nil : Bool} {ph : List Int} (h : gridOf ic ig H = some (w, c, nil, ph)) (hw : 1 ≤ w ∧ w ≤ 1000000) (hc : 0 ≤ c ∧ c ≤ 100000000) (hl : ph.length < 4611686018427387904) :
    itA 70 [] [.loc ic 0 0, .loc ig 0 0] H = some (tail146 w c ph 0, w :: c :: (if nil then 1 else 0) :: ph) := by
  unfold itA locs2
  simp only [Option.bind_some, h]
  rw [if_pos ⟨trivial, hw.1, hw.2, hc.1, hc.2, hl⟩]
end Go.Abs
