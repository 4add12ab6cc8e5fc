import Derived.Test.YtodheeifecoebaaK201
import Derived.Test.YtodheeifecoebaaK262x
set_option linter.all false
set_option linter.unusedVariables false
set_option linter.unusedSimpArgs false
set_option linter.unusedSectionVars false
namespace Go.Abs
section
variable {P : Program} {s : List (Nat × AV)} {h : List Blk} {K : St → Prop} {g : FuncId} {args args' : List AV} {e : Option Nat} {d : Nat}
theorem wcall_E0 {r : AV} (hf : Fn P g args' r []) (hr : plain r = true) (he : rfyL (hget h) args = args') (hp : plainL args' = true)
    (hk : ∀ H', Ext h H' → K (St.put ⟨s, H'⟩ e r)) : wcall P false (.lit (.func (.func g) #[] #[])) args e ⟨s, h⟩ K := by
  refine wcall_fn hf he hp ?_
  rw [ren_plain _ _ hr]
  exact hk _ (Ext.call _ _ _)
theorem T_forP {P : Program} {muts : List FuncId} {N b : Nat} {σ : St} {K : Exit → St → Prop} {md : Option Nat} {p : ACode} (ts : List Nat) (SL : Nat → List (Nat × AV)) (m : Nat) (I : Nat → List Blk → Prop) (k0 : Nat) (h0 : (σ.only ts).slots = SL k0) (hI0 : I k0 σ.heap) (hk0 : k0 ≤ m)
    (h : ∀ k H, k ≤ m → I k H → T md P muts N b p ⟨SL k, H⟩ (thenK (fun s' => k < m ∧ I (k + 1) s'.heap ∧ (s'.only ts).slots = SL (k + 1)) K)) : T md P muts N b (.loop p) σ K :=
  T_loop_only ts (fun n s => ∃ k H, k ≤ m ∧ I k H ∧ n = m - k ∧ s = ⟨SL k, H⟩) (m - k0) ⟨k0, σ.heap, hk0, hI0, rfl, by rw [← h0]; rfl⟩ fun n s ⟨k, H, hk, hI, hn, hs⟩ => by
    subst hs hn
    refine T_mono (h k H hk hI) fun e s' hK => ?_
    cases e with
    | normal => obtain ⟨h1, h2, h3⟩ := hK; exact ⟨m - (k + 1), by omega, k + 1, s'.heap, h1, h2, rfl, by rw [← h3]; rfl⟩
    | _ => exact hK
theorem Ext.cell {H H' : List Blk} (hx : Ext H H') {id : Nat} {o n : Bool} {sz : Nat} {els : List (List AV)} (h : H[id]? = some (.cells o n sz els)) : ∃ o', H'[id]? = some (.cells o' n sz els) := hx _ _ _ _ _ h
theorem Rds.six {H : List Blk} {v w : AV} (h : Rds d H v w) (hd : d ≤ 6 := by omega) : rfy (hget H) 6 v = w := (h.to hd).1
end
end Go.Abs
namespace Go.Abs
open Go.Proofs
/-! back: the whole function -/
/-- the cells as numbers -/
def cz (X : List Nat) : List Int := mk X.length fun j => ((X.getD j 0 : Nat) : Int)
theorem cz_len (X : List Nat) : (cz X).length = X.length := mk_len ..
theorem cz_get {X : List Nat} {j : Nat} (h : j < X.length) : (cz X).getD j 0 = (X.getD j 0 : Nat) := mk_get h
/-- what back yields -/
structure BackOk (H0 : List Blk) (X : List Nat) (r : AV) (H : List Blk) : Prop where
  h : ∃ id, H0.length ≤ id ∧ r = .lsl id 0 X.length ∧ H[id]? = some (.cells true false 1 ((cz X).map fun x => [i64 x]))
  o : ∀ id, id < H0.length → H[id]? = H0[id]?
section
variable {n : Nat} {th : Nat → Bool} {ed : Nat → Nat → Bool} {st : Nat → Nat → Int} {o : List Nat} {h fr : Nat → Int} {X : List Nat}
set_option maxHeartbeats 8000000 in
theorem k147 (hX : Ch th ed st o h fr X) (hon : ∀ k, k < X.length → X.getD k 0 < n) (hlen : X.length ≤ 1000000) (hn : n ≤ 1000000) {it ifr : Nat} {ot of : Bool} {w : Int} {nl : Bool} {ph : List Int} {a b : AV} {H0 : List Blk}
    (ht : H0[it]? = some (.cells ot false 5 [[i64 w, ints nl ph, a, .lsl ifr 0 n, b]])) (hfr : H0[ifr]? = some (.cells of false 1 ((mk n fr).map fun x => [i64 x]))) {c : Nat} (hc : X.getD 0 0 = c) :
    ACall Try.prog 147 [.loc it 0 0, i64 c] H0 (BackOk H0 X) := by
  refine envOf_all e147 ?_
  have hl := fun K k hk H hH => k147l hX hon hlen hn ht hfr K k hk H hH
  have hne := hX.ne
  have hne0 : X.length ≠ 0 := by omega
  have e0 : (if 0 < X.length then ((X.getD 0 0 : Nat) : Int) else -1) = (c : Nat) := by rw [if_pos (by omega), hc]
  replace hl := And.intro hl trivial
  clear hX hon ht hfr
  unfold c147
  repeat' (first
    | with_reducible first
      | refine T_seq ?_
      | refine T_reg ?_
      | refine T_skip ?_
      | refine T_exit ?_
      | refine T_block ?_
      | refine T_cond_t rfl ?_
      | refine T_cond_f rfl ?_
      | ((first | refine T_cond rfl (fun hc => ?_) (fun hc => ?_) | refine wguard_split (fun hc => ?_) (fun hc => ?_)) <;> have hd := hc <;> (try simp (disch := omega) only [wrapI] at hd) <;> have hs := hd <;> (try simp only [Bool.not_eq_true', Bool.not_eq_false', Bool.and_eq_true, Bool.and_eq_false_iff, Bool.or_eq_true, Bool.or_eq_false_iff, decide_eq_true_eq, decide_eq_false_iff_not, beq_iff_eq, bne_iff_ne, beq_eq_false_iff_ne, bne_eq_false_iff_eq, Bool.not_true, Bool.not_false, gt_iff_lt, ge_iff_le, Int.not_lt, Int.not_le, ne_eq, Decidable.not_not] at hd) <;> (try simp at hs))
      | refine T_ret ?_
      | refine wif_intro ?_ (fun hc => ?_)
      | refine And.intro ?_ ?_
      | intro hc
    | simp (maxSteps := 4000000) only [wops_nil, wops_cons, wstep_none, wrun_mv, wop, aop, ev, put_some, writes, ores_some, thenK, List.map_cons, List.map_nil, List.append_nil, List.replicate_zero, List.zipIdx_cons, List.zipIdx_nil, Nat.reduceAdd, Nat.zero_add, *]
    | simp (disch := omega) only [getD_ints, wrapI]
    | omega)
  refine T_forP [0, 1, 5] (SL147 it H0.length X) X.length (J147 H0.length H0 fun j => ((X.getD j 0 : Nat) : Int)) 0 ?_ ?_ (Nat.zero_le _) ?_
  · unfold SL147; rw [e0]; simp [St.only, get_mk, look]
  · exact ⟨rfl, fun h => (h rfl).elim, fun _ _ => rfl⟩
  intro k H hk hH
  by_cases hkz : k < X.length
  · exact hl.1 _ k hkz H hH
  · have hke : k = X.length := by omega
    subst hke
    obtain ⟨hN, hR, hO⟩ := hH
    replace hR := hR hne0
    have fin : BackOk H0 X (.lsl (H0.length + 2 * X.length - 1) 0 X.length) H := ⟨⟨_, by omega, rfl, hR⟩, hO⟩
    clear hl e0 hR hO hc
    unfold c147l0 SL147
    simp only [hne0, if_false, Nat.lt_irrefl]
    generalize H0.length + 2 * X.length - 1 = M at *
    replace fin := And.intro fin trivial
    repeat' (first
      | with_reducible first
        | refine T_seq ?_
        | refine T_reg ?_
        | refine T_skip ?_
        | refine T_exit ?_
        | refine T_block ?_
        | refine T_cond_t rfl ?_
        | refine T_cond_f rfl ?_
        | ((first | refine T_cond rfl (fun hc => ?_) (fun hc => ?_) | refine wguard_split (fun hc => ?_) (fun hc => ?_)) <;> have hd := hc <;> (try simp (disch := omega) only [wrapI] at hd) <;> have hs := hd <;> (try simp only [Bool.not_eq_true', Bool.not_eq_false', Bool.and_eq_true, Bool.and_eq_false_iff, Bool.or_eq_true, Bool.or_eq_false_iff, decide_eq_true_eq, decide_eq_false_iff_not, beq_iff_eq, bne_iff_ne, beq_eq_false_iff_ne, bne_eq_false_iff_eq, Bool.not_true, Bool.not_false, gt_iff_lt, ge_iff_le, Int.not_lt, Int.not_le, ne_eq, Decidable.not_not] at hd) <;> (try simp at hs))
        | refine T_ret ?_
        | refine wif_intro ?_ (fun hc => ?_)
        | refine And.intro ?_ ?_
        | intro hc
      | simp (maxSteps := 4000000) only [wops_nil, wops_cons, wstep_none, wrun_mv, wrun_bin, wop, aop, ev, look, put_some, writes, ores_some, binV, thenK, blockK, List.append_nil, List.replicate_zero, Option.map_some, if_true, if_false, Nat.reduceEqDiff, Nat.zero_ne_one, reduceCtorEq, eq_self, false_and, Int.reduceNeg, *]
      | simp (disch := omega) only [getD_ints, wrapI]
      | omega)
    all_goals first | exact ⟨[.lsl M 0 X.length], rfl, fin.1⟩
end
end Go.Abs
