import Derived.Test.YtookdheldelepaaGreatDoorPCmin
import Derived.Test.YtookdheldelepaaGreatDoorK9
set_option linter.all false
set_option linter.unusedVariables false
set_option linter.unusedSimpArgs false
set_option linter.unusedSectionVars false
namespace Go.Abs
open Go.Proofs
/-! names that are there already -/
theorem at_in {H : List Blk} {i : Nat} {b : Blk} (h : H[i]? = some b) (X : List Blk) : (H ++ X)[i]? = some b := by rw [List.getElem?_append_left (List.getElem?_eq_some_iff.1 h).1]; exact h
theorem cells_sub {H X : List Blk} {N : Nat} (hN : H.length = N) : (∀ Y, (H ++ Y)[N]? = Y[0]?) ∧ (∀ Y j, (H ++ Y)[N + j]? = Y[j]?) ∧ (∀ Y v, (H ++ Y).set N v = H ++ Y.set 0 v) ∧ (∀ Y j v, (H ++ Y).set (N + j) v = H ++ Y.set j v) := by
  subst hN
  refine ⟨fun Y => ?_, fun Y j => ?_, fun Y v => ?_, fun Y j v => ?_⟩
  · rw [List.getElem?_append_right (Nat.le_refl _), Nat.sub_self]
  · rw [List.getElem?_append_right (by omega), Nat.add_sub_cancel_left]
  · rw [List.set_append_right _ _ (Nat.le_refl _), Nat.sub_self]
  · rw [List.set_append_right _ _ (by omega), Nat.add_sub_cancel_left]
theorem T_forP {P : Program} {muts : List FuncId} {N b : Nat} {σ : St} {K : Exit → St → Prop} {md : Option Nat} {p : ACode} (ts : List Nat) (SL : Nat → List (Nat × AV)) (m : Nat) (I : Nat → List Blk → Prop) (k0 : Nat) (h0 : (σ.only ts).slots = SL k0) (hI0 : I k0 σ.heap) (hk0 : k0 ≤ m)
    (h : ∀ k H, k ≤ m → I k H → T md P muts N b p ⟨SL k, H⟩ (thenK (fun s' => k < m ∧ I (k + 1) s'.heap ∧ (s'.only ts).slots = SL (k + 1)) K)) : T md P muts N b (.loop p) σ K :=
  T_loop_only ts (fun n s => ∃ k H, k ≤ m ∧ I k H ∧ n = m - k ∧ s = ⟨SL k, H⟩) (m - k0) ⟨k0, σ.heap, hk0, hI0, rfl, by rw [← h0]; rfl⟩ fun n s ⟨k, H, hk, hI, hn, hs⟩ => by
    subst hs hn
    refine T_mono (h k H hk hI) fun e s' hK => ?_
    cases e with
    | normal => obtain ⟨h1, h2, h300⟩ := hK; exact ⟨m - (k + 1), by omega, k + 1, s'.heap, h1, h2, rfl, by rw [← h300]; rfl⟩
    | _ => exact hK
theorem T_onlyU {P : Program} {muts : List FuncId} {N b : Nat} {σ S : St} {K : Exit → St → Prop} {md : Option Nat} {ac : ACode} (ts : List Nat) (h : σ.only ts = S) (hT : T md P muts N b ac S K) : T md P muts N b ac σ K :=
  T_weak (weak_only ts) (by rw [h]; exact hT)
theorem T_thenR {P : Program} {muts : List FuncId} {N b : Nat} {σ : St} {K : Exit → St → Prop} {md : Option Nat} {ac : ACode} {A B : St → Prop} (h : T md P muts N b ac σ (thenK A K)) (hab : ∀ s, A s → B s) : T md P muts N b ac σ (thenK B K) :=
  T_mono h fun e s hs => by
    cases e with
    | normal => exact hab s hs
    | _ => exact hs
theorem eqT_iff {a b : ByteArray} : eqT a b = true ↔ a.data.toList = b.data.toList := by unfold eqT; simp
theorem mfind_mput (b b' : ByteArray) (v : Value) : ∀ es : List (Value × Value), mfind (.string b') (mput (.string b) v es) = if eqT b b' = true then some v else mfind (.string b') es
  | [] => by
    show (if keyEq (.string b) (.string b') then some v else none) = _
    have : keyEq (.string b) (.string b') = eqT b b' := rfl
    rw [this]; rfl
  | (a, u) :: r => by
    have ih := mfind_mput b b' v r
    have e0 : keyEq (.string b) (.string b') = eqT b b' := rfl
    unfold mput
    cases ha : keyEq a (.string b) with
    | false =>
      rw [if_neg (by simp)]
      unfold mfind
      rw [ih]
      cases ha' : keyEq a (.string b') with
      | false => simp
      | true =>
        rw [if_pos rfl, if_neg]
        · rw [if_pos rfl]
        · intro h
          cases a with
          | string a' =>
            have h1 : eqT a' b' = true := ha'
            have h2 : eqT a' b = false := ha
            rw [eqT_iff] at h1 h
            have h300 : eqT a' b = true := eqT_iff.2 (h1.trans h.symm)
            rw [h300] at h2; simp at h2
          | _ => simp [keyEq] at ha'
    | true =>
      rw [if_pos rfl]
      unfold mfind
      rw [e0]
      cases hb : eqT b b' with
      | true => simp
      | false =>
        simp only [Bool.false_eq_true, if_false]
        cases ha' : keyEq a (.string b') with
        | false => simp
        | true =>
          exfalso
          cases a with
          | string a' =>
            have h1 : eqT a' b' = true := ha'
            have h2 : eqT a' b = true := ha
            rw [eqT_iff] at h1 h2
            have h300 : eqT b b' = true := eqT_iff.2 (h2.symm.trans h1)
            rw [h300] at hb; simp at hb
          | _ => simp [keyEq] at ha'
/-- the map holds those of which p is true -/
def Seen (p : ByteArray → Prop) (es : List (Value × Value)) : Prop := ∀ b, (mfind (.string b) es = some (.bool true) ∧ p b) ∨ (mfind (.string b) es = none ∧ ¬p b)
theorem Seen.nil : Seen (fun _ => False) [] := fun b => .inr ⟨rfl, fun h => h⟩
theorem Seen.put {p q : ByteArray → Prop} {es : List (Value × Value)} (h : Seen p es) (b : ByteArray) (hq : ∀ b', q b' ↔ p b' ∨ eqT b b' = true) : Seen q (mput (.string b) (.bool true) es) := fun b' => by
  rw [mfind_mput]
  by_cases he : eqT b b' = true
  · rw [if_pos he]; exact .inl ⟨rfl, (hq b').2 (.inr he)⟩
  · rw [if_neg he]
    rcases h b' with ⟨h1, h2⟩ | ⟨h1, h2⟩
    · exact .inl ⟨h1, (hq b').2 (.inl h2)⟩
    · exact .inr ⟨h1, fun h300 => ((hq b').1 h300).elim h2 he⟩
def Q87 (id : Nat) (b : ByteArray) (es : List (Value × Value)) (H : List Blk) (r : AV) (H' : List Blk) : Prop :=
  (mfind (.string b) es = some (.bool true) ∧ r = bl true ∧ H' = H) ∨ (mfind (.string b) es = none ∧ r = bl false ∧ H' = H.set id (.obj (.smap .str (mput (.string b) (.bool true) es))))
set_option maxHeartbeats 8000000 in
theorem k33 {id : Nat} {b : ByteArray} {es : List (Value × Value)} {H : List Blk} {p : ByteArray → Prop} (hm : H[id]? = some (.obj (.smap .str es))) (hs : Seen p es) : ACall Tryz.prog 33 [.mp id, tx b] H (Q87 id b es H) := by
  refine envOf_all e33 ?_
  rcases hs b with ⟨h1, _⟩ | ⟨h1, _⟩
  · have f : ∀ r H', (r = bl true ∧ H' = H) → Q87 id b es H r H' := fun r H' h => .inl ⟨h1, h⟩
    replace f := PLift.up f
    clear hs
    unfold c33
    repeat' (first | (with_reducible first | refine T_seq ?_ | refine T_reg ?_ | refine T_skip ?_ | refine T_exit ?_ | refine T_block ?_ | refine T_cond_t rfl ?_ | refine T_cond_f rfl ?_ | refine T_ret ?_ | refine wif_intro ?_ (fun hc => ?_) | refine And.intro ?_ ?_ | intro hc) | simp (maxSteps := 4000000) only [wops_nil, wops_cons, wstep_none, wrun_mv, wrun_mlook, wop, aop, ev, look, put_some, writes, ores_some, thenK, boolV, hget, List.map_cons, List.map_nil, List.append_nil, List.replicate_zero, List.zipIdx_cons, List.zipIdx_nil, Option.getD_some, if_true, if_false, Nat.reduceEqDiff, Nat.reduceAdd, Nat.zero_add, Nat.zero_ne_one, reduceCtorEq, Bool.false_eq_true, eq_self, and_true, KD.same, keyIs, *] | simp (disch := omega) only [getD_ints, wrapI] | omega)
    all_goals first | exact ⟨[bl true], rfl, f.down _ _ ⟨rfl, rfl⟩⟩
  · have f : ∀ r H', (r = bl false ∧ H' = H.set id (.obj (.smap .str (mput (.string b) (.bool true) es)))) → Q87 id b es H r H' := fun r H' h => .inr ⟨h1, h⟩
    replace f := PLift.up f
    clear hs
    unfold c33
    repeat' (first | (with_reducible first | refine T_seq ?_ | refine T_reg ?_ | refine T_skip ?_ | refine T_exit ?_ | refine T_block ?_ | refine T_cond_t rfl ?_ | refine T_cond_f rfl ?_ | refine T_ret ?_ | refine wif_intro ?_ (fun hc => ?_) | refine And.intro ?_ ?_ | intro hc) | simp (maxSteps := 4000000) only [wops_nil, wops_cons, wstep_none, wrun_mv, wrun_mlook, wrun_mset, wop, aop, ev, look, put_some, put_none, writes, ores_some, thenK, boolV, hget, List.map_cons, List.map_nil, List.append_nil, List.replicate_zero, List.zipIdx_cons, List.zipIdx_nil, Option.getD_some, if_true, if_false, Nat.reduceEqDiff, Nat.reduceAdd, Nat.zero_add, Nat.zero_ne_one, reduceCtorEq, Bool.false_eq_true, eq_self, and_true, KD.same, keyIs, *] | simp (disch := omega) only [getD_ints, wrapI] | omega)
    all_goals first | exact ⟨[bl false], rfl, f.down _ _ ⟨rfl, rfl⟩⟩
end Go.Abs
