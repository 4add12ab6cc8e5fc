import Derived.Test.YtodheeifecoebaaK223x
import Derived.Test.YtodheeifecoebaaK246x
set_option linter.all false
set_option linter.unusedVariables false
set_option linter.unusedSimpArgs false
set_option linter.unusedSectionVars false
namespace Go.Abs
open Go.Proofs
/-! law 3: what it needs -/
def rwsM (n k : Nat) (f : Nat → Nat → Int) : List (Bool × List Int) := (List.range k).map fun j => (false, mk n (f j))
theorem rwsM_len (n k : Nat) (f : Nat → Nat → Int) : (rwsM n k f).length = k := by simp [rwsM]
theorem rwsM_row {n k t : Nat} {f : Nat → Nat → Int} (h : t < k) : rowN (rwsM n k f) t = (false, mk n (f t)) := by simp [rowN, rwsM, List.getD_eq_getElem?_getD, h]
theorem rwsM_V {n k t i : Nat} {f : Nat → Nat → Int} (h : t < k) (hi : i < n) : V (rwsM n k f) t i = f t i := by unfold V; rw [rwsM_row h]; exact mk_get hi
theorem rst_congr {A B : Nat → Nat → Int} {k i : Nat} (h : ∀ t, t < k → A t i = B t i) : rst A k i = rst B k i := sm_congr k h
theorem mir_congr {A B : Nat → Nat → Int} {k s n j : Nat} (hn : 0 < n) (h : ∀ t i, t < k → i < n → A t i = B t i) : mir A k s n j = mir B k s n j := by
  unfold mir mirp
  refine sm_congr k fun t ht => ?_
  rw [h t _ ht (Nat.mod_lt _ hn), rst_congr fun u hu => h u _ hu (Nat.mod_lt _ hn)]
theorem TmOk.rws {n s k : Nat} {f : Nat → Nat → Int} (hk : 1 ≤ k ∧ k ≤ 12) (hks : k * s = n) (hn : 1 ≤ n ∧ n ≤ 24) (hb : ∀ t i, t < k → i < n → -100000 ≤ f t i ∧ f t i ≤ 100000) : TmOk n s (rwsM n k f) := by
  refine ⟨by rw [rwsM_len]; exact hk, by rw [rwsM_len]; exact hks, hn, fun t ht => ?_, fun t i ht hi => ?_⟩
  · rw [rwsM_len] at ht; rw [rwsM_row ht]; exact mk_len ..
  · rw [rwsM_len] at ht; rw [rwsM_V ht hi]; exact hb t i ht hi
theorem all_rowN {p : Bool × List Int → Bool} {rows : List (Bool × List Int)} (h : ∀ t, t < rows.length → p (rowN rows t) = false) : rows.any p = false := by
  rw [List.any_eq_false]
  intro r hr
  obtain ⟨t, ht, rfl⟩ := List.mem_iff_getElem.1 hr
  have := h t ht
  unfold rowN at this
  rw [List.getD_eq_getElem?_getD, List.getElem?_eq_getElem ht] at this
  simpa using this
theorem TmOk.chk {n s : Nat} {rows : List (Bool × List Int)} (h : TmOk n s rows) : checkT n rows = 0 := by
  obtain ⟨hk, hks, hn, hr, hb⟩ := h
  have e1 : ((n : Nat) : Int).tmod ((rows.length : Nat) : Int) = 0 := by rw [← Int.ofNat_tmod, ← hks, Nat.mul_mod_right]; rfl
  have e2 : rows.any (fun r => ((r.2.length : Nat) : Int) != (n : Int)) = false := all_rowN fun t ht => by simp [hr t ht]
  have e3 : rows.any (fun r => r.2.any (outB 100000)) = false := all_rowN fun t ht => by
    rw [List.any_eq_false]
    intro x hx
    obtain ⟨i, hi, rfl⟩ := List.mem_iff_getElem.1 hx
    have h1 := hb t i ht (by rw [← hr t ht]; exact hi)
    have e : V rows t i = (rowN rows t).2[i] := by simp [V, List.getD_eq_getElem?_getD, hi]
    rw [e] at h1
    simp [outB]; omega
  unfold checkT
  rw [if_neg (by omega), if_neg (by omega), if_neg (by omega), e2, e3]
  rfl
theorem mxI_zero {f : Nat → Int} : ∀ i, (∀ j, j < i → f j = 0) → mxI f 0 i = 0
  | 0, _ => rfl
  | i + 1, h => by
    unfold mxI
    rw [mxI_zero i fun j hj => h j (by omega), h i (by omega)]; rfl
theorem mxO_zero {f : Nat → Nat → Int} {n : Nat} : ∀ t, (∀ u j, u < t → j < n → f u j = 0) → mxO f n t = 0
  | 0, _ => rfl
  | t + 1, h => by
    unfold mxO
    rw [mxO_zero t fun u j hu hj => h u j (by omega) hj]
    exact mxI_zero n fun j hj => h t j (by omega) hj
theorem lowD_zero {d : Int} (h : 1 ≤ d) : lowD 0 d = (0, 1) := by
  unfold lowD
  have e : ((Int.gcd 0 d : Nat) : Int) = d := by rw [Int.gcd_zero_left]; omega
  rw [e, Int.zero_tdiv, Int.tdiv_self (by omega)]
theorem fZ_bd {ml il : List Int} {s n t i : Nat} (hn : 0 < n) (hR : ∀ j, j < n → RG ml il j) (hi : i < n) : -100000 ≤ fZ ml il s n t i ∧ fZ ml il s n t i ≤ 100000 := by
  have h1 := (hR _ (Nat.mod_lt (i + n - t * s) hn)).1
  have h2 := (hR i hi).2
  show -100000 ≤ ml.getD ((i + n - t * s) % n) 0 + il.getD i 0 ∧ ml.getD ((i + n - t * s) % n) 0 + il.getD i 0 ≤ 100000
  omega
/-! the maps read -/
theorem MvR.rds {n k : Nat} {f : Nat → Nat → Int} {v : AV} {H : List Blk} (h : MvR n k f v H) : Rds 3 H v (tmV n false (rwsM n k f)) := by
  obtain ⟨id, o, els, rfl, h1, h2, h3⟩ := h.h
  have e : rfy (hget H) 2 (.lsl id 0 k) = .sl false 1 ((rwsM n k f).map fun r => [ints r.1 r.2]) := by
    unfold rfy
    rw [hget_some' h1]
    dsimp only
    rw [if_pos (by omega), List.drop_zero, List.take_of_length_le (by omega)]
    refine congrArg (AV.sl false 1) ?_
    unfold rwsM
    rw [List.map_map]
    refine List.ext_getElem (by simp [h2]) fun i h4 h5 => ?_
    simp only [List.length_map] at h4
    obtain ⟨rid, r1, o', r2⟩ := h3 i (by omega)
    rw [List.getD_eq_getElem?_getD, List.getElem?_eq_getElem h4] at r1
    simp only [Option.getD_some] at r1
    have e := rfy_iB (d := 0) r2 (mk_len n (f i))
    simp only [List.getElem_map, List.getElem_range, Function.comp, r1, List.map_cons, List.map_nil, Nat.zero_add] at e ⊢
    rw [e]
  refine ⟨?_, by simp only [plain, plainL, plain_rws]; rfl⟩
  show AV.agg ([i64 n, .lsl id 0 k].map (rfy (hget H) 2)) = _
  simp only [List.map_cons, List.map_nil, e, rfy0]
theorem MvR.ext {n k : Nat} {f : Nat → Nat → Int} {v : AV} {H H' : List Blk} (h : MvR n k f v H) (hx : Ext H H') : MvR n k f v H' := by
  obtain ⟨id, o, els, rfl, h1, h2, h3⟩ := h.h
  obtain ⟨o1, h1'⟩ := hx _ _ _ _ _ h1
  refine ⟨id, o1, els, rfl, h1', h2, fun j hj => ?_⟩
  obtain ⟨rid, r1, o', r2⟩ := h3 j hj
  obtain ⟨o2, r2'⟩ := hx _ _ _ _ _ r2
  exact ⟨rid, r1, o2, r2'⟩
theorem at_shift {F N : List Blk} {id : Nat} {b : Blk} (h : N[id]? = some b) : (F ++ N.map (renB (shiftρ F.length)))[id + F.length]? = some (renB (shiftρ F.length) b) := by
  rw [List.getElem?_append_right (by omega), Nat.add_sub_cancel, List.getElem?_map, h]; rfl
theorem MvR.shift {n k : Nat} {f : Nat → Nat → Int} {v : AV} {F N : List Blk} (h : MvR n k f v N) : MvR n k f (ren (shiftρ F.length) v) (F ++ N.map (renB (shiftρ F.length))) := by
  obtain ⟨id, o, els, rfl, h1, h2, h3⟩ := h.h
  refine ⟨id + F.length, o, renR (shiftρ F.length) els, rfl, at_shift h1, by rw [renR_len]; exact h2, fun j hj => ?_⟩
  obtain ⟨rid, r1, o', r2⟩ := h3 j hj
  refine ⟨rid + F.length, ?_, o', ?_⟩
  · rw [List.getD_eq_getElem?_getD] at r1 ⊢
    rw [renR_map, List.getElem?_map]
    rw [List.getElem?_eq_getElem (by omega)] at r1 ⊢
    simp only [Option.getD_some] at r1
    simp only [Option.map_some, Option.getD_some, r1]
    rfl
  · have := at_shift (F := F) r2
    simp only [renB, renR_ints] at this
    exact this
section
variable {P : Program} {s : List (Nat × AV)} {h : List Blk} {K : St → Prop} {g : FuncId} {args args' : List AV} {e : Option Nat}
/-- a call with an answer that is told of -/
theorem wcall_Q {Q : AV → List Blk → Prop} (hf : ACall P g args' [] Q) (he : rfyL (hget h) args = args') (hp : plainL args' = true)
    (hk : ∀ r N F, F.length = h.length → Ext h F → (∀ N : Nat, h[N]? = some .resv → F[N]? = some .resv) → Q r N → K (St.put ⟨s, F ++ N.map (renB (shiftρ F.length))⟩ e (ren (shiftρ F.length) r))) : wcall P false (.lit (.func (.func g) #[] #[])) args e ⟨s, h⟩ K := by
  subst he
  unfold wcall
  simp only [target, List.map_nil, List.nil_append, List.append_nil, Bool.false_eq_true, if_false]
  refine ⟨hp, ACall.mono hf fun r N hrN => ?_⟩
  have := hk r N (freeze h (lidsL (hget h) args)) (frzLen _ _) (Ext.freeze _ _) (fun _ hN => freeze_resv _ _ hN) hrN
  rw [frzLen] at this
  exact this
/-- Maps called -/
theorem wcall_M {n k : Nat} {f : Nat → Nat → Int} {ok : Prop} (hf : ACall P g args' [] (Q20 n k f ok)) (he : rfyL (hget h) args = args') (hp : plainL args' = true)
    (h0 : ¬ok → ∀ H', Ext h H' → (∀ N : Nat, h[N]? = some .resv → H'[N]? = some .resv) → K (St.put ⟨s, H'⟩ e (.tup [.agg [i64 0, .sl true 0 []], bl false])))
    (h1 : ok → ∀ id H', Ext h H' → (∀ N : Nat, h[N]? = some .resv → H'[N]? = some .resv) → MvR n k f (.agg [i64 n, .lsl id 0 k]) H' → K (St.put ⟨s, H'⟩ e (.tup [.agg [i64 n, .lsl id 0 k], bl true]))) : wcall P false (.lit (.func (.func g) #[] #[])) args e ⟨s, h⟩ K := by
  refine wcall_Q hf he hp fun r N F hF hx hR hQ => ?_
  have hap : ∀ M : Nat, h[M]? = some .resv → (F ++ N.map (renB (shiftρ F.length)))[M]? = some .resv := fun M hM => at_ap (hR M hM) _
  rcases hQ with ⟨hno, rfl⟩ | ⟨hok, v, rfl, hv⟩
  · exact h0 hno _ (hx.trans (Ext.app _ _)) hap
  · have h2 := hv.shift (F := F)
    obtain ⟨id, o, els, rfl, _⟩ := hv.h
    exact h1 hok (id + F.length) _ (hx.trans (Ext.app _ _)) hap h2
def QP (n : Nat) (A : List (Int × Int)) (r : AV) (H : List Blk) : Prop := ∃ id o, r = .tup [.lsl id 0 n, i64 0] ∧ H[id]? = some (.cells o false 2 (prR A))
theorem wcall_P {n : Nat} {A : List (Int × Int)} (hf : ACall P g args' [] (QP n A)) (he : rfyL (hget h) args = args') (hp : plainL args' = true)
    (hk : ∀ id o H', Ext h H' → H'[id]? = some (.cells o false 2 (prR A)) → K (St.put ⟨s, H'⟩ e (.tup [.lsl id 0 n, i64 0]))) : wcall P false (.lit (.func (.func g) #[] #[])) args e ⟨s, h⟩ K := by
  refine wcall_Q hf he hp fun r N F hF hx hR hQ => ?_
  obtain ⟨id, o, rfl, h1⟩ := hQ
  have h2 := at_shift (F := F) h1
  simp only [renB, renR_prR] at h2
  exact hk (id + F.length) o _ (hx.trans (Ext.app _ _)) h2
end
end Go.Abs
