import Derived.Test.YtodheeifecoebaaK248x
set_option linter.all false
set_option linter.unusedVariables false
set_option linter.unusedSimpArgs false
set_option linter.unusedSectionVars false
namespace Go.Abs
open Go.Proofs
/-! law 3: what the calls give -/
def gZ (ml : List Int) (k s n i : Nat) : Int × Int := lowD (k * (k * ml.getD i 0 - ms (fun j => ml.getD j 0) k s n i)) (k * k)
def rot (f : Nat → Nat → Int) (k t : Nat) : Nat → Int := f (if t + 1 < k then t + 1 else 0)
theorem T_onlyZ {P : Program} {muts : List FuncId} {N b : Nat} {σ S : St} {K : Exit → St → Prop} {md : Option Nat} {ac : ACode} (ts : List Nat) (h : σ.only ts = S) (hT : T md P muts N b ac S K) : T md P muts N b ac σ K :=
  T_weak (weak_only ts) (by rw [h]; exact hT)
theorem rL_M {n k : Nat} {f : Nat → Nat → Int} {v : AV} {H : List Blk} (h : MvR n k f v H) : rfyL (hget H) [v] = [tmV n false (rwsM n k f)] := by
  simp only [rfyL, List.map_cons, List.map_nil, h.rds.six]
section
variable {ml il : List Int} {k s n : Nat} {f : Nat → Nat → Int}
theorem z21 (hk : 1 ≤ k ∧ k ≤ 12) (hks : k * s = n) (hn : 1 ≤ n ∧ n ≤ 24) (hb : ∀ t i, t < k → i < n → -100000 ≤ f t i ∧ f t i ≤ 100000) :
    ACall Try.prog 21 [tmV n false (rwsM n k f)] [] (QP n (pl (fun i => lowD (mir f k s n i) (k * k)) n)) := by
  have h := k21p (nil := false) (TmOk.rws hk hks hn hb)
  have e : pl (fun i => lowD (mir (V (rwsM n k f)) (rwsM n k f).length s n i) ((rwsM n k f).length * (rwsM n k f).length)) n = pl (fun i => lowD (mir f k s n i) (k * k)) n := by
    rw [rwsM_len]
    refine pl_congr fun i hi => ?_
    rw [mir_congr (by omega) fun t j ht hj => rwsM_V ht hj]
  rw [e] at h
  exact h
theorem z21a (m : MdOk ml il k s n) (hR : ∀ j, j < n → RG ml il j) : ACall Try.prog 21 [tmV n false (rwsM n k (fZ ml il s n))] [] (QP n (pl (gZ ml k s n) n)) := by
  have h := z21 (f := fZ ml il s n) m.hk m.hks m.hn fun t i ht hi => fZ_bd (by have := m.hn; omega) hR hi
  have e : pl (fun i => lowD (mir (fZ ml il s n) k s n i) (k * k)) n = pl (gZ ml k s n) n := pl_congr fun i hi => by
    rw [mir_mv m.hks hi]; rfl
  rw [e] at h
  exact h
theorem z21c (m : MdOk ml il k s n) (hR : ∀ j, j < n → RG ml il j) : ACall Try.prog 21 [tmV n false (rwsM n k (rot (fZ ml il s n) k))] [] (QP n (pl (fun i => gZ ml k s n ((i + n - s) % n)) n)) := by
  have hn := m.hn
  have h := z21 (f := rot (fZ ml il s n) k) m.hk m.hks m.hn fun t i ht hi => fZ_bd (by omega) hR hi
  have e : pl (fun i => lowD (mir (rot (fZ ml il s n) k) k s n i) (k * k)) n = pl (fun i => gZ ml k s n ((i + n - s) % n)) n := pl_congr fun i hi => by
    rw [mir_later (V := fZ ml il s n) (V' := rot (fZ ml il s n) k) m.hk.1 m.hks (fun t j ht hj => rfl) hi, mir_mv m.hks (Nat.mod_lt _ (by omega))]; rfl
  rw [e] at h
  exact h
theorem z22 (m : MdOk ml il k s n) (hR : ∀ j, j < n → RG ml il j) : Fn Try.prog 22 [tmV n false (rwsM n k (fZ ml il s n))] (.tup [frV (0, 1), i64 0]) [] := by
  have hn := m.hn
  have hk := m.hk
  have h := TmOk.rws (f := fZ ml il s n) m.hk m.hks m.hn fun t i ht hi => fZ_bd (by omega) hR hi
  have h2 := k22 (nil := false) h h.chk
  rw [rwsM_len] at h2
  have e : mxO (mf (V (rwsM n k (fZ ml il s n))) k s n) n k = 0 := mxO_zero k fun u j hu hj => by
    unfold mf
    rw [mir_congr (by omega) fun t i ht hi => rwsM_V ht hi, rst_congr fun t ht => rwsM_V ht hj, rwsM_V hu hj]
    exact misfit_mv m.hks hu hj
  have hkk : 1 ≤ (k : Int) * (k : Int) := by
    have h1 := Nat.mul_le_mul hk.1 hk.1
    rw [← Int.natCast_mul]; omega
  rw [e, lowD_zero hkk] at h2
  exact h2
/-- maps begun one turn later -/
theorem MvR.later {id N : Nat} {o : Bool} {els : List (List AV)} {H H' : List Blk} (hk : 1 ≤ k) (h1 : H[id]? = some (.cells o false 1 els)) (h2 : els.length = k) (h3 : ∀ j, j < k → ∃ rid, els.getD j [] = [.lsl rid 0 n] ∧ ∃ o', H[rid]? = some (.cells o' false 1 ((Abs.mk n (f j)).map fun x => [i64 x])))
    (hx : Ext H H') (o2 : Bool) (hN : H'[N]? = some (.cells o2 false 1 ((els.drop 1).take (k - 1) ++ [els.getD 0 []]))) : MvR n k (rot f k) (.agg [i64 n, .lsl N 0 k]) H' := by
  refine ⟨N, o2, _, rfl, hN, by simp [h2]; omega, fun j hj => ?_⟩
  have e : ((els.drop 1).take (k - 1) ++ [els.getD 0 []]).getD j [] = els.getD (if j + 1 < k then j + 1 else 0) [] := by
    have hl : ((els.drop 1).take (k - 1)).length = k - 1 := by simp [h2]
    rw [List.getD_eq_getElem?_getD]
    by_cases hjk : j + 1 < k
    · rw [if_pos hjk, List.getElem?_append_left (by omega), List.getElem?_take, if_pos (by omega), List.getElem?_drop, Nat.add_comm 1 j, ← List.getD_eq_getElem?_getD]
    · rw [if_neg hjk, List.getElem?_append_right (by omega), hl, show j - (k - 1) = 0 by omega]; rfl
  obtain ⟨rid, r1, o', r2⟩ := h3 (if j + 1 < k then j + 1 else 0) (by split <;> omega)
  obtain ⟨o3, r3⟩ := hx _ _ _ _ _ r2
  exact ⟨rid, by rw [e]; exact r1, o3, r3⟩
end
end Go.Abs
