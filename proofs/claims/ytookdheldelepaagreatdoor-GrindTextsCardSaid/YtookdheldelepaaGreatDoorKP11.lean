import Derived.Test.YtookdheldelepaaGreatDoorKP10x
set_option linter.all false
set_option linter.unusedVariables false
set_option linter.unusedSimpArgs false
set_option linter.unusedSectionVars false
namespace Go.Abs
open Go.Proofs
/-! the program's Parse, whole -/
theorem freeze_keep {i : Nat} : ∀ {ids : List Nat} {H : List Blk}, i ∉ ids → (freeze H ids)[i]? = H[i]?
  | [], _, _ => rfl
  | id :: r, H, h => by
    simp only [List.mem_cons, not_or] at h
    show (freeze (freeze1 H id) r)[i]? = _
    rw [freeze_keep h.2]
    unfold freeze1
    split
    · rw [List.getElem?_set_ne (Ne.symm h.1)]
    · rfl
abbrev hiV (v : AV) : Prop := v = .sl true 0 [] ∨ ∃ j n, v = .lsl j 0 n ∧ 6 ≤ j
theorem lids_lit (h : Nat → Blk) (d : Nat) (n : Int) : lids h d (i64 n) = [] := by cases d <;> rfl
theorem lids_str (h : Nat → Blk) (d : Nat) (n : ByteArray) : lids h d (strV n) = [] := by cases d <;> rfl
theorem lids_wz {H : List Blk} {v : AV} {l : List Int} {d : Nat} (h : Rds 1 H v (wz l)) (h6 : hiV v) : ∀ id ∈ lids (hget H) d v, 6 ≤ id := by
  rcases h6 with rfl | ⟨j, n, rfl, hj⟩
  · intro id hid
    cases d <;> simp [lids] at hid
  · intro id hid
    cases d with
    | zero => simp [lids] at hid
    | succ d =>
      unfold lids at hid
      rcases List.mem_cons.1 hid with rfl | hid
      · exact hj
      · exfalso
        have h1 := h.1
        unfold rfy at h1
        cases hb : hget H j with
        | cells o nn z els =>
          rw [hb] at h1 hid
          dsimp only at h1 hid
          split at h1
          · unfold wz at h1
            split at h1
            · simp only [AV.sl.injEq] at h1
              have : (els.drop 0).take n = [] := by simpa using h1.2.2
              rw [this] at hid
              simp at hid
            · simp only [ints, AV.sl.injEq] at h1
              obtain ⟨r, hr, c, hc, hid⟩ := by simpa only [List.mem_flatMap] using hid
              have h2 : r.map (rfy (hget H) 0) ∈ l.map fun x => [i64 x] := by rw [← h1.2.2]; exact List.mem_map.2 ⟨r, hr, rfl⟩
              obtain ⟨x, _, hx⟩ := List.mem_map.1 h2
              have h3 : r = [i64 x] := by
                rw [hx]
                have : r.map (rfy (hget H) 0) = r := by
                  have e : ∀ a : AV, rfy (hget H) 0 a = a := fun a => by unfold rfy; rfl
                  rw [List.map_congr_left (fun a _ => e a), List.map_id']
                exact this.symm
              rw [h3] at hc
              simp only [List.mem_singleton] at hc
              rw [hc, lids_lit] at hid
              simp at hid
          · unfold wz at h1
            split at h1 <;> simp at h1
        | _ => rw [hb] at hid; simp at hid
theorem lids_out {H : List Blk} {E : List (List AV)} {M : List Ln} {io : Nat} {o : Bool} (hE : H[io]? = some (.cells o false 2 E)) (hS : StRows H E M) (hB : ∀ r ∈ E, ∃ a v, r = [strV a, v] ∧ hiV v) : ∀ id ∈ lidsL (hget H) [.lsl io 0 M.length], id = io ∨ 6 ≤ id := by
  intro id hid
  unfold lidsL at hid
  simp only [List.flatMap_cons, List.flatMap_nil, List.append_nil] at hid
  unfold lids at hid
  rcases List.mem_cons.1 hid with rfl | hid
  · exact .inl rfl
  · right
    rw [hget_some' hE] at hid
    dsimp only at hid
    obtain ⟨r, hr, c, hc, hid⟩ := by simpa only [List.mem_flatMap] using hid
    have hrE : r ∈ E := List.mem_of_mem_drop (List.mem_of_mem_take hr)
    obtain ⟨k, hk, hkr⟩ := List.mem_iff_getElem.1 hrE
    obtain ⟨v, h1, h2⟩ := hS.2 k (by rw [← hS.1]; exact hk)
    obtain ⟨a, v', h3, h4⟩ := hB r hrE
    rw [List.getD_eq_getElem?_getD, List.getElem?_eq_getElem hk, Option.getD_some, hkr, h3] at h1
    simp only [List.cons.injEq, and_true] at h1
    obtain ⟨_, rfl⟩ := h1
    rw [h3] at hc
    simp only [List.mem_cons, List.not_mem_nil, or_false] at hc
    rcases hc with rfl | rfl
    · rw [lids_str] at hid; simp at hid
    · exact lids_wz h2 h4 id hid
theorem rds_set6 {H : List Blk} {v w : AV} {i : Nat} {x : Blk} (hi : i < 6) (h6 : hiV v) (h : Rds 1 H v w) : Rds 1 (H.set i x) v w := by
  refine ⟨?_, h.2⟩
  rw [← h.1]
  rcases h6 with rfl | ⟨j, n, rfl, hj⟩
  · rfl
  · unfold rfy
    have e : hget (H.set i x) j = hget H j := by unfold hget; rw [List.getElem?_set_ne (by omega)]
    rw [e]
    cases hget H j <;> rfl
theorem StRows.set6 {H : List Blk} {E : List (List AV)} {M : List Ln} {i : Nat} {x : Blk} (h : StRows H E M) (hB : ∀ r ∈ E, ∃ a v, r = [strV a, v] ∧ hiV v) (hi : i < 6) : StRows (H.set i x) E M := by
  refine ⟨h.1, fun k hk => ?_⟩
  obtain ⟨v, h1, h2⟩ := h.2 k hk
  refine ⟨v, h1, rds_set6 hi ?_ h2⟩
  have hkE : k < E.length := by rw [h.1]; exact hk
  obtain ⟨a, v', h3, h4⟩ := hB E[k] (List.getElem_mem hkE)
  rw [List.getD_eq_getElem?_getD, List.getElem?_eq_getElem hkE, Option.getD_some, h3] at h1
  simp only [List.cons.injEq, and_true] at h1
  rw [← h1.2]; exact h4
theorem ck8 {M : List Ln} (hl : M.length < 1000000) (hsz : ∀ x ∈ M, x.1.size < 1000000 ∧ x.2.length < 1000000) : Fn Tryz.prog 8 [stz M] (.tup [i64 (sN (M.map skz)), i64 (stE M)]) [] := by
  refine Fn.stz1 (k8 false (M.map skz) (by simpa using hl) fun k hk => ?_)
  rw [List.length_map] at hk
  have e : (M.map skz).getD k sk0 = skz (M[k]) := by
    rw [List.getD_eq_getElem?_getD, List.getElem?_map, List.getElem?_eq_getElem hk]; rfl
  rw [e]
  exact hsz _ (List.getElem_mem hk)
end Go.Abs
