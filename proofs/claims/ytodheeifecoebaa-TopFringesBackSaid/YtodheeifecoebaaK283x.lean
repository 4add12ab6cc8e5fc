import Derived.Test.YtodheeifecoebaaK262x
import Derived.Test.YtodheeifecoebaaK282x
set_option linter.all false
set_option linter.unusedVariables false
set_option linter.unusedSimpArgs false
set_option linter.unusedSectionVars false
namespace Go.Abs
open Go.Proofs
/-! spread: a round -/
theorem grid_set {ic ig : Nat} {w c : Int} {nil : Bool} {ph : List Int} {H : List Blk} {hl : Nat} {r : Loop} {s : List (Nat × AV)} (h : Grid ic ig w c nil ph (H.set hl (.obj .lpx))) (hh : H[hl]? = some (.obj (.lp r s))) : Grid ic ig w c nil ph H := by
  have keep : ∀ {i : Nat} {b : Blk}, (∀ o, b ≠ .obj o) → (H.set hl (.obj .lpx))[i]? = some b → H[i]? = some b := fun {i b} hb h => by
    by_cases hi : hl = i
    · subst hi
      rw [List.getElem?_set_self (List.getElem?_eq_some_iff.1 hh).1] at h
      exact (hb _ (Option.some.inj h).symm).elim
    · rwa [List.getElem?_set_ne hi] at h
  obtain ⟨⟨o, n, h3⟩, o2, n2, h4⟩ := h
  exact ⟨⟨o, n, keep (by simp) h3⟩, o2, n2, keep (by simp) h4⟩
/-- the state of a range of spread -/
structure I106 (H0 : List Blk) (it ih ifr ir N0 B : Nat) (ot nl : Bool) (w : Int) (ph : List Int) (o0 : List Nat) (p cell k : Nat) (H : List Blk) : Prop where
  i : ∃ o h fr, Sq w ph o0 p cell k o h fr ∧ Mf H0 it ih ifr ir ot nl w ph o h fr H ∧ Mq N0 it B (B + 4) (o.drop (p + 1)) H
  c : H[B]? = some (.cells true false 1 [[i64 cell]])
  g : H[B + 1]? = some (.cells true false 2 [[i64 w, ints nl ph]])
  d : H[B + 2]? = some (.cells true false 1 [[i64 cell]])
abbrev SLq106 (N0 : Nat) : List (Nat × AV) := [(2, .loc N0 0 0), (4, .loc (N0 + 2) 0 0)]
section
variable {H0 H : List Blk} {it ih ifr ir N0 B E : Nat} {ot nl : Bool} {w : Int} {ph : List Int} {o0 o : List Nat} {h fr : Nat → Int} {p cell : Nat}
theorem r106 (hl : ph.length < 1000000) (hp : okPh ph) (hw : 1 ≤ w ∧ w ≤ 1000000) (hN : N0 = H0.length) (hi : Ids N0 it ih ifr ir) {sl : List (Nat × AV)} {K : Exit → St → Prop} (hlen : H.length = B + 3) (hcell : cell < ph.length)
    (s2 : look sl 2 = .loc N0 0 0) (s4 : look sl 4 = .loc (N0 + 2) 0 0) (s5 : look sl 5 = .loc B 0 0) (s48 : look sl 48 = .clo (.func 146) [] [.loc (B + 2) 0 0, .loc (B + 1) 0 0])
    (h0 : I106 H0 it ih ifr ir N0 B ot nl w ph o0 p cell 0 (H ++ [.obj .lpx])) (hK : ∀ H', I106 H0 it ih ifr ir N0 B ot nl w ph o0 p cell (tail146 w cell ph 0).length H' → K .normal ⟨sl, H'⟩) :
    T none Try.prog muts 96 N0 (.range (.tmp 48) [49] (.reg 0 [⟨(some 6), (.mv (.tmp 49)), none, 0⟩]) c106r0) ⟨sl, H⟩ K := by
  refine T_range (gf := 146) (first := []) (cap := [.loc (B + 2) 0 0, .loc (B + 1) 0 0]) (n := (tail146 w cell ph 0).length) (E := fun k _ args => ∃ x, (tail146 w cell ph 0)[k]? = some x ∧ args = [i64 x]) (Bc := Grid (B + 2) (B + 1) w cell nl ph)
    (I106 H0 it ih ifr ir N0 B ot nl w ph o0 p cell) (fun _ _ => False) ?_ (i146 (B + 2) (B + 1) w cell nl ph hw (by omega) (by omega) _ rfl) (fun k H' hI => ⟨⟨_, _, hI.d⟩, _, _, hI.g⟩) (fun H' r s hg hh => grid_set hg hh) (fun k H' r s args he _ => he) h0 ?_ hK (fun _ _ h => h.elim)
  · show target (look sl 48) = _
    rw [s48]; rfl
  rintro k H' args hk ⟨⟨o1, h1, fr1, hs, hm, hq⟩, hc, hg, hd⟩ hlp ⟨x, hx, rfl⟩
  refine ⟨rfl, (6, i64 x) :: (49, i64 x) :: sl, rfl, fun l => ?_⟩
  have hlp' : H'[B + 3]? = some (.obj .lpx) := by rw [← hlen]; exact hlp
  refine T_onlyW (S := ⟨SL106 N0 B x, H'⟩) [2, 4, 5, 6] ?_ (k106r hl hp hN hi hx hs hm hq ⟨by omega, by omega⟩ hc _ ?_)
  · simp [St.only, get_mk, look, s2, s4, s5]
  · intro o' h' fr' τ hs' hm' hq' hsame
    refine ⟨?_, ⟨⟨o', h', fr', hs', hm', hq'⟩, ?_, ?_, ?_⟩⟩
    · show τ.heap[H.length]? = _
      rw [hlen, hsame _ (by omega) (by omega)]; exact hlp'
    · rw [hsame _ (by omega) (by omega)]; exact hc
    · rw [hsame _ (by omega) (by omega)]; exact hg
    · rw [hsame _ (by omega) (by omega)]; exact hd
set_option maxHeartbeats 8000000 in
theorem k106l (hl : ph.length < 1000000) (hp : okPh ph) (hw : 1 ≤ w ∧ w ≤ 1000000) (hN : N0 = H0.length) (hi : Ids N0 it ih ifr ir) (hs : Sp w ph o0 p o h fr)
    (hm : Mf H0 it ih ifr ir ot nl w ph o h fr H) (hq : Mq N0 it B E (o.drop p) H) (K : Exit → St → Prop)
    (hK : p < o.length → ∀ o' h' fr' (τ : St), Sp w ph o0 (p + 1) o' h' fr' → Mf H0 it ih ifr ir ot nl w ph o' h' fr' τ.heap → (∃ B E, Mq N0 it B E (o'.drop (p + 1)) τ.heap) → (τ.only [2, 4]).slots = SLq106 N0 → K .normal τ)
    (hX : o.length ≤ p → ∀ τ : St, τ.heap = H → K (.exit 0) τ) : T none Try.prog muts 96 N0 c106l1 ⟨SLq106 N0, H⟩ K := by
  obtain ⟨ql, qv, iq, i, els, q1, q2, q3, q4, q5, q6, q7⟩ := hq
  by_cases hpo : p < o.length
  · have hst := hs.start hpo
    have hmm := hm
    obtain ⟨mt, mh, mf, mr, mo⟩ := hm
    obtain ⟨hlt, hne⟩ := id hi
    generalize hce : o.getD p 0 = cell at *
    have hcn := thN_lt hst.th
    have hdl : (o.drop p).length = (o.length - p - 1) + 1 := by simp; omega
    have hdr : o.drop p = cell :: o.drop (p + 1) := by
      rw [List.drop_eq_getElem_cons hpo, ← hce, List.getD_eq_getElem?_getD, List.getElem?_eq_getElem hpo]; rfl
    have hdl2 : (o.drop (p + 1)).length = o.length - p - 1 := by simp; omega
    have hol := hs.fo.len
    rw [hdl] at q4 q6 q7
    rw [hdr] at q7
    generalize hr : o.length - p - 1 = r at *
    have hel : els.getD i [] = [i64 cell] := by
      have := congrArg (fun l => l.getD 0 []) q7
      simp [List.getD_eq_getElem?_getD] at this
      rw [List.getD_eq_getElem?_getD]; exact this
    have hel2 : (els.drop (i + 1)).take r = (o.drop (p + 1)).map fun (c : Nat) => [i64 c] := by
      have := congrArg (List.drop 1) q7
      rw [List.drop_take, List.drop_drop] at this
      simpa using this
    have lq := (List.getElem?_eq_some_iff.1 q4).1
    have li := (List.getElem?_eq_some_iff.1 q5).1
    have lv := (List.getElem?_eq_some_iff.1 qv).1
    have a1 := at_in q4
    have a2 := at_in q5
    obtain ⟨u1, u2, u3, u4⟩ := cells_sub (X := []) (H := H) rfl
    have a5 : ∀ Y v, (H ++ Y).set (N0 + 2) v = H.set (N0 + 2) v ++ Y := fun Y v => List.set_append_left _ _ lq
    -- behind the store
    have gG : ∃ G : List Blk, G = H.set (N0 + 2) (.cells true false 1 [[.lsl iq (i + 1) r]]) := ⟨_, rfl⟩
    obtain ⟨G, hG⟩ := gG
    have gl : G.length = H.length := by rw [hG]; simp
    have go : ∀ id, id ≠ N0 + 2 → G[id]? = H[id]? := fun id hid => by rw [hG, List.getElem?_set_ne (Ne.symm hid)]
    have gq : G[N0 + 2]? = some (.cells true false 1 [[.lsl iq (i + 1) r]]) := by rw [hG]; exact List.getElem?_set_self lq
    have b1 := at_in (H := G) (i := N0) (b := .cells true false 1 [[.loc it 0 0]]) (by rw [go _ (by omega)]; exact qv)
    have b2 := at_in (H := G) (i := it) (b := FoB ot w nl ph ih ifr ir) (by rw [go _ (by omega)]; exact mt)
    obtain ⟨v1, v2, v3, v4⟩ := cells_sub (X := []) (H := G) (N := H.length) gl
    have h107 := k107 w nl ph cell
    have hb1 : (if (1 : Int) ≤ ((r + 1 : Nat) : Int) then some 1 else none) = some 1 := if_pos (by omega)
    have hr1 : r + 1 - 1 = r := by omega
    have hfin : ∀ (sl : List (Nat × AV)) K, look sl 2 = .loc N0 0 0 → look sl 4 = .loc (N0 + 2) 0 0 → look sl 5 = .loc H.length 0 0 → look sl 48 = .clo (.func 146) [] [.loc (H.length + 2) 0 0, .loc (H.length + 1) 0 0] →
        (∀ H', I106 H0 it ih ifr ir N0 H.length ot nl w ph o0 p cell (tail146 w cell ph 0).length H' → K .normal ⟨sl, H'⟩) →
        T none Try.prog muts 96 N0 (.range (.tmp 48) [49] (.reg 0 [⟨(some 6), (.mv (.tmp 49)), none, 0⟩]) c106r0) ⟨sl, G ++ [.cells true false 1 [[i64 cell]], .cells true false 2 [[i64 w, ints nl ph]], .cells true false 1 [[i64 cell]]]⟩ K := fun sl K s2 s4 s5 s48 hK' => by
      refine r106 (ot := ot) hl hp hw hN hi (B := H.length) (by simp [gl]) hcn s2 s4 s5 s48 ?_ hK'
      have hin : ∀ id, id < H.length → id ≠ N0 + 2 → ((G ++ [.cells true false 1 [[i64 cell]], .cells true false 2 [[i64 w, ints nl ph]], .cells true false 1 [[i64 cell]]]) ++ [Blk.obj .lpx])[id]? = H[id]? := fun id a b => by
        rw [List.append_assoc, List.getElem?_append_left (by omega)]; exact go id b
      refine ⟨⟨o, h, fr, hst, ⟨?_, ?_, ?_, ?_, fun id hid c1 c2 c3 => ?_⟩, ⟨⟨by omega, by omega, by simp [gl]⟩, ?_, iq, i + 1, els, q1, q2, .inl (by omega), ?_, ?_, by omega, ?_⟩⟩, ?_, ?_, ?_⟩
      · rw [hin _ (by omega) (by omega)]; exact mt
      · rw [hin _ (by omega) (by omega)]; exact mh
      · rw [hin _ (by omega) (by omega)]; exact mf
      · rw [hin _ (by omega) (by omega)]; exact mr
      · rw [hin _ (by omega) (by omega)]; exact mo id hid c1 c2 c3
      · rw [hin _ (by omega) (by omega)]; exact qv
      · rw [List.append_assoc, List.getElem?_append_left (by omega), hdl2]; exact gq
      · rw [hin _ (by omega) (by omega)]; exact q5
      · rw [hdl2]; exact hel2
      · rw [List.append_assoc, v1]; rfl
      · rw [List.append_assoc, v2]; rfl
      · rw [List.append_assoc, v2]; rfl
    have hend : ∀ (sl : List (Nat × AV)) H', look sl 2 = .loc N0 0 0 → look sl 4 = .loc (N0 + 2) 0 0 → I106 H0 it ih ifr ir N0 H.length ot nl w ph o0 p cell (tail146 w cell ph 0).length H' → K .normal ⟨sl, H'⟩ := fun sl H' s2 s4 hI => by
      obtain ⟨⟨o', h', fr', hs', hm', hq'⟩, _⟩ := hI
      exact hK hpo o' h' fr' ⟨sl, H'⟩ hs'.done hm' ⟨_, _, hq'⟩ (by simp [St.only, get_mk, s2, s4])
    have hG' := hG.symm
    clear hG
    replace hfin := PLift.up hfin
    replace hend := PLift.up hend
    clear hN hK hX hst hmm mt mh mf mr mo hs hp q7 hel2 hne go gq qv hi hr hdl hdr hdl2 hce hlt
    unfold FoB at b2
    have hr0 : ((0 : Int) < ((r + 1 : Nat) : Int)) := by omega
    have hr2 : (((r + 1 : Nat) : Int) > 0) := hr0
    unfold c106l1
    repeat' (first
      | ((with_reducible refine T_calm ?_ ?_); rfl)
      | with_reducible first
        | refine T_seq ?_
        | refine T_reg ?_
        | refine T_draw ?_
        | refine T_skip ?_
        | refine T_exit ?_
        | refine T_block ?_
        | refine T_cond_t rfl ?_
        | refine T_cond_f rfl ?_
        | refine wdW_cons rfl ?_
        | (show wcall _ false (.lit (.func (.func 107) _ _)) _ _ _ _; refine wcall_fn (h107) rfl (by simp [plainL, plain, plainR, Int.toNat_natCast, Int.toNat_zero, Int.toNat_one]) ?_)
        | (show wcallX _ false (.lit (.func (.func 107) _ _)) _ _ _ _; refine wcallX_fn (h107) rfl (by simp [plainL, plain]) ?_)
        | ((first | refine T_cond rfl (fun hc => ?_) (fun hc => ?_) | refine wguard_split (fun hc => ?_) (fun hc => ?_) | refine wguardX_split (fun hc => ?_) (fun hc => ?_)) <;> have hd := hc <;> (try simp (disch := omega) only [wrapI] at hd) <;> have hs := hd <;> (try simp only [Bool.not_eq_true', Bool.not_eq_false', Bool.and_eq_true, Bool.and_eq_false_iff, Bool.or_eq_true, Bool.or_eq_false_iff, decide_eq_true_eq, decide_eq_false_iff_not, beq_iff_eq, bne_iff_ne, beq_eq_false_iff_ne, bne_eq_false_iff_eq, Bool.not_true, Bool.not_false, gt_iff_lt, ge_iff_le, Int.not_lt, Int.not_le, ne_eq, Decidable.not_not] at hd) <;> (try simp at hs))
        | refine T_ret ?_
        | refine wif_intro ?_ (fun hc => ?_)
        | refine And.intro ?_ ?_
        | intro hc
      | simp (maxSteps := 4000000) only [wops_nil, wops_cons, wstep_none, wrun_bin, wrun_load, wrun_store, wrun_faddr, wrun_iaddrS, wrun_slc, wrun_len, wrun_nilck, wrun_alloc, wrunX_load, wrunX_faddr, wrunX_nilck, wdW_nil, wstepX_none, wrunX_call, wop, aop, ev, look, put_some, put_none, writes, ores_some, ores_ite_none, ores_map, ores_bind, binV, thenK, intV, lenOf, szOk, value, cut, hget, putCells, AV.parts, isOne, toLits, mkAgg, boundOf, List.map_cons, List.map_nil, List.length_cons, List.length_nil, List.getElem?_cons_zero, List.set_cons_zero, List.take_succ_cons, List.take_zero, List.take_nil, List.drop_succ_cons, List.drop_zero, List.drop_nil, List.cons_append, List.nil_append, List.append_nil, List.append_assoc, List.replicate_zero, List.replicate_succ, List.getD_cons_zero, List.all_cons, List.all_nil, List.length_append, Option.pure_def, Option.bind_eq_bind, Option.getD_some, Option.map_some, Option.map_none, if_true, if_false, Nat.reduceEqDiff, Nat.reduceAdd, Nat.reduceLT, Nat.add_zero, Nat.zero_add, Nat.le_refl, reduceCtorEq, Bool.and_true, Bool.or_true, Bool.false_eq_true, eq_self, true_and, and_true, and_self, decide_true, beq_self_eq_true, freeze, lidsL, lids, List.flatMap_cons, List.flatMap_nil, List.all_cons, ren, renL, renR, renB, shiftρ, renR_ints, Int.toNat_zero, Int.toNat_one, *]
      | simp (disch := omega) only [getD_ints, wrapI]
      | (with_reducible show wcall _ false (.lit (.func (.func 107) _ _)) _ _ _ _; refine wcall_fn (h107) ?_ ?_ ?_; (next => simp [rfyL, rfy, hget, ints, take_rfy, Int.toNat_natCast, Int.toNat_zero, Int.toNat_one]); (next => simp [plainL, plain, plainR, Int.toNat_natCast, Int.toNat_zero, Int.toNat_one]))
      | (with_reducible show wcallX _ false (.lit (.func (.func 107) _ _)) _ _ _ _; refine wcallX_fn (h107) ?_ ?_ ?_; (next => simp [rfyL, rfy, hget, ints, take_rfy, Int.toNat_natCast, Int.toNat_zero, Int.toNat_one]); (next => simp [plainL, plain, plainR, Int.toNat_natCast, Int.toNat_zero, Int.toNat_one]))
      | omega)
    refine hfin.down _ (blockK 2 (blockK 1 K)) ?_ ?_ ?_ ?_ (fun H' hI => ?_)
    · simp [look]
    · simp [look]
    · simp [look]
    · simp [look]; omega
    · show K .normal ⟨_, H'⟩
      exact hend.down _ H' (by simp [look]) (by simp [look]) hI
  · have h0 : (o.drop p).length = 0 := by simp; omega
    rw [h0] at q4
    have hfin := PLift.up (hX (by omega))
    clear hN hK hX hm qv q7 hs hp hi
    unfold c106l1
    repeat' (first
      | ((with_reducible refine T_calm ?_ ?_); rfl)
      | with_reducible first
        | refine T_seq ?_
        | refine T_reg ?_
        | refine T_draw ?_
        | refine T_skip ?_
        | refine T_exit ?_
        | refine T_block ?_
        | refine T_cond_t rfl ?_
        | refine T_cond_f rfl ?_
        | refine wdW_cons rfl ?_
        | ((first | refine T_cond rfl (fun hc => ?_) (fun hc => ?_) | refine wguard_split (fun hc => ?_) (fun hc => ?_) | refine wguardX_split (fun hc => ?_) (fun hc => ?_)) <;> have hd := hc <;> (try simp (disch := omega) only [wrapI] at hd) <;> have hs := hd <;> (try simp only [Bool.not_eq_true', Bool.not_eq_false', Bool.and_eq_true, Bool.and_eq_false_iff, Bool.or_eq_true, Bool.or_eq_false_iff, decide_eq_true_eq, decide_eq_false_iff_not, beq_iff_eq, bne_iff_ne, beq_eq_false_iff_ne, bne_eq_false_iff_eq, Bool.not_true, Bool.not_false, gt_iff_lt, ge_iff_le, Int.not_lt, Int.not_le, ne_eq, Decidable.not_not] at hd) <;> (try simp at hs))
        | refine T_ret ?_
        | refine wif_intro ?_ (fun hc => ?_)
        | refine And.intro ?_ ?_
        | intro hc
      | simp (maxSteps := 4000000) only [wops_nil, wops_cons, wstep_none, wrun_bin, wrun_load, wrun_len, wop, aop, ev, look, put_some, writes, ores_some, ores_map, ores_bind, binV, thenK, intV, lenOf, value, cut, hget, toLits, mkAgg, List.length_cons, List.length_nil, List.take_succ_cons, List.take_nil, List.drop_zero, List.append_nil, List.replicate_zero, List.getD_cons_zero, Option.pure_def, Option.bind_eq_bind, Option.getD_some, Option.map_some, if_true, if_false, Nat.reduceEqDiff, Nat.zero_add, reduceCtorEq, Bool.false_eq_true, eq_self, *]
      | simp (disch := omega) only [getD_ints, wrapI]
      | omega)
    all_goals first | exact hfin.down _ rfl
end
end Go.Abs
