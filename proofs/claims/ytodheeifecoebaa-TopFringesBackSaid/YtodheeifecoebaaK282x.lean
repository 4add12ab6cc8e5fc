import Derived.Test.YtodheeifecoebaaK281x
set_option linter.all false
set_option linter.unusedVariables false
set_option linter.unusedSimpArgs false
set_option linter.unusedSectionVars false
namespace Go.Abs
open Go.Proofs
/-! spread: a neighbour -/
theorem T_onlyW {P : Program} {muts : List FuncId} {N b : Nat} {σ S : St} {K : Exit → St → Prop} {md : Option Nat} {ac : ACode} (ts : List Nat) (h : σ.only ts = S) (hT : T md P muts N b ac S K) : T md P muts N b ac σ K :=
  T_weak (weak_only ts) (by rw [h]; exact hT)
/-- the forest in memory -/
structure Mf (H0 : List Blk) (it ih ifr ir : Nat) (ot nl : Bool) (w : Int) (ph : List Int) (o : List Nat) (h fr : Nat → Int) (H : List Blk) : Prop where
  t : H[it]? = some (FoB ot w nl ph ih ifr ir)
  h : H[ih]? = some (nB ph.length h)
  f : H[ifr]? = some (nB ph.length fr)
  r : H[ir]? = some (bB ph.length o)
  o : ∀ id, id < H0.length → id ≠ ih → id ≠ ifr → id ≠ ir → H[id]? = H0[id]?
structure Ids (N0 it ih ifr ir : Nat) : Prop where
  lt : it < N0 ∧ ih < N0 ∧ ifr < N0 ∧ ir < N0
  ne : it ≠ ih ∧ it ≠ ifr ∧ it ≠ ir ∧ ih ≠ ifr ∧ ih ≠ ir ∧ ifr ≠ ir
/-- what is still to do, in memory -/
structure Mq (N0 it B E : Nat) (Q : List Nat) (H : List Blk) : Prop where
  l : N0 + 3 ≤ B ∧ B ≤ E ∧ E ≤ H.length
  v : H[N0]? = some (.cells true false 1 [[.loc it 0 0]])
  q : ∃ iq i els, N0 < iq ∧ iq ≠ N0 + 2 ∧ (iq < B ∨ E ≤ iq) ∧ H[N0 + 2]? = some (.cells true false 1 [[.lsl iq i Q.length]]) ∧ H[iq]? = some (.cells true false 1 els) ∧ i + Q.length ≤ els.length ∧ (els.drop i).take Q.length = Q.map fun (c : Nat) => [i64 c]
section
variable {H0 H : List Blk} {it ih ifr ir N0 B E ic : Nat} {ot nl : Bool} {w : Int} {ph : List Int} {o0 o : List Nat} {h fr : Nat → Int} {p cell k : Nat} {Q : List Nat}
set_option maxHeartbeats 8000000 in
theorem k106r (hl : ph.length < 1000000) (hp : okPh ph) (hN : N0 = H0.length) (hi : Ids N0 it ih ifr ir) {x : Int} (hx : (tail146 w cell ph 0)[k]? = some x) (hs : Sq w ph o0 p cell k o h fr)
    (hm : Mf H0 it ih ifr ir ot nl w ph o h fr H) (hq : Mq N0 it B E (o.drop (p + 1)) H) (hc : B ≤ ic ∧ ic < E) (hC : H[ic]? = some (.cells true false 1 [[i64 cell]])) {md : Option Nat} {b0 : Nat} (K : Exit → St → Prop)
    (hK : ∀ o' h' fr' (τ : St), Sq w ph o0 p cell (k + 1) o' h' fr' → Mf H0 it ih ifr ir ot nl w ph o' h' fr' τ.heap → Mq N0 it B E (o'.drop (p + 1)) τ.heap → (∀ id, B ≤ id → id < E → τ.heap[id]? = H[id]?) → K .normal τ) :
    T md Try.prog muts 96 b0 c106r0 ⟨SL106 N0 ic x, H⟩ K := by
  obtain ⟨b, rfl, he, hbn⟩ := hs.next hx
  obtain ⟨hlt, n1, n2, n3, n4, n5, n6⟩ := hi
  obtain ⟨mt, mh, mf, mr, mo⟩ := hm
  obtain ⟨ql, qv, iq, i, els, q1, q2, q3, q4, q5, q6, q7⟩ := hq
  have g4 := kn_len ph.length o
  have g5 := kn_get (o := o) hbn
  cases hbo : decide (b ∈ o) with
  | true =>
    have f := PLift.up (hK o h fr ⟨SL106 N0 ic b, H⟩ (hs.old hx (by simpa using hbo)) ⟨mt, mh, mf, mr, mo⟩ ⟨ql, qv, iq, i, els, q1, q2, q3, q4, q5, q6, q7⟩ (fun _ _ _ => rfl))
    have hK2 := PLift.up hK
    rw [hbo] at g5
    have hs1 := hs.old hx (by simpa using hbo)
    have hfin : ∀ τ : St, τ.heap = H → K .normal τ := fun τ hτ => hK2.down o h fr τ hs1 (by rw [hτ]; exact ⟨mt, mh, mf, mr, mo⟩) (by rw [hτ]; exact ⟨ql, qv, iq, i, els, q1, q2, q3, q4, q5, q6, q7⟩) (fun _ _ _ => by rw [hτ])
    replace hfin := PLift.up hfin
    clear hN hK hK2 f hs1 mo q7 hs hx he hp hbo mh mf q4 q5
    unfold FoB at mt
    unfold bB at mr
    rw [c106r0_cut]
    repeat' (first
      | ((with_reducible refine T_calm ?_ ?_); rfl)
      | with_reducible first
        | refine T_seq ?_
        | refine T_reg ?_
        | refine T_draw ?_
        | refine T_skip ?_
        | refine T_exit ?_
        | refine T_block ?_
        | refine T_cond_t rfl ?_
        | refine T_cond_f rfl ?_
        | refine wdW_cons rfl ?_
        | ((first | refine T_cond rfl (fun hc => ?_) (fun hc => ?_) | refine wguard_split (fun hc => ?_) (fun hc => ?_) | refine wguardX_split (fun hc => ?_) (fun hc => ?_)) <;> have hd := hc <;> (try simp (disch := omega) only [wrapI] at hd) <;> have hs := hd <;> (try simp only [Bool.not_eq_true', Bool.not_eq_false', Bool.and_eq_true, Bool.and_eq_false_iff, Bool.or_eq_true, Bool.or_eq_false_iff, decide_eq_true_eq, decide_eq_false_iff_not, beq_iff_eq, bne_iff_ne, beq_eq_false_iff_ne, bne_eq_false_iff_eq, Bool.not_true, Bool.not_false, gt_iff_lt, ge_iff_le, Int.not_lt, Int.not_le, ne_eq, Decidable.not_not] at hd) <;> (try simp at hs))
        | refine T_ret ?_
        | refine wif_intro ?_ (fun hc => ?_)
        | refine And.intro ?_ ?_
        | intro hc
      | simp (maxSteps := 4000000) only [wops_nil, wops_cons, wstep_none, wrun_mv, wrun_not, wrun_load, wrun_faddr, wrun_iaddrS, wrun_nilck, wop, aop, ev, look, put_some, writes, ores_some, ores_ite_none, thenK, blockK, boolV, value, cut, hget, toLits, mkAgg, List.length_cons, List.length_nil, List.take_succ_cons, List.take_nil, List.drop_succ_cons, List.drop_zero, List.append_nil, List.replicate_zero, List.getD_cons_zero, Option.getD_some, Option.map_some, if_true, if_false, Nat.reduceEqDiff, Nat.zero_add, Bool.not_true, Bool.false_eq_true, eq_self, and_true, Int.toNat_natCast, *]
      | simp (disch := omega) only [getD_ints, wrapI]
      | omega)
    all_goals first | exact hfin.down _ rfl
  | false =>
    have hbo' : b ∉ o := by simpa using hbo
    rw [hbo] at g5
    have hcn := thN_lt hs.th
    have hB : -1000000000 ≤ h cell ∧ h cell ≤ 1000000000 := by
      have h1 := hs.sp.bd cell
      have h2 := hs.sp.fo.len
      omega
    have hnew := hs.new hx hbo'
    have hpl := hs.lt
    have hol := hs.sp.fo.len
    have hdd := fun K hK => k106d (md := md) (b0 := b0) (ic := ic) hl hp (b := b) hcn hbn hB mt mh mf mr n4 n5 n6 qv hC (by omega) K hK
    have hfin : ∀ τ : St, τ.only [2, 4, 5, 6] = ⟨SL106 N0 ic b, ((H.set ir (bB ph.length (o ++ [b]))).set ifr (nB ph.length (upd fr b cell))).set ih (nB ph.length (upd h b (h cell + stN ph cell b)))⟩ →
        T md Try.prog muts 96 b0 c106r9 τ (blockK 3 K) := fun τ hτ => by
      refine T_onlyW [2, 4, 5, 6] hτ ?_
      have lr := (List.getElem?_eq_some_iff.1 mr).1
      have lf := (List.getElem?_eq_some_iff.1 mf).1
      have lh := (List.getElem?_eq_some_iff.1 mh).1
      have hlen : (((H.set ir (bB ph.length (o ++ [b]))).set ifr (nB ph.length (upd fr b cell))).set ih (nB ph.length (upd h b (h cell + stN ph cell b)))).length = H.length := by simp
      have hoth : ∀ id, id ≠ ih → id ≠ ifr → id ≠ ir → (((H.set ir (bB ph.length (o ++ [b]))).set ifr (nB ph.length (upd fr b cell))).set ih (nB ph.length (upd h b (h cell + stN ph cell b))))[id]? = H[id]? := fun id a1 a2 a3 => by
        rw [List.getElem?_set_ne (Ne.symm a1), List.getElem?_set_ne (Ne.symm a2), List.getElem?_set_ne (Ne.symm a3)]
      have gh : (((H.set ir (bB ph.length (o ++ [b]))).set ifr (nB ph.length (upd fr b cell))).set ih (nB ph.length (upd h b (h cell + stN ph cell b))))[ih]? = some (nB ph.length (upd h b (h cell + stN ph cell b))) := List.getElem?_set_self (by simpa using lh)
      have gf : (((H.set ir (bB ph.length (o ++ [b]))).set ifr (nB ph.length (upd fr b cell))).set ih (nB ph.length (upd h b (h cell + stN ph cell b))))[ifr]? = some (nB ph.length (upd fr b cell)) := by
        rw [List.getElem?_set_ne n4]; exact List.getElem?_set_self (by simpa using lf)
      have gr : (((H.set ir (bB ph.length (o ++ [b]))).set ifr (nB ph.length (upd fr b cell))).set ih (nB ph.length (upd h b (h cell + stN ph cell b))))[ir]? = some (bB ph.length (o ++ [b])) := by
        rw [List.getElem?_set_ne n5, List.getElem?_set_ne n6]; exact List.getElem?_set_self lr
      generalize ((H.set ir (bB ph.length (o ++ [b]))).set ifr (nB ph.length (upd fr b cell))).set ih (nB ph.length (upd h b (h cell + stN ph cell b))) = G at *
      have liq : iq < H.length := (List.getElem?_eq_some_iff.1 q5).1
      have lN2 : N0 + 2 < H.length := (List.getElem?_eq_some_iff.1 q4).1
      have lql : (o.drop (p + 1)).length ≤ o.length := by simp
      refine k106e (md := md) (b0 := b0) (ic := ic) (b := b) (i := i) (m := (o.drop (p + 1)).length) q6 (by omega) q2 (by rw [hoth _ (by omega) (by omega) (by omega)]; exact q4) (by rw [hoth _ (by omega) (by omega) (by omega)]; exact q5) (blockK 3 K) ?_
      rintro τ' ⟨Bk, hτ'⟩
      have hget : ∀ id, id < H.length → id ≠ iq → id ≠ N0 + 2 → τ'.heap[id]? = G[id]? := fun id hid a1 a2 => by
        rw [hτ', List.getElem?_append_left (by simp [hlen]; omega), List.getElem?_set_ne (Ne.symm a2), List.getElem?_set_ne (Ne.symm a1)]
      show K .normal τ'
      refine hK _ _ _ τ' hnew ⟨?_, ?_, ?_, ?_, fun id hid a1 a2 a3 => ?_⟩ ⟨⟨ql.1, ql.2.1, by rw [hτ']; simp [hlen]; omega⟩, ?_, G.length + 1, 0, (els.drop i).take (o.drop (p + 1)).length ++ [[i64 b]], by omega, by omega, .inr (by omega), ?_, ?_, ?_, ?_⟩ fun id a1 a2 => ?_
      · rw [hget _ (by omega) (by omega) (by omega), hoth _ n1 n2 n3]; exact mt
      · rw [hget _ (by omega) (by omega) (by omega)]; exact gh
      · rw [hget _ (by omega) (by omega) (by omega)]; exact gf
      · rw [hget _ (by omega) (by omega) (by omega)]; exact gr
      · rw [hget _ (by omega) (by omega) (by omega), hoth _ a1 a2 a3]; exact mo id hid a1 a2 a3
      · rw [hget _ (by omega) (by omega) (by omega), hoth _ (by omega) (by omega) (by omega)]; exact qv
      · rw [hτ', List.getElem?_append_left (by simp [hlen]; omega), List.getElem?_set_self (by simp [hlen]; omega), List.drop_append_of_le_length (by omega)]
        simp
      · rw [hτ', List.getElem?_append_right (by simp), List.length_set, List.length_set, show G.length + 1 - G.length = 1 by omega]; rfl
      · rw [List.drop_append_of_le_length (by omega), q7]; simp
      · rw [List.drop_append_of_le_length (by omega), List.drop_zero, q7, List.map_append]
        exact List.take_of_length_le (by simp)
      · rw [hget _ (by omega) (by omega) (by omega), hoth _ (by omega) (by omega) (by omega)]
    replace hfin := PLift.up hfin
    replace hdd := PLift.up hdd
    clear hN hK hnew mo q7 hs hx he hp hbo hbo' mh mf q4 q5
    unfold FoB at mt
    unfold bB at mr
    rw [c106r0_cut]
    repeat' (first
      | ((with_reducible refine T_calm ?_ ?_); rfl)
      | with_reducible first
        | refine T_seq ?_
        | refine T_reg ?_
        | refine T_draw ?_
        | refine T_skip ?_
        | refine T_exit ?_
        | refine T_block ?_
        | refine T_cond_t rfl ?_
        | refine T_cond_f rfl ?_
        | refine wdW_cons rfl ?_
        | ((first | refine T_cond rfl (fun hc => ?_) (fun hc => ?_) | refine wguard_split (fun hc => ?_) (fun hc => ?_) | refine wguardX_split (fun hc => ?_) (fun hc => ?_)) <;> have hd := hc <;> (try simp (disch := omega) only [wrapI] at hd) <;> have hs := hd <;> (try simp only [Bool.not_eq_true', Bool.not_eq_false', Bool.and_eq_true, Bool.and_eq_false_iff, Bool.or_eq_true, Bool.or_eq_false_iff, decide_eq_true_eq, decide_eq_false_iff_not, beq_iff_eq, bne_iff_ne, beq_eq_false_iff_ne, bne_eq_false_iff_eq, Bool.not_true, Bool.not_false, gt_iff_lt, ge_iff_le, Int.not_lt, Int.not_le, ne_eq, Decidable.not_not] at hd) <;> (try simp at hs))
        | refine T_ret ?_
        | refine wif_intro ?_ (fun hc => ?_)
        | refine And.intro ?_ ?_
        | intro hc
      | simp (maxSteps := 4000000) only [wops_nil, wops_cons, wstep_none, wrun_mv, wrun_not, wrun_load, wrun_faddr, wrun_iaddrS, wrun_nilck, wop, aop, ev, look, put_some, writes, ores_some, ores_ite_none, thenK, boolV, value, cut, hget, toLits, mkAgg, List.length_cons, List.length_nil, List.take_succ_cons, List.take_nil, List.drop_succ_cons, List.drop_zero, List.append_nil, List.replicate_zero, List.getD_cons_zero, Option.getD_some, Option.map_some, if_true, if_false, Nat.reduceEqDiff, Nat.zero_add, Bool.not_false, Bool.false_eq_true, eq_self, and_true, Int.toNat_natCast, *]
      | simp (disch := omega) only [getD_ints, wrapI]
      | omega)
    refine T_onlyW (S := ⟨SL106 N0 ic b, H⟩) [2, 4, 5, 6] (by simp [St.only, get_mk, look]) (hdd.down _ fun τ hτ => ?_)
    exact hfin.down τ hτ
end
end Go.Abs
