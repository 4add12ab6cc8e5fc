import Derived.Test.YtodheeifecoebaaK332x
set_option linter.all false
set_option linter.unusedVariables false
set_option linter.unusedSimpArgs false
set_option linter.unusedSectionVars false
namespace Go.Abs
open Go.Proofs
/-! some readings left out before -/
set_option maxHeartbeats 8000000 in
theorem k69oT {z i k : Nat} {l L : List Rd} {out : List Nat} {M : List (List Int)} (hk : k < l.length) (hl : l.length ≤ 100) (hi : i + (k + 1) = l.length) (hL : i < L.length) (hLl : L.length ≤ 100) (hz : z ≤ 40) (ho : out ≠ []) (hol : out.length ≤ 100)
    (h96 : Fn Try.prog 96 [i64 z, rdgs false (L.eraseIdx i)] (.lsl 0 0 z) (tabB M z)) (hM : Sq z M) (hg : gRd z (l.getD i rd0)) (hx : mget M (l.getD i rd0).a.toNat (l.getD i rd0).b.toNat ≤ (l.getD i rd0).hi) (hy : mget M (l.getD i rd0).b.toNat (l.getD i rd0).a.toNat ≤ -(l.getD i rd0).lo) (K : Exit → St → Prop)
    (hT : ∀ τ : St, (∃ ids : List Nat, (∀ id ∈ ids, 0 ≤ id ∧ id < τ.heap.length) ∧ ids.Nodup ∧ τ.keep 0 [0, 1, 8, 9, 10] ids = S69 z l (L.eraseIdx i) (i :: out) (k + 1)) → K .normal τ) : T none Try.prog muts 82 0 c69l0 (S69 z l L out k) K := by
  have h129 := k129 L (by omega)
  have hrl := rows4_len l
  have hrL := rows4_len L
  have g1 := rows4_get (l := l) (k := i) (by omega)
  have hil : (i : Int) < (l.length : Int) := by omega
  have eL : (L.eraseIdx i).length = L.length - 1 := by rw [List.length_eraseIdx]; split <;> omega
  have ei : (l.length : Int) - 1 - (k : Int) = (i : Int) := by omega
  have ei2 : (l.length : Int) - 1 - ((k + 1 : Nat) : Int) = (i : Int) - 1 := by omega
  have ewi : IntKind.i64.wrap ((i : Int) + 1) = ((i + 1 : Nat) : Int) := by rw [wrapI (by omega) (by omega)]; push_cast; rfl
  have ewd : IntKind.i64.wrap ((i : Int) - 1) = (i : Int) - 1 := wrapI (by omega) (by omega)
  have htab := tab_at hM.hl [Blk.cells false false 4 (rows4 L ++ [zrow]), Blk.cells true false 1 (iRw (oI out)), Blk.cells true false 4 [rrow (l.getD i rd0)], Blk.cells false false 4 (rows4 (L.eraseIdx i) ++ [zrow])]
  have ha130 := a130 (H := [Blk.cells false false 4 (rows4 L ++ [zrow]), Blk.cells true false 1 (iRw (oI out)), Blk.cells true false 4 [rrow (l.getD i rd0)], Blk.cells true false 4 (rows4 L)]) (id := 3) (n := L.length) (i := i) rfl rfl hL (by omega)
  have tkL : ∀ h : Nat → Blk, List.take L.length (List.map (fun r => List.map (rfy h 5) r) (rows4 L ++ [zrow])) = rows4 L := fun h => take_l4 h _ _
  have flL : ∀ h : Nat → Blk, (List.take L.length (rows4 L ++ [zrow])).flatMap (fun r => r.flatMap (lids h 5)) = [] := fun h => flat_l4 h _ _
  have hlJ : (rows4 L ++ [zrow]).length = L.length + 1 := by simp [rows4_len]
  have hol2 := (iRw_len (oI out)).trans (oI_len out)
  have htk : List.take out.length (iRw (oI out)) = iRw (oI out) := List.take_of_length_le (by omega)
  have hcons := oI_cons i out
  have hrz : ∀ ρ : Nat → Option Nat, renR ρ (rows4 L ++ [zrow]) = rows4 L ++ [zrow] := fun ρ => by rw [renR_app4, renR_rows4]; rfl
  generalize hR : l.getD i rd0 = r at *
  obtain ⟨a, b, lo, hi'⟩ := r
  unfold gRd at hg
  dsimp only at *
  have ewl : IntKind.i64.wrap (0 - lo) = -lo := by rw [wrapI (by omega) (by omega)]; omega
  have hcn : i :: out ≠ [] := by simp
  have hcl : (i :: out).length = out.length + 1 := rfl
  simp only [S69, oV, oB, J69, if_neg ho, if_neg hcn, hcl, hcons, ei, ei2] at hT ⊢
  clear hcn hcl hcons
  clear hR
  replace hT := PLift.up hT
  replace ha130 := PLift.up ha130
  replace htab := PLift.up htab
  replace h96 := PLift.up h96
  replace hM := PLift.up hM
  unfold c69l0
  repeat' (first | ((with_reducible refine T_calm ?_ ?_); rfl) | (with_reducible first | refine T_seq ?_ | refine T_reg ?_ | refine T_draw ?_ | refine T_skip ?_ | refine T_exit ?_ | refine T_block ?_ | refine T_cond_t rfl ?_ | refine T_cond_f rfl ?_ | refine wdW_cons rfl ?_ | refine T_ret ?_ | refine wif_intro ?_ (fun hc => ?_) | refine And.intro ?_ ?_ | intro hc) | simp (maxSteps := 4000000) only [wops_nil, wops_cons, wstep_none, wrun_call, wrun_mv, wrun_bin, wrun_load, wrun_store, wrun_iaddrS, wrun_alloc, wop, aop, ev, look, put_some, put_none, writes, ores_some, ores_ite_none, binV, thenK, value, cut, hget, putCells, AV.parts, isOne, toLits, mkAgg, ofValue_int, List.map_cons, List.map_nil, List.length_cons, List.length_nil, List.getElem?_cons_zero, List.getElem?_cons_succ, List.set_cons_zero, List.set_cons_succ, List.take_succ_cons, List.take_zero, List.take_nil, List.drop_succ_cons, List.drop_zero, List.drop_nil, List.cons_append, List.nil_append, List.append_nil, List.append_assoc, List.replicate_zero, List.replicate_succ, List.getD_cons_zero, List.all_cons, List.all_nil, Option.getD_some, Option.map_some, if_true, if_false, Nat.reduceEqDiff, Nat.reduceAdd, Nat.reduceLT, Nat.add_zero, Nat.zero_add, Nat.le_refl, Nat.zero_ne_one, reduceCtorEq, Bool.and_true, eq_self, true_and, and_true, and_self, decide_true, List.all_cons, Int.toNat_natCast, *] | simp (disch := omega) only [getD_ints, wrapI] | omega)
  refine wcall_fn h129 ?_ ?_ ?_
  · simp [rfyL, rfy, hget, rows4_len, mp4]
  · simp [plainL, plain, plainR_rows4]
  have hfz0 : freeze [Blk.cells (decide (k = 0)) false 4 (rows4 L ++ [zrow]), Blk.cells true false 1 (iRw (oI out)), Blk.cells true false 4 [rrow ⟨a, b, lo, hi'⟩]] (lidsL (hget [Blk.cells (decide (k = 0)) false 4 (rows4 L ++ [zrow]), Blk.cells true false 1 (iRw (oI out)), Blk.cells true false 4 [rrow ⟨a, b, lo, hi'⟩]]) [AV.lsl 0 0 L.length]) = [Blk.cells false false 4 (rows4 L ++ [zrow]), Blk.cells true false 1 (iRw (oI out)), Blk.cells true false 4 [rrow ⟨a, b, lo, hi'⟩]] := by
    have e : lidsL (hget [Blk.cells (decide (k = 0)) false 4 (rows4 L ++ [zrow]), Blk.cells true false 1 (iRw (oI out)), Blk.cells true false 4 [rrow ⟨a, b, lo, hi'⟩]]) [AV.lsl 0 0 L.length] = [0] := by
      have := flL (hget [Blk.cells (decide (k = 0)) false 4 (rows4 L ++ [zrow]), Blk.cells true false 1 (iRw (oI out)), Blk.cells true false 4 [rrow ⟨a, b, lo, hi'⟩]])
      simp only [lidsL, List.flatMap_cons, List.flatMap_nil, List.append_nil]
      simp [lids, hget]
      simpa [hget] using this
    rw [e]
    simp only [freeze]
    exact fz0 _ _ _ _ _
  rw [hfz0]
  repeat' (first | ((with_reducible refine T_calm ?_ ?_); rfl) | (with_reducible first | refine T_seq ?_ | refine T_reg ?_ | refine T_draw ?_ | refine T_skip ?_ | refine T_exit ?_ | refine T_block ?_ | refine T_cond_t rfl ?_ | refine T_cond_f rfl ?_ | refine wdW_cons rfl ?_ | refine T_ret ?_ | refine wif_intro ?_ (fun hc => ?_) | refine And.intro ?_ ?_ | intro hc) | simp (maxSteps := 4000000) only [wops_cons, wstep_none, wrun_call, wrun_mv, wrun_bin, wop, aop, ev, look, put_some, writes, ores_some, binV, List.map_cons, List.map_nil, List.length_cons, List.length_nil, List.cons_append, List.nil_append, Option.map_some, if_true, if_false, Nat.reduceEqDiff, Nat.reduceAdd, Nat.zero_add, reduceCtorEq, eq_self, ren, renB, shiftρ, renR_rows4, *] | simp (disch := omega) only [getD_ints, wrapI] | omega)
  refine wcall_raw (ha130.down.mono fun r H' hr => ?_)
  obtain ⟨rfl, rfl⟩ := hr
  have tk : ∀ h : Nat → Blk, List.take (L.length - 1) (List.map (fun r => List.map (rfy h 5) r) (rows4 (L.eraseIdx i) ++ [zrow])) = rows4 (L.eraseIdx i) := fun h => by rw [← eL]; exact take_l4 h _ _
  have fl : ∀ h : Nat → Blk, (List.take (L.length - 1) (rows4 (L.eraseIdx i) ++ [zrow])).flatMap (fun r => r.flatMap (lids h 5)) = [] := fun h => by rw [← eL]; exact flat_l4 h _ _
  have hre : (rows4 (L.eraseIdx i)).length = L.length - 1 := by rw [rows4_len, eL]
  repeat' (first | ((with_reducible refine T_calm ?_ ?_); rfl) | (with_reducible first | refine T_seq ?_ | refine T_reg ?_ | refine T_draw ?_ | refine T_skip ?_ | refine T_exit ?_ | refine T_block ?_ | refine T_cond_t rfl ?_ | refine T_cond_f rfl ?_ | refine wdW_cons rfl ?_ | refine T_ret ?_ | refine wif_intro ?_ (fun hc => ?_) | refine And.intro ?_ ?_ | intro hc) | simp (maxSteps := 4000000) only [wops_nil, wops_cons, wstep_none, wrun_call, wrun_mv, wop, aop, ev, look, put_some, writes, ores_some, thenK, List.map_cons, List.map_nil, List.length_cons, List.length_nil, List.set_cons_zero, List.set_cons_succ, List.append_nil, List.replicate_zero, if_true, if_false, Nat.reduceEqDiff, Nat.reduceAdd, Nat.zero_add, reduceCtorEq, eq_self, *] | simp (disch := omega) only [getD_ints, wrapI] | omega)
  refine wcall_fn h96.down ?_ ?_ ?_
  · simp [rfyL, rfy, hget, hre, mp4]
  · simp [plainL, plain, plainR_rows4]
  have hfz : freeze [Blk.cells false false 4 (rows4 L ++ [zrow]), Blk.cells true false 1 (iRw (oI out)), Blk.cells true false 4 [rrow ⟨a, b, lo, hi'⟩], Blk.cells true false 4 (rows4 (L.eraseIdx i) ++ [zrow])] (lidsL (hget [Blk.cells false false 4 (rows4 L ++ [zrow]), Blk.cells true false 1 (iRw (oI out)), Blk.cells true false 4 [rrow ⟨a, b, lo, hi'⟩], Blk.cells true false 4 (rows4 (L.eraseIdx i) ++ [zrow])]) [i64 ↑z, AV.lsl 3 0 (L.length - 1)]) = [Blk.cells false false 4 (rows4 L ++ [zrow]), Blk.cells true false 1 (iRw (oI out)), Blk.cells true false 4 [rrow ⟨a, b, lo, hi'⟩], Blk.cells false false 4 (rows4 (L.eraseIdx i) ++ [zrow])] := by
    have e : lidsL (hget [Blk.cells false false 4 (rows4 L ++ [zrow]), Blk.cells true false 1 (iRw (oI out)), Blk.cells true false 4 [rrow ⟨a, b, lo, hi'⟩], Blk.cells true false 4 (rows4 (L.eraseIdx i) ++ [zrow])]) [i64 ↑z, AV.lsl 3 0 (L.length - 1)] = [3] := by
      have := fl (hget [Blk.cells false false 4 (rows4 L ++ [zrow]), Blk.cells true false 1 (iRw (oI out)), Blk.cells true false 4 [rrow ⟨a, b, lo, hi'⟩], Blk.cells true false 4 (rows4 (L.eraseIdx i) ++ [zrow])])
      simp only [lidsL, List.flatMap_cons, List.flatMap_nil, List.append_nil]
      simp [lids, hget]
      simpa [hget] using this
    rw [e]
    simp only [freeze]
    exact fz3 _ _ _ _ _ _ _ _
  rw [hfz]
  obtain ⟨w1, hT1⟩ := htab.down.t
  obtain ⟨w2, hT2⟩ := htab.down.r a.toNat (by omega)
  obtain ⟨w3, hT3⟩ := htab.down.r b.toNat (by omega)
  have htl : (tabB M z).length = z + 1 := by simp [tabB, hM.down.hl]
  have hlen : ([Blk.cells false false 4 (rows4 L ++ [zrow]), Blk.cells true false 1 (iRw (oI out)), Blk.cells true false 4 [rrow ⟨a, b, lo, hi'⟩], Blk.cells false false 4 (rows4 (L.eraseIdx i) ++ [zrow])] ++ (tabB M z).map (renB (shiftρ 4))).length = 5 + z := by simp [htl]; omega
  have hp0 : ([Blk.cells false false 4 (rows4 L ++ [zrow]), Blk.cells true false 1 (iRw (oI out)), Blk.cells true false 4 [rrow ⟨a, b, lo, hi'⟩], Blk.cells false false 4 (rows4 (L.eraseIdx i) ++ [zrow])] ++ (tabB M z).map (renB (shiftρ 4)))[0]? = some (Blk.cells false false 4 (rows4 L ++ [zrow])) := rfl
  have hpo : ([Blk.cells false false 4 (rows4 L ++ [zrow]), Blk.cells true false 1 (iRw (oI out)), Blk.cells true false 4 [rrow ⟨a, b, lo, hi'⟩], Blk.cells false false 4 (rows4 (L.eraseIdx i) ++ [zrow])] ++ (tabB M z).map (renB (shiftρ 4)))[1]? = some (Blk.cells true false 1 (iRw (oI out))) := rfl
  have hp1 : ([Blk.cells false false 4 (rows4 L ++ [zrow]), Blk.cells true false 1 (iRw (oI out)), Blk.cells true false 4 [rrow ⟨a, b, lo, hi'⟩], Blk.cells false false 4 (rows4 (L.eraseIdx i) ++ [zrow])] ++ (tabB M z).map (renB (shiftρ 4)))[2]? = some (Blk.cells true false 4 [rrow ⟨a, b, lo, hi'⟩]) := rfl
  have hp2 : ([Blk.cells false false 4 (rows4 L ++ [zrow]), Blk.cells true false 1 (iRw (oI out)), Blk.cells true false 4 [rrow ⟨a, b, lo, hi'⟩], Blk.cells false false 4 (rows4 (L.eraseIdx i) ++ [zrow])] ++ (tabB M z).map (renB (shiftρ 4)))[3]? = some (Blk.cells false false 4 (rows4 (L.eraseIdx i) ++ [zrow])) := rfl
  simp only [List.length_cons, List.length_nil, Nat.zero_add] at hT1 hT2 hT3 ⊢
  generalize ([Blk.cells false false 4 (rows4 L ++ [zrow]), Blk.cells true false 1 (iRw (oI out)), Blk.cells true false 4 [rrow ⟨a, b, lo, hi'⟩], Blk.cells false false 4 (rows4 (L.eraseIdx i) ++ [zrow])] ++ (tabB M z).map (renB (shiftρ 4))) = H at *
  have gA : ((List.range z).map fun i => [AV.lsl (4 + 1 + i) 0 z]).getD a.toNat [] = [AV.lsl (4 + 1 + a.toNat) 0 z] := by simp [List.getD_eq_getElem?_getD, show a.toNat < z by omega]
  have gB : ((List.range z).map fun i => [AV.lsl (4 + 1 + i) 0 z]).getD b.toNat [] = [AV.lsl (4 + 1 + b.toNat) 0 z] := by simp [List.getD_eq_getElem?_getD, show b.toNat < z by omega]
  have rA := hM.down.hr a.toNat (by omega)
  have rB := hM.down.hr b.toNat (by omega)
  have gX : ((M.getD a.toNat []).map fun x => [i64 x]).getD b.toNat [] = [i64 (mget M a.toNat b.toNat)] := getD_ints (by omega)
  have gY : ((M.getD b.toNat []).map fun x => [i64 x]).getD a.toNat [] = [i64 (mget M b.toNat a.toNat)] := getD_ints (by omega)
  have lT : ((List.range z).map fun i => [AV.lsl (4 + 1 + i) 0 z]).length = z := by simp
  have lX : ((M.getD a.toNat []).map fun x => [i64 x]).length = z := by rw [List.length_map, rA]
  have lY : ((M.getD b.toNat []).map fun x => [i64 x]).length = z := by rw [List.length_map, rB]
  have az : a < (z : Int) := by omega
  have bz : b < (z : Int) := by omega
  have a0 : 0 ≤ a := by omega
  have b0 : 0 ≤ b := by omega
  have d1 : decide (mget M a.toNat b.toNat ≤ hi') = true := decide_eq_true hx
  have d2 : decide (mget M b.toNat a.toNat ≤ -lo) = true := decide_eq_true hy
  obtain ⟨u1, u2, u3, u4⟩ := cells_sub (X := []) hlen
  have v2 := at_inR hp2
  have v1 := at_inR hpo
  have hl1 : 1 < H.length := by omega
  have s1 := fun Y => set_inR hl1 Y .dead
  have hp2' : (H.set 1 .dead)[3]? = some (Blk.cells false false 4 (rows4 (L.eraseIdx i) ++ [zrow])) := by rw [List.getElem?_set_ne (by omega)]; exact hp2
  have v3 := at_inR hp2'
  have hlen' : (H.set 1 .dead).length = 5 + z := by rw [List.length_set, hlen]
  obtain ⟨y1, y2, y3, y4⟩ := cells_sub (X := []) hlen'
  clear htab hfz hre tk fl htl ha130 h96 hg hM rA rB hx hy
  generalize mget M a.toNat b.toNat = x at *
  generalize mget M b.toNat a.toNat = y at *
  generalize (M.getD a.toNat []).map (fun x => [i64 x]) = RA at *
  generalize (M.getD b.toNat []).map (fun x => [i64 x]) = RB at *
  generalize (List.range z).map (fun i => [AV.lsl (4 + 1 + i) 0 z]) = RT at *
  repeat' (first | ((with_reducible refine T_calm ?_ ?_); rfl) | (with_reducible first | refine T_seq ?_ | refine T_reg ?_ | refine T_draw ?_ | refine T_skip ?_ | refine T_exit ?_ | refine T_block ?_ | refine T_cond_t rfl ?_ | refine T_cond_f rfl ?_ | refine wdW_cons rfl ?_ | refine T_ret ?_ | refine wif_intro ?_ (fun hc => ?_) | refine And.intro ?_ ?_ | intro hc) | simp (maxSteps := 4000000) only [wops_nil, wops_cons, wstep_none, wstep_some, wguard_true, wrun_mv, wrun_pick, wrun_bin, wrun_neg, wrun_load, wrun_faddr, wrun_iaddrS, wrun_bslice, wrun_app, wop, aop, ev, look, put_some, writes, ores_some, ores_ite_none, binV, thenK, blockK, elsOf, szOk, value, cut, hget, fillA, putCells, AV.parts, isOne, mkAgg, List.flatten_cons, List.flatten_nil, rowsOf, List.map_cons, List.map_nil, List.length_cons, List.length_nil, List.getElem?_cons_zero, List.getElem?_cons_succ, List.set_cons_zero, List.set_cons_succ, List.take_succ_cons, List.take_zero, List.take_nil, List.drop_succ_cons, List.drop_zero, List.drop_nil, List.nil_append, List.append_nil, List.replicate_zero, List.replicate_succ, List.getD_cons_zero, List.all_cons, List.all_nil, List.isEmpty_cons, List.length_append, Option.getD_some, Option.map_some, if_true, if_false, Nat.reduceEqDiff, Nat.reduceAdd, Nat.add_zero, Nat.zero_add, Nat.sub_zero, Nat.mul_one, Nat.le_refl, reduceCtorEq, Bool.and_true, Bool.and_false, Bool.or_true, Bool.false_eq_true, eq_self, true_and, and_self, beq_self_eq_true, List.all_cons, ren, shiftρ, *] | simp (disch := omega) only [getD_ints, wrapI] | (with_reducible refine wdW_cons ?_ ?_; (next => simp [chk, foot, compatB, argsOf, St.get, target, ev, look, lidsL, hget, kind, AOp.isRaw, wids, wtops, tops, opds, topId, Int.toNat_natCast]; done)) | omega)
  have n1 : ¬ (3 = 5 + z + 1) := by omega
  have n2 : ¬ (5 + z + 1 = 3) := by omega
  refine hT.down _ ⟨[3, 5 + z + 1], ?_, ?_, ?_⟩
  · simp [hlen]; omega
  · simp; omega
  · simp [St.keep, get_mk, look, ren, renL, renR, renB, renO, keepρ, pos, hget, eL, n1, renR_rows4, renR_app4, oI, v3, y2, renR_iRw]
set_option maxHeartbeats 8000000 in
theorem k69oF {z i k : Nat} {l L : List Rd} {out : List Nat} {M : List (List Int)} (hk : k < l.length) (hl : l.length ≤ 100) (hi : i + (k + 1) = l.length) (hL : i < L.length) (hLl : L.length ≤ 100) (hz : z ≤ 40) (ho : out ≠ []) (hol : out.length ≤ 100)
    (h96 : Fn Try.prog 96 [i64 z, rdgs false (L.eraseIdx i)] (.lsl 0 0 z) (tabB M z)) (hM : Sq z M) (hg : gRd z (l.getD i rd0)) (hx : ¬mget M (l.getD i rd0).a.toNat (l.getD i rd0).b.toNat ≤ (l.getD i rd0).hi) (K : Exit → St → Prop)
    (hT : ∀ τ : St, (∃ ids : List Nat, (∀ id ∈ ids, 0 ≤ id ∧ id < τ.heap.length) ∧ ids.Nodup ∧ τ.keep 0 [0, 1, 8, 9, 10] ids = S69 z l L out (k + 1)) → K .normal τ) : T none Try.prog muts 82 0 c69l0 (S69 z l L out k) K := by
  have h129 := k129 L (by omega)
  have hrl := rows4_len l
  have hrL := rows4_len L
  have g1 := rows4_get (l := l) (k := i) (by omega)
  have hil : (i : Int) < (l.length : Int) := by omega
  have eL : (L.eraseIdx i).length = L.length - 1 := by rw [List.length_eraseIdx]; split <;> omega
  have ei : (l.length : Int) - 1 - (k : Int) = (i : Int) := by omega
  have ei2 : (l.length : Int) - 1 - ((k + 1 : Nat) : Int) = (i : Int) - 1 := by omega
  have ewi : IntKind.i64.wrap ((i : Int) + 1) = ((i + 1 : Nat) : Int) := by rw [wrapI (by omega) (by omega)]; push_cast; rfl
  have ewd : IntKind.i64.wrap ((i : Int) - 1) = (i : Int) - 1 := wrapI (by omega) (by omega)
  have htab := tab_at hM.hl [Blk.cells false false 4 (rows4 L ++ [zrow]), Blk.cells true false 1 (iRw (oI out)), Blk.cells true false 4 [rrow (l.getD i rd0)], Blk.cells false false 4 (rows4 (L.eraseIdx i) ++ [zrow])]
  have ha130 := a130 (H := [Blk.cells false false 4 (rows4 L ++ [zrow]), Blk.cells true false 1 (iRw (oI out)), Blk.cells true false 4 [rrow (l.getD i rd0)], Blk.cells true false 4 (rows4 L)]) (id := 3) (n := L.length) (i := i) rfl rfl hL (by omega)
  have tkL : ∀ h : Nat → Blk, List.take L.length (List.map (fun r => List.map (rfy h 5) r) (rows4 L ++ [zrow])) = rows4 L := fun h => take_l4 h _ _
  have flL : ∀ h : Nat → Blk, (List.take L.length (rows4 L ++ [zrow])).flatMap (fun r => r.flatMap (lids h 5)) = [] := fun h => flat_l4 h _ _
  have hlJ : (rows4 L ++ [zrow]).length = L.length + 1 := by simp [rows4_len]
  have hol2 := (iRw_len (oI out)).trans (oI_len out)
  have htk : List.take out.length (iRw (oI out)) = iRw (oI out) := List.take_of_length_le (by omega)
  have hcons := oI_cons i out
  have hrz : ∀ ρ : Nat → Option Nat, renR ρ (rows4 L ++ [zrow]) = rows4 L ++ [zrow] := fun ρ => by rw [renR_app4, renR_rows4]; rfl
  generalize hR : l.getD i rd0 = r at *
  obtain ⟨a, b, lo, hi'⟩ := r
  unfold gRd at hg
  dsimp only at *
  have ewl : IntKind.i64.wrap (0 - lo) = -lo := by rw [wrapI (by omega) (by omega)]; omega
  have hcn : i :: out ≠ [] := by simp
  have hcl : (i :: out).length = out.length + 1 := rfl
  simp only [S69, oV, oB, J69, if_neg ho, ei, ei2] at hT ⊢
  clear hcn hcl hcons
  clear hR
  replace hT := PLift.up hT
  replace ha130 := PLift.up ha130
  replace htab := PLift.up htab
  replace h96 := PLift.up h96
  replace hM := PLift.up hM
  unfold c69l0
  repeat' (first | ((with_reducible refine T_calm ?_ ?_); rfl) | (with_reducible first | refine T_seq ?_ | refine T_reg ?_ | refine T_draw ?_ | refine T_skip ?_ | refine T_exit ?_ | refine T_block ?_ | refine T_cond_t rfl ?_ | refine T_cond_f rfl ?_ | refine wdW_cons rfl ?_ | refine T_ret ?_ | refine wif_intro ?_ (fun hc => ?_) | refine And.intro ?_ ?_ | intro hc) | simp (maxSteps := 4000000) only [wops_nil, wops_cons, wstep_none, wrun_call, wrun_mv, wrun_bin, wrun_load, wrun_store, wrun_iaddrS, wrun_alloc, wop, aop, ev, look, put_some, put_none, writes, ores_some, ores_ite_none, binV, thenK, value, cut, hget, putCells, AV.parts, isOne, toLits, mkAgg, ofValue_int, List.map_cons, List.map_nil, List.length_cons, List.length_nil, List.getElem?_cons_zero, List.getElem?_cons_succ, List.set_cons_zero, List.set_cons_succ, List.take_succ_cons, List.take_zero, List.take_nil, List.drop_succ_cons, List.drop_zero, List.drop_nil, List.cons_append, List.nil_append, List.append_nil, List.append_assoc, List.replicate_zero, List.replicate_succ, List.getD_cons_zero, List.all_cons, List.all_nil, Option.getD_some, Option.map_some, if_true, if_false, Nat.reduceEqDiff, Nat.reduceAdd, Nat.reduceLT, Nat.add_zero, Nat.zero_add, Nat.le_refl, Nat.zero_ne_one, reduceCtorEq, Bool.and_true, eq_self, true_and, and_true, and_self, decide_true, List.all_cons, Int.toNat_natCast, *] | simp (disch := omega) only [getD_ints, wrapI] | omega)
  refine wcall_fn h129 ?_ ?_ ?_
  · simp [rfyL, rfy, hget, rows4_len, mp4]
  · simp [plainL, plain, plainR_rows4]
  have hfz0 : freeze [Blk.cells (decide (k = 0)) false 4 (rows4 L ++ [zrow]), Blk.cells true false 1 (iRw (oI out)), Blk.cells true false 4 [rrow ⟨a, b, lo, hi'⟩]] (lidsL (hget [Blk.cells (decide (k = 0)) false 4 (rows4 L ++ [zrow]), Blk.cells true false 1 (iRw (oI out)), Blk.cells true false 4 [rrow ⟨a, b, lo, hi'⟩]]) [AV.lsl 0 0 L.length]) = [Blk.cells false false 4 (rows4 L ++ [zrow]), Blk.cells true false 1 (iRw (oI out)), Blk.cells true false 4 [rrow ⟨a, b, lo, hi'⟩]] := by
    have e : lidsL (hget [Blk.cells (decide (k = 0)) false 4 (rows4 L ++ [zrow]), Blk.cells true false 1 (iRw (oI out)), Blk.cells true false 4 [rrow ⟨a, b, lo, hi'⟩]]) [AV.lsl 0 0 L.length] = [0] := by
      have := flL (hget [Blk.cells (decide (k = 0)) false 4 (rows4 L ++ [zrow]), Blk.cells true false 1 (iRw (oI out)), Blk.cells true false 4 [rrow ⟨a, b, lo, hi'⟩]])
      simp only [lidsL, List.flatMap_cons, List.flatMap_nil, List.append_nil]
      simp [lids, hget]
      simpa [hget] using this
    rw [e]
    simp only [freeze]
    exact fz0 _ _ _ _ _
  rw [hfz0]
  repeat' (first | ((with_reducible refine T_calm ?_ ?_); rfl) | (with_reducible first | refine T_seq ?_ | refine T_reg ?_ | refine T_draw ?_ | refine T_skip ?_ | refine T_exit ?_ | refine T_block ?_ | refine T_cond_t rfl ?_ | refine T_cond_f rfl ?_ | refine wdW_cons rfl ?_ | refine T_ret ?_ | refine wif_intro ?_ (fun hc => ?_) | refine And.intro ?_ ?_ | intro hc) | simp (maxSteps := 4000000) only [wops_cons, wstep_none, wrun_call, wrun_mv, wrun_bin, wop, aop, ev, look, put_some, writes, ores_some, binV, List.map_cons, List.map_nil, List.length_cons, List.length_nil, List.cons_append, List.nil_append, Option.map_some, if_true, if_false, Nat.reduceEqDiff, Nat.reduceAdd, Nat.zero_add, reduceCtorEq, eq_self, ren, renB, shiftρ, renR_rows4, *] | simp (disch := omega) only [getD_ints, wrapI] | omega)
  refine wcall_raw (ha130.down.mono fun r H' hr => ?_)
  obtain ⟨rfl, rfl⟩ := hr
  have tk : ∀ h : Nat → Blk, List.take (L.length - 1) (List.map (fun r => List.map (rfy h 5) r) (rows4 (L.eraseIdx i) ++ [zrow])) = rows4 (L.eraseIdx i) := fun h => by rw [← eL]; exact take_l4 h _ _
  have fl : ∀ h : Nat → Blk, (List.take (L.length - 1) (rows4 (L.eraseIdx i) ++ [zrow])).flatMap (fun r => r.flatMap (lids h 5)) = [] := fun h => by rw [← eL]; exact flat_l4 h _ _
  have hre : (rows4 (L.eraseIdx i)).length = L.length - 1 := by rw [rows4_len, eL]
  repeat' (first | ((with_reducible refine T_calm ?_ ?_); rfl) | (with_reducible first | refine T_seq ?_ | refine T_reg ?_ | refine T_draw ?_ | refine T_skip ?_ | refine T_exit ?_ | refine T_block ?_ | refine T_cond_t rfl ?_ | refine T_cond_f rfl ?_ | refine wdW_cons rfl ?_ | refine T_ret ?_ | refine wif_intro ?_ (fun hc => ?_) | refine And.intro ?_ ?_ | intro hc) | simp (maxSteps := 4000000) only [wops_nil, wops_cons, wstep_none, wrun_call, wrun_mv, wop, aop, ev, look, put_some, writes, ores_some, thenK, List.map_cons, List.map_nil, List.length_cons, List.length_nil, List.set_cons_zero, List.set_cons_succ, List.append_nil, List.replicate_zero, if_true, if_false, Nat.reduceEqDiff, Nat.reduceAdd, Nat.zero_add, reduceCtorEq, eq_self, *] | simp (disch := omega) only [getD_ints, wrapI] | omega)
  refine wcall_fn h96.down ?_ ?_ ?_
  · simp [rfyL, rfy, hget, hre, mp4]
  · simp [plainL, plain, plainR_rows4]
  have hfz : freeze [Blk.cells false false 4 (rows4 L ++ [zrow]), Blk.cells true false 1 (iRw (oI out)), Blk.cells true false 4 [rrow ⟨a, b, lo, hi'⟩], Blk.cells true false 4 (rows4 (L.eraseIdx i) ++ [zrow])] (lidsL (hget [Blk.cells false false 4 (rows4 L ++ [zrow]), Blk.cells true false 1 (iRw (oI out)), Blk.cells true false 4 [rrow ⟨a, b, lo, hi'⟩], Blk.cells true false 4 (rows4 (L.eraseIdx i) ++ [zrow])]) [i64 ↑z, AV.lsl 3 0 (L.length - 1)]) = [Blk.cells false false 4 (rows4 L ++ [zrow]), Blk.cells true false 1 (iRw (oI out)), Blk.cells true false 4 [rrow ⟨a, b, lo, hi'⟩], Blk.cells false false 4 (rows4 (L.eraseIdx i) ++ [zrow])] := by
    have e : lidsL (hget [Blk.cells false false 4 (rows4 L ++ [zrow]), Blk.cells true false 1 (iRw (oI out)), Blk.cells true false 4 [rrow ⟨a, b, lo, hi'⟩], Blk.cells true false 4 (rows4 (L.eraseIdx i) ++ [zrow])]) [i64 ↑z, AV.lsl 3 0 (L.length - 1)] = [3] := by
      have := fl (hget [Blk.cells false false 4 (rows4 L ++ [zrow]), Blk.cells true false 1 (iRw (oI out)), Blk.cells true false 4 [rrow ⟨a, b, lo, hi'⟩], Blk.cells true false 4 (rows4 (L.eraseIdx i) ++ [zrow])])
      simp only [lidsL, List.flatMap_cons, List.flatMap_nil, List.append_nil]
      simp [lids, hget]
      simpa [hget] using this
    rw [e]
    simp only [freeze]
    exact fz3 _ _ _ _ _ _ _ _
  rw [hfz]
  obtain ⟨w1, hT1⟩ := htab.down.t
  obtain ⟨w2, hT2⟩ := htab.down.r a.toNat (by omega)
  obtain ⟨w3, hT3⟩ := htab.down.r b.toNat (by omega)
  have htl : (tabB M z).length = z + 1 := by simp [tabB, hM.down.hl]
  have hlen : ([Blk.cells false false 4 (rows4 L ++ [zrow]), Blk.cells true false 1 (iRw (oI out)), Blk.cells true false 4 [rrow ⟨a, b, lo, hi'⟩], Blk.cells false false 4 (rows4 (L.eraseIdx i) ++ [zrow])] ++ (tabB M z).map (renB (shiftρ 4))).length = 5 + z := by simp [htl]; omega
  have hp0 : ([Blk.cells false false 4 (rows4 L ++ [zrow]), Blk.cells true false 1 (iRw (oI out)), Blk.cells true false 4 [rrow ⟨a, b, lo, hi'⟩], Blk.cells false false 4 (rows4 (L.eraseIdx i) ++ [zrow])] ++ (tabB M z).map (renB (shiftρ 4)))[0]? = some (Blk.cells false false 4 (rows4 L ++ [zrow])) := rfl
  have hpo : ([Blk.cells false false 4 (rows4 L ++ [zrow]), Blk.cells true false 1 (iRw (oI out)), Blk.cells true false 4 [rrow ⟨a, b, lo, hi'⟩], Blk.cells false false 4 (rows4 (L.eraseIdx i) ++ [zrow])] ++ (tabB M z).map (renB (shiftρ 4)))[1]? = some (Blk.cells true false 1 (iRw (oI out))) := rfl
  have hp1 : ([Blk.cells false false 4 (rows4 L ++ [zrow]), Blk.cells true false 1 (iRw (oI out)), Blk.cells true false 4 [rrow ⟨a, b, lo, hi'⟩], Blk.cells false false 4 (rows4 (L.eraseIdx i) ++ [zrow])] ++ (tabB M z).map (renB (shiftρ 4)))[2]? = some (Blk.cells true false 4 [rrow ⟨a, b, lo, hi'⟩]) := rfl
  have hp2 : ([Blk.cells false false 4 (rows4 L ++ [zrow]), Blk.cells true false 1 (iRw (oI out)), Blk.cells true false 4 [rrow ⟨a, b, lo, hi'⟩], Blk.cells false false 4 (rows4 (L.eraseIdx i) ++ [zrow])] ++ (tabB M z).map (renB (shiftρ 4)))[3]? = some (Blk.cells false false 4 (rows4 (L.eraseIdx i) ++ [zrow])) := rfl
  simp only [List.length_cons, List.length_nil, Nat.zero_add] at hT1 hT2 hT3 ⊢
  generalize ([Blk.cells false false 4 (rows4 L ++ [zrow]), Blk.cells true false 1 (iRw (oI out)), Blk.cells true false 4 [rrow ⟨a, b, lo, hi'⟩], Blk.cells false false 4 (rows4 (L.eraseIdx i) ++ [zrow])] ++ (tabB M z).map (renB (shiftρ 4))) = H at *
  have gA : ((List.range z).map fun i => [AV.lsl (4 + 1 + i) 0 z]).getD a.toNat [] = [AV.lsl (4 + 1 + a.toNat) 0 z] := by simp [List.getD_eq_getElem?_getD, show a.toNat < z by omega]
  have gB : ((List.range z).map fun i => [AV.lsl (4 + 1 + i) 0 z]).getD b.toNat [] = [AV.lsl (4 + 1 + b.toNat) 0 z] := by simp [List.getD_eq_getElem?_getD, show b.toNat < z by omega]
  have rA := hM.down.hr a.toNat (by omega)
  have rB := hM.down.hr b.toNat (by omega)
  have gX : ((M.getD a.toNat []).map fun x => [i64 x]).getD b.toNat [] = [i64 (mget M a.toNat b.toNat)] := getD_ints (by omega)
  have gY : ((M.getD b.toNat []).map fun x => [i64 x]).getD a.toNat [] = [i64 (mget M b.toNat a.toNat)] := getD_ints (by omega)
  have lT : ((List.range z).map fun i => [AV.lsl (4 + 1 + i) 0 z]).length = z := by simp
  have lX : ((M.getD a.toNat []).map fun x => [i64 x]).length = z := by rw [List.length_map, rA]
  have lY : ((M.getD b.toNat []).map fun x => [i64 x]).length = z := by rw [List.length_map, rB]
  have az : a < (z : Int) := by omega
  have bz : b < (z : Int) := by omega
  have a0 : 0 ≤ a := by omega
  have b0 : 0 ≤ b := by omega
  have d1 : decide (mget M a.toNat b.toNat ≤ hi') = false := decide_eq_false hx
  obtain ⟨u1, u2, u3, u4⟩ := cells_sub (X := []) hlen
  have v2 := at_inR hp2
  clear htab hfz hre tk fl htl ha130 h96 hg hM rA rB hx
  generalize mget M a.toNat b.toNat = x at *
  generalize mget M b.toNat a.toNat = y at *
  generalize (M.getD a.toNat []).map (fun x => [i64 x]) = RA at *
  generalize (M.getD b.toNat []).map (fun x => [i64 x]) = RB at *
  generalize (List.range z).map (fun i => [AV.lsl (4 + 1 + i) 0 z]) = RT at *
  repeat' (first | ((with_reducible refine T_calm ?_ ?_); rfl) | (with_reducible first | refine T_seq ?_ | refine T_reg ?_ | refine T_draw ?_ | refine T_skip ?_ | refine T_exit ?_ | refine T_block ?_ | refine T_cond_t rfl ?_ | refine T_cond_f rfl ?_ | refine wdW_cons rfl ?_ | refine T_ret ?_ | refine wif_intro ?_ (fun hc => ?_) | refine And.intro ?_ ?_ | intro hc) | simp (maxSteps := 4000000) only [wops_nil, wops_cons, wstep_none, wstep_some, wguard_ft, wrun_mv, wrun_pick, wrun_bin, wrun_load, wrun_faddr, wrun_iaddrS, wop, aop, ev, look, put_some, writes, ores_some, binV, thenK, blockK, value, cut, hget, mkAgg, List.map_cons, List.map_nil, List.length_cons, List.length_nil, List.take_succ_cons, List.take_zero, List.take_nil, List.drop_succ_cons, List.drop_zero, List.append_nil, List.replicate_zero, List.getD_cons_zero, Option.getD_some, Option.map_some, if_true, if_false, Nat.reduceEqDiff, Nat.reduceAdd, Nat.add_zero, Nat.zero_add, reduceCtorEq, Bool.false_eq_true, eq_self, and_self, ren, shiftρ, *] | simp (disch := omega) only [getD_ints, wrapI] | (with_reducible refine wdW_cons ?_ ?_; (next => simp [chk, foot, compatB, argsOf, St.get, target, ev, look, lidsL, hget, kind, AOp.isRaw, wids, wtops, tops, opds, topId, Int.toNat_natCast]; done)) | omega)
  refine hT.down _ ⟨[0, 1], ?_, ?_, ?_⟩
  · simp [hlen]; omega
  · simp
  · simp [St.keep, get_mk, look, ren, renB, renO, keepρ, pos, hget, hp0, hpo, renR_iRw, hrz, renR_rows4]
set_option maxHeartbeats 8000000 in
theorem k69oG {z i k : Nat} {l L : List Rd} {out : List Nat} {M : List (List Int)} (hk : k < l.length) (hl : l.length ≤ 100) (hi : i + (k + 1) = l.length) (hL : i < L.length) (hLl : L.length ≤ 100) (hz : z ≤ 40) (ho : out ≠ []) (hol : out.length ≤ 100)
    (h96 : Fn Try.prog 96 [i64 z, rdgs false (L.eraseIdx i)] (.lsl 0 0 z) (tabB M z)) (hM : Sq z M) (hg : gRd z (l.getD i rd0)) (hx : mget M (l.getD i rd0).a.toNat (l.getD i rd0).b.toNat ≤ (l.getD i rd0).hi) (hy : ¬mget M (l.getD i rd0).b.toNat (l.getD i rd0).a.toNat ≤ -(l.getD i rd0).lo) (K : Exit → St → Prop)
    (hT : ∀ τ : St, (∃ ids : List Nat, (∀ id ∈ ids, 0 ≤ id ∧ id < τ.heap.length) ∧ ids.Nodup ∧ τ.keep 0 [0, 1, 8, 9, 10] ids = S69 z l L out (k + 1)) → K .normal τ) : T none Try.prog muts 82 0 c69l0 (S69 z l L out k) K := by
  have h129 := k129 L (by omega)
  have hrl := rows4_len l
  have hrL := rows4_len L
  have g1 := rows4_get (l := l) (k := i) (by omega)
  have hil : (i : Int) < (l.length : Int) := by omega
  have eL : (L.eraseIdx i).length = L.length - 1 := by rw [List.length_eraseIdx]; split <;> omega
  have ei : (l.length : Int) - 1 - (k : Int) = (i : Int) := by omega
  have ei2 : (l.length : Int) - 1 - ((k + 1 : Nat) : Int) = (i : Int) - 1 := by omega
  have ewi : IntKind.i64.wrap ((i : Int) + 1) = ((i + 1 : Nat) : Int) := by rw [wrapI (by omega) (by omega)]; push_cast; rfl
  have ewd : IntKind.i64.wrap ((i : Int) - 1) = (i : Int) - 1 := wrapI (by omega) (by omega)
  have htab := tab_at hM.hl [Blk.cells false false 4 (rows4 L ++ [zrow]), Blk.cells true false 1 (iRw (oI out)), Blk.cells true false 4 [rrow (l.getD i rd0)], Blk.cells false false 4 (rows4 (L.eraseIdx i) ++ [zrow])]
  have ha130 := a130 (H := [Blk.cells false false 4 (rows4 L ++ [zrow]), Blk.cells true false 1 (iRw (oI out)), Blk.cells true false 4 [rrow (l.getD i rd0)], Blk.cells true false 4 (rows4 L)]) (id := 3) (n := L.length) (i := i) rfl rfl hL (by omega)
  have tkL : ∀ h : Nat → Blk, List.take L.length (List.map (fun r => List.map (rfy h 5) r) (rows4 L ++ [zrow])) = rows4 L := fun h => take_l4 h _ _
  have flL : ∀ h : Nat → Blk, (List.take L.length (rows4 L ++ [zrow])).flatMap (fun r => r.flatMap (lids h 5)) = [] := fun h => flat_l4 h _ _
  have hlJ : (rows4 L ++ [zrow]).length = L.length + 1 := by simp [rows4_len]
  have hol2 := (iRw_len (oI out)).trans (oI_len out)
  have htk : List.take out.length (iRw (oI out)) = iRw (oI out) := List.take_of_length_le (by omega)
  have hcons := oI_cons i out
  have hrz : ∀ ρ : Nat → Option Nat, renR ρ (rows4 L ++ [zrow]) = rows4 L ++ [zrow] := fun ρ => by rw [renR_app4, renR_rows4]; rfl
  generalize hR : l.getD i rd0 = r at *
  obtain ⟨a, b, lo, hi'⟩ := r
  unfold gRd at hg
  dsimp only at *
  have ewl : IntKind.i64.wrap (0 - lo) = -lo := by rw [wrapI (by omega) (by omega)]; omega
  have hcn : i :: out ≠ [] := by simp
  have hcl : (i :: out).length = out.length + 1 := rfl
  simp only [S69, oV, oB, J69, if_neg ho, ei, ei2] at hT ⊢
  clear hcn hcl hcons
  clear hR
  replace hT := PLift.up hT
  replace ha130 := PLift.up ha130
  replace htab := PLift.up htab
  replace h96 := PLift.up h96
  replace hM := PLift.up hM
  unfold c69l0
  repeat' (first | ((with_reducible refine T_calm ?_ ?_); rfl) | (with_reducible first | refine T_seq ?_ | refine T_reg ?_ | refine T_draw ?_ | refine T_skip ?_ | refine T_exit ?_ | refine T_block ?_ | refine T_cond_t rfl ?_ | refine T_cond_f rfl ?_ | refine wdW_cons rfl ?_ | refine T_ret ?_ | refine wif_intro ?_ (fun hc => ?_) | refine And.intro ?_ ?_ | intro hc) | simp (maxSteps := 4000000) only [wops_nil, wops_cons, wstep_none, wrun_call, wrun_mv, wrun_bin, wrun_load, wrun_store, wrun_iaddrS, wrun_alloc, wop, aop, ev, look, put_some, put_none, writes, ores_some, ores_ite_none, binV, thenK, value, cut, hget, putCells, AV.parts, isOne, toLits, mkAgg, ofValue_int, List.map_cons, List.map_nil, List.length_cons, List.length_nil, List.getElem?_cons_zero, List.getElem?_cons_succ, List.set_cons_zero, List.set_cons_succ, List.take_succ_cons, List.take_zero, List.take_nil, List.drop_succ_cons, List.drop_zero, List.drop_nil, List.cons_append, List.nil_append, List.append_nil, List.append_assoc, List.replicate_zero, List.replicate_succ, List.getD_cons_zero, List.all_cons, List.all_nil, Option.getD_some, Option.map_some, if_true, if_false, Nat.reduceEqDiff, Nat.reduceAdd, Nat.reduceLT, Nat.add_zero, Nat.zero_add, Nat.le_refl, Nat.zero_ne_one, reduceCtorEq, Bool.and_true, eq_self, true_and, and_true, and_self, decide_true, List.all_cons, Int.toNat_natCast, *] | simp (disch := omega) only [getD_ints, wrapI] | omega)
  refine wcall_fn h129 ?_ ?_ ?_
  · simp [rfyL, rfy, hget, rows4_len, mp4]
  · simp [plainL, plain, plainR_rows4]
  have hfz0 : freeze [Blk.cells (decide (k = 0)) false 4 (rows4 L ++ [zrow]), Blk.cells true false 1 (iRw (oI out)), Blk.cells true false 4 [rrow ⟨a, b, lo, hi'⟩]] (lidsL (hget [Blk.cells (decide (k = 0)) false 4 (rows4 L ++ [zrow]), Blk.cells true false 1 (iRw (oI out)), Blk.cells true false 4 [rrow ⟨a, b, lo, hi'⟩]]) [AV.lsl 0 0 L.length]) = [Blk.cells false false 4 (rows4 L ++ [zrow]), Blk.cells true false 1 (iRw (oI out)), Blk.cells true false 4 [rrow ⟨a, b, lo, hi'⟩]] := by
    have e : lidsL (hget [Blk.cells (decide (k = 0)) false 4 (rows4 L ++ [zrow]), Blk.cells true false 1 (iRw (oI out)), Blk.cells true false 4 [rrow ⟨a, b, lo, hi'⟩]]) [AV.lsl 0 0 L.length] = [0] := by
      have := flL (hget [Blk.cells (decide (k = 0)) false 4 (rows4 L ++ [zrow]), Blk.cells true false 1 (iRw (oI out)), Blk.cells true false 4 [rrow ⟨a, b, lo, hi'⟩]])
      simp only [lidsL, List.flatMap_cons, List.flatMap_nil, List.append_nil]
      simp [lids, hget]
      simpa [hget] using this
    rw [e]
    simp only [freeze]
    exact fz0 _ _ _ _ _
  rw [hfz0]
  repeat' (first | ((with_reducible refine T_calm ?_ ?_); rfl) | (with_reducible first | refine T_seq ?_ | refine T_reg ?_ | refine T_draw ?_ | refine T_skip ?_ | refine T_exit ?_ | refine T_block ?_ | refine T_cond_t rfl ?_ | refine T_cond_f rfl ?_ | refine wdW_cons rfl ?_ | refine T_ret ?_ | refine wif_intro ?_ (fun hc => ?_) | refine And.intro ?_ ?_ | intro hc) | simp (maxSteps := 4000000) only [wops_cons, wstep_none, wrun_call, wrun_mv, wrun_bin, wop, aop, ev, look, put_some, writes, ores_some, binV, List.map_cons, List.map_nil, List.length_cons, List.length_nil, List.cons_append, List.nil_append, Option.map_some, if_true, if_false, Nat.reduceEqDiff, Nat.reduceAdd, Nat.zero_add, reduceCtorEq, eq_self, ren, renB, shiftρ, renR_rows4, *] | simp (disch := omega) only [getD_ints, wrapI] | omega)
  refine wcall_raw (ha130.down.mono fun r H' hr => ?_)
  obtain ⟨rfl, rfl⟩ := hr
  have tk : ∀ h : Nat → Blk, List.take (L.length - 1) (List.map (fun r => List.map (rfy h 5) r) (rows4 (L.eraseIdx i) ++ [zrow])) = rows4 (L.eraseIdx i) := fun h => by rw [← eL]; exact take_l4 h _ _
  have fl : ∀ h : Nat → Blk, (List.take (L.length - 1) (rows4 (L.eraseIdx i) ++ [zrow])).flatMap (fun r => r.flatMap (lids h 5)) = [] := fun h => by rw [← eL]; exact flat_l4 h _ _
  have hre : (rows4 (L.eraseIdx i)).length = L.length - 1 := by rw [rows4_len, eL]
  repeat' (first | ((with_reducible refine T_calm ?_ ?_); rfl) | (with_reducible first | refine T_seq ?_ | refine T_reg ?_ | refine T_draw ?_ | refine T_skip ?_ | refine T_exit ?_ | refine T_block ?_ | refine T_cond_t rfl ?_ | refine T_cond_f rfl ?_ | refine wdW_cons rfl ?_ | refine T_ret ?_ | refine wif_intro ?_ (fun hc => ?_) | refine And.intro ?_ ?_ | intro hc) | simp (maxSteps := 4000000) only [wops_nil, wops_cons, wstep_none, wrun_call, wrun_mv, wop, aop, ev, look, put_some, writes, ores_some, thenK, List.map_cons, List.map_nil, List.length_cons, List.length_nil, List.set_cons_zero, List.set_cons_succ, List.append_nil, List.replicate_zero, if_true, if_false, Nat.reduceEqDiff, Nat.reduceAdd, Nat.zero_add, reduceCtorEq, eq_self, *] | simp (disch := omega) only [getD_ints, wrapI] | omega)
  refine wcall_fn h96.down ?_ ?_ ?_
  · simp [rfyL, rfy, hget, hre, mp4]
  · simp [plainL, plain, plainR_rows4]
  have hfz : freeze [Blk.cells false false 4 (rows4 L ++ [zrow]), Blk.cells true false 1 (iRw (oI out)), Blk.cells true false 4 [rrow ⟨a, b, lo, hi'⟩], Blk.cells true false 4 (rows4 (L.eraseIdx i) ++ [zrow])] (lidsL (hget [Blk.cells false false 4 (rows4 L ++ [zrow]), Blk.cells true false 1 (iRw (oI out)), Blk.cells true false 4 [rrow ⟨a, b, lo, hi'⟩], Blk.cells true false 4 (rows4 (L.eraseIdx i) ++ [zrow])]) [i64 ↑z, AV.lsl 3 0 (L.length - 1)]) = [Blk.cells false false 4 (rows4 L ++ [zrow]), Blk.cells true false 1 (iRw (oI out)), Blk.cells true false 4 [rrow ⟨a, b, lo, hi'⟩], Blk.cells false false 4 (rows4 (L.eraseIdx i) ++ [zrow])] := by
    have e : lidsL (hget [Blk.cells false false 4 (rows4 L ++ [zrow]), Blk.cells true false 1 (iRw (oI out)), Blk.cells true false 4 [rrow ⟨a, b, lo, hi'⟩], Blk.cells true false 4 (rows4 (L.eraseIdx i) ++ [zrow])]) [i64 ↑z, AV.lsl 3 0 (L.length - 1)] = [3] := by
      have := fl (hget [Blk.cells false false 4 (rows4 L ++ [zrow]), Blk.cells true false 1 (iRw (oI out)), Blk.cells true false 4 [rrow ⟨a, b, lo, hi'⟩], Blk.cells true false 4 (rows4 (L.eraseIdx i) ++ [zrow])])
      simp only [lidsL, List.flatMap_cons, List.flatMap_nil, List.append_nil]
      simp [lids, hget]
      simpa [hget] using this
    rw [e]
    simp only [freeze]
    exact fz3 _ _ _ _ _ _ _ _
  rw [hfz]
  obtain ⟨w1, hT1⟩ := htab.down.t
  obtain ⟨w2, hT2⟩ := htab.down.r a.toNat (by omega)
  obtain ⟨w3, hT3⟩ := htab.down.r b.toNat (by omega)
  have htl : (tabB M z).length = z + 1 := by simp [tabB, hM.down.hl]
  have hlen : ([Blk.cells false false 4 (rows4 L ++ [zrow]), Blk.cells true false 1 (iRw (oI out)), Blk.cells true false 4 [rrow ⟨a, b, lo, hi'⟩], Blk.cells false false 4 (rows4 (L.eraseIdx i) ++ [zrow])] ++ (tabB M z).map (renB (shiftρ 4))).length = 5 + z := by simp [htl]; omega
  have hp0 : ([Blk.cells false false 4 (rows4 L ++ [zrow]), Blk.cells true false 1 (iRw (oI out)), Blk.cells true false 4 [rrow ⟨a, b, lo, hi'⟩], Blk.cells false false 4 (rows4 (L.eraseIdx i) ++ [zrow])] ++ (tabB M z).map (renB (shiftρ 4)))[0]? = some (Blk.cells false false 4 (rows4 L ++ [zrow])) := rfl
  have hpo : ([Blk.cells false false 4 (rows4 L ++ [zrow]), Blk.cells true false 1 (iRw (oI out)), Blk.cells true false 4 [rrow ⟨a, b, lo, hi'⟩], Blk.cells false false 4 (rows4 (L.eraseIdx i) ++ [zrow])] ++ (tabB M z).map (renB (shiftρ 4)))[1]? = some (Blk.cells true false 1 (iRw (oI out))) := rfl
  have hp1 : ([Blk.cells false false 4 (rows4 L ++ [zrow]), Blk.cells true false 1 (iRw (oI out)), Blk.cells true false 4 [rrow ⟨a, b, lo, hi'⟩], Blk.cells false false 4 (rows4 (L.eraseIdx i) ++ [zrow])] ++ (tabB M z).map (renB (shiftρ 4)))[2]? = some (Blk.cells true false 4 [rrow ⟨a, b, lo, hi'⟩]) := rfl
  have hp2 : ([Blk.cells false false 4 (rows4 L ++ [zrow]), Blk.cells true false 1 (iRw (oI out)), Blk.cells true false 4 [rrow ⟨a, b, lo, hi'⟩], Blk.cells false false 4 (rows4 (L.eraseIdx i) ++ [zrow])] ++ (tabB M z).map (renB (shiftρ 4)))[3]? = some (Blk.cells false false 4 (rows4 (L.eraseIdx i) ++ [zrow])) := rfl
  simp only [List.length_cons, List.length_nil, Nat.zero_add] at hT1 hT2 hT3 ⊢
  generalize ([Blk.cells false false 4 (rows4 L ++ [zrow]), Blk.cells true false 1 (iRw (oI out)), Blk.cells true false 4 [rrow ⟨a, b, lo, hi'⟩], Blk.cells false false 4 (rows4 (L.eraseIdx i) ++ [zrow])] ++ (tabB M z).map (renB (shiftρ 4))) = H at *
  have gA : ((List.range z).map fun i => [AV.lsl (4 + 1 + i) 0 z]).getD a.toNat [] = [AV.lsl (4 + 1 + a.toNat) 0 z] := by simp [List.getD_eq_getElem?_getD, show a.toNat < z by omega]
  have gB : ((List.range z).map fun i => [AV.lsl (4 + 1 + i) 0 z]).getD b.toNat [] = [AV.lsl (4 + 1 + b.toNat) 0 z] := by simp [List.getD_eq_getElem?_getD, show b.toNat < z by omega]
  have rA := hM.down.hr a.toNat (by omega)
  have rB := hM.down.hr b.toNat (by omega)
  have gX : ((M.getD a.toNat []).map fun x => [i64 x]).getD b.toNat [] = [i64 (mget M a.toNat b.toNat)] := getD_ints (by omega)
  have gY : ((M.getD b.toNat []).map fun x => [i64 x]).getD a.toNat [] = [i64 (mget M b.toNat a.toNat)] := getD_ints (by omega)
  have lT : ((List.range z).map fun i => [AV.lsl (4 + 1 + i) 0 z]).length = z := by simp
  have lX : ((M.getD a.toNat []).map fun x => [i64 x]).length = z := by rw [List.length_map, rA]
  have lY : ((M.getD b.toNat []).map fun x => [i64 x]).length = z := by rw [List.length_map, rB]
  have az : a < (z : Int) := by omega
  have bz : b < (z : Int) := by omega
  have a0 : 0 ≤ a := by omega
  have b0 : 0 ≤ b := by omega
  have d1 : decide (mget M a.toNat b.toNat ≤ hi') = true := decide_eq_true hx
  have d2 : decide (mget M b.toNat a.toNat ≤ -lo) = false := decide_eq_false hy
  obtain ⟨u1, u2, u3, u4⟩ := cells_sub (X := []) hlen
  have v2 := at_inR hp2
  clear htab hfz hre tk fl htl ha130 h96 hg hM rA rB hx hy
  generalize mget M a.toNat b.toNat = x at *
  generalize mget M b.toNat a.toNat = y at *
  generalize (M.getD a.toNat []).map (fun x => [i64 x]) = RA at *
  generalize (M.getD b.toNat []).map (fun x => [i64 x]) = RB at *
  generalize (List.range z).map (fun i => [AV.lsl (4 + 1 + i) 0 z]) = RT at *
  repeat' (first | ((with_reducible refine T_calm ?_ ?_); rfl) | (with_reducible first | refine T_seq ?_ | refine T_reg ?_ | refine T_draw ?_ | refine T_skip ?_ | refine T_exit ?_ | refine T_block ?_ | refine T_cond_t rfl ?_ | refine T_cond_f rfl ?_ | refine wdW_cons rfl ?_ | refine T_ret ?_ | refine wif_intro ?_ (fun hc => ?_) | refine And.intro ?_ ?_ | intro hc) | simp (maxSteps := 4000000) only [wops_nil, wops_cons, wstep_none, wstep_some, wguard_true, wrun_mv, wrun_pick, wrun_bin, wrun_neg, wrun_load, wrun_faddr, wrun_iaddrS, wop, aop, ev, look, put_some, writes, ores_some, binV, thenK, blockK, value, cut, hget, mkAgg, List.map_cons, List.map_nil, List.length_cons, List.length_nil, List.take_succ_cons, List.take_zero, List.take_nil, List.drop_succ_cons, List.drop_zero, List.append_nil, List.replicate_zero, List.getD_cons_zero, Option.getD_some, Option.map_some, if_true, if_false, Nat.reduceEqDiff, Nat.reduceAdd, Nat.add_zero, Nat.zero_add, reduceCtorEq, Bool.false_eq_true, eq_self, and_self, ren, shiftρ, *] | simp (disch := omega) only [getD_ints, wrapI] | (with_reducible refine wdW_cons ?_ ?_; (next => simp [chk, foot, compatB, argsOf, St.get, target, ev, look, lidsL, hget, kind, AOp.isRaw, wids, wtops, tops, opds, topId, Int.toNat_natCast]; done)) | omega)
  refine hT.down _ ⟨[0, 1], ?_, ?_, ?_⟩
  · simp [hlen]; omega
  · simp
  · simp [St.keep, get_mk, look, ren, renB, renO, keepρ, pos, hget, hp0, hpo, renR_iRw, hrz, renR_rows4]
end Go.Abs
