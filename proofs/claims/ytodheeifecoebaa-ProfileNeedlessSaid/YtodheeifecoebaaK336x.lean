import Derived.Test.YtodheeifecoebaaK335x
set_option linter.all false
set_option linter.unusedVariables false
set_option linter.unusedSimpArgs false
set_option linter.unusedSectionVars false
namespace Go.Abs
open Go.Proofs
/-! some readings left out before -/
set_option maxHeartbeats 8000000 in
theorem k71oT {z i k : Nat} {nl : Bool} {l L : List Rd} {out : List Nat} {M : List (List Int)} (hk : k < l.length) (hl : l.length ≤ 100) (hi : i + (k + 1) = l.length) (hL : i < L.length) (hLl : L.length ≤ 100) (hz : z ≤ 40) (ho : out ≠ []) (hol : out.length ≤ 100)
    (h70 : Fn Try.prog 70 [i64 z, rdgs false (L.eraseIdx i)] (.tup [.lsl 0 0 z, bl true]) (tabB M z)) (hM : Sq z M) (hg : gRd z (l.getD i rd0)) (hx : mget M (l.getD i rd0).a.toNat (l.getD i rd0).b.toNat ≤ (l.getD i rd0).hi) (hy : mget M (l.getD i rd0).b.toNat (l.getD i rd0).a.toNat ≤ -(l.getD i rd0).lo) (K : Exit → St → Prop)
    (hT : ∀ τ : St, (∃ ids : List Nat, (∀ id ∈ ids, 0 ≤ id ∧ id < τ.heap.length) ∧ ids.Nodup ∧ τ.keep 0 [0, 1, 5, 6, 7] ids = S71 z nl l (L.eraseIdx i) (i :: out) (k + 1)) → K .normal τ) : T none Try.prog muts 77 0 c71l0 (S71 z nl l L out k) K := by
  have hrl := rows4_len l
  have hrL := rows4_len L
  have g1 := rows4_get (l := l) (k := i) (by omega)
  have hil : (i : Int) < (l.length : Int) := by omega
  have eL : (L.eraseIdx i).length = L.length - 1 := by rw [List.length_eraseIdx]; split <;> omega
  have ei : (l.length : Int) - 1 - (k : Int) = (i : Int) := by omega
  have ei2 : (l.length : Int) - 1 - ((k + 1 : Nat) : Int) = (i : Int) - 1 := by omega
  have ewi : IntKind.i64.wrap ((i : Int) + 1) = ((i + 1 : Nat) : Int) := by rw [wrapI (by omega) (by omega)]; push_cast; rfl
  have ewd : IntKind.i64.wrap ((i : Int) - 1) = (i : Int) - 1 := wrapI (by omega) (by omega)
  have c1 : (0 : Int) ≤ (i : Int) := by omega
  have c2 : (i : Int) ≤ (L.length : Int) := by omega
  have c3 : (0 : Int) ≤ ((i + 1 : Nat) : Int) := by omega
  have c4 : ((i + 1 : Nat) : Int) ≤ (L.length : Int) := by omega
  have c5 : i ≤ L.length := by omega
  have q1 : (rows4 (L.take i)).length = i := by rw [rows4_len, List.length_take]; omega
  have q2 : (rows4 (L.drop (i + 1))).length = L.length - (i + 1) := by rw [rows4_len, List.length_drop]
  have b1 : i * 32 ≤ 140737488355328 := by omega
  have b2 : (L.length - 1) * 32 ≤ 140737488355328 := by omega
  have qa : ∀ b : Bool, (b || ((4 : Nat) == 4)) = true := fun b => by cases b <;> rfl
  have t1 := rows4_tk L i
  have t2 := rows4_dr L (i + 1)
  have t3 := rows4_er (L := L) (i := i)
  have e5 : i + (L.length - (i + 1)) = L.length - 1 := by omega
  have k1 : List.take i (rows4 (L.take i)) = rows4 (L.take i) := List.take_of_length_le (by omega)
  have k2 : List.take (L.length - (i + 1)) (rows4 (L.drop (i + 1))) = rows4 (L.drop (i + 1)) := List.take_of_length_le (by omega)
  have htab := tab_at hM.hl [Blk.cells false false 4 (rows4 L), Blk.cells true false 1 (iRw (out.map fun i : Nat => (i : Int))), Blk.dead, Blk.dead, Blk.cells false false 4 (rows4 (L.eraseIdx i))]
  have hol2 := (iRw_len (out.map fun i : Nat => (i : Int))).trans (by simp : (out.map fun i : Nat => (i : Int)).length = out.length)
  have htk : List.take out.length (iRw (out.map fun i : Nat => (i : Int))) = iRw (out.map fun i : Nat => (i : Int)) := List.take_of_length_le (by omega)
  have b5 : (1 + out.length) * 8 ≤ 140737488355328 := by omega
  have b6 : (out.length + 1) * 8 ≤ 140737488355328 := by omega
  have e7 : 1 + out.length = out.length + 1 := by omega
  generalize hR : l.getD i rd0 = r at *
  obtain ⟨a, b, lo, hi'⟩ := r
  unfold gRd at hg
  dsimp only at *
  have ewl : IntKind.i64.wrap (0 - lo) = -lo := by rw [wrapI (by omega) (by omega)]; omega
  have hcn : i :: out ≠ [] := by simp
  have hcl : (i :: out).length = out.length + 1 := rfl
  have hcm : iRw ((i :: out).map fun i : Nat => (i : Int)) = [[i64 (i : Int)]] ++ iRw (out.map fun i : Nat => (i : Int)) := rfl
  have hd1 : decide (out = []) = false := by simpa using ho
  simp only [S71, oV, eB, if_neg ho, if_neg hcn, hcl, hcm, ei, ei2, hd1] at hT ⊢
  clear hcn hcl hcm hd1
  clear hR
  replace hT := PLift.up hT
  replace htab := PLift.up htab
  replace h70 := PLift.up h70
  replace hM := PLift.up hM
  unfold c71l0
  repeat' (first | ((with_reducible refine T_calm ?_ ?_); rfl) | (with_reducible first | refine T_seq ?_ | refine T_reg ?_ | refine T_draw ?_ | refine T_skip ?_ | refine T_exit ?_ | refine T_block ?_ | refine T_cond_t rfl ?_ | refine T_cond_f rfl ?_ | refine wdW_cons rfl ?_ | refine T_ret ?_ | refine wif_intro ?_ (fun hc => ?_) | refine And.intro ?_ ?_ | intro hc) | simp (maxSteps := 4000000) only [wops_nil, wops_cons, wstep_none, wrun_call, wrun_mv, wrun_bin, wrun_slc, wrun_bslice, wrun_app, wrunX_mv, wrunX_bin, wrunX_slc, wrunX_bslice, wrunX_app, wdW_nil, wstepX_none, wop, aop, ev, look, put_some, writes, ores_some, binV, thenK, elsOf, szOk, hget, fillA, boundOf, List.flatten_nil, rowsOf, List.map_cons, List.map_nil, List.length_cons, List.length_nil, List.getElem?_cons_zero, List.getElem?_cons_succ, List.set_cons_zero, List.set_cons_succ, List.take_nil, List.drop_zero, List.drop_nil, List.cons_append, List.nil_append, List.append_nil, List.replicate_zero, List.replicate_succ, Option.getD_some, Option.map_some, Option.map_none, Option.bind_some, if_true, if_false, Nat.reduceEqDiff, Nat.reduceAdd, Nat.add_zero, Nat.zero_add, Nat.sub_zero, Nat.sub_self, Nat.le_refl, reduceCtorEq, Bool.false_and, Bool.or_true, eq_self, true_and, and_self, decide_true, beq_self_eq_true, Int.toNat_natCast, *] | simp (disch := omega) only [getD_ints, wrapI] | (with_reducible refine wdW_cons ?_ ?_; (next => simp [chk, foot, compatB, argsOf, St.get, target, ev, look, lidsL, hget, kind, AOp.isRaw, wids, wtops, tops, opds, topId, renR_rows4, plainR_rows4, rows4_len, Int.toNat_natCast, lids]; done)) | omega)
  refine wcall_fn h70.down ?_ ?_ ?_
  · simp [rfyL, rfy, hget, mp4, rows4_len, eL]
    exact List.take_of_length_le (by rw [rows4_len, eL]; exact Nat.le_refl _)
  · simp [plainL, plain, plainR_rows4]
  have hfz : freeze [Blk.cells false false 4 (rows4 L), Blk.cells true false 1 (iRw (out.map fun i : Nat => (i : Int))), Blk.dead, Blk.dead, Blk.cells true false 4 (rows4 (L.eraseIdx i))] (lidsL (hget [Blk.cells false false 4 (rows4 L), Blk.cells true false 1 (iRw (out.map fun i : Nat => (i : Int))), Blk.dead, Blk.dead, Blk.cells true false 4 (rows4 (L.eraseIdx i))]) [i64 ↑z, AV.lsl 4 0 (L.length - 1)]) = [Blk.cells false false 4 (rows4 L), Blk.cells true false 1 (iRw (out.map fun i : Nat => (i : Int))), Blk.dead, Blk.dead, Blk.cells false false 4 (rows4 (L.eraseIdx i))] := by
    have e : lidsL (hget [Blk.cells false false 4 (rows4 L), Blk.cells true false 1 (iRw (out.map fun i : Nat => (i : Int))), Blk.dead, Blk.dead, Blk.cells true false 4 (rows4 (L.eraseIdx i))]) [i64 ↑z, AV.lsl 4 0 (L.length - 1)] = [4] := by
      have := flat_rows4' (hget [Blk.cells false false 4 (rows4 L), Blk.cells true false 1 (iRw (out.map fun i : Nat => (i : Int))), Blk.dead, Blk.dead, Blk.cells true false 4 (rows4 (L.eraseIdx i))]) (L.length - 1) (L.eraseIdx i)
      simp only [lidsL, List.flatMap_cons, List.flatMap_nil, List.append_nil]
      simp [lids, hget]
      simpa [hget] using this
    rw [e]
    simp only [freeze]
    rfl
  rw [hfz]
  obtain ⟨w1, hT1⟩ := htab.down.t
  obtain ⟨w2, hT2⟩ := htab.down.r a.toNat (by omega)
  obtain ⟨w3, hT3⟩ := htab.down.r b.toNat (by omega)
  have htl : (tabB M z).length = z + 1 := by simp [tabB, hM.down.hl]
  have hlen : ([Blk.cells false false 4 (rows4 L), Blk.cells true false 1 (iRw (out.map fun i : Nat => (i : Int))), Blk.dead, Blk.dead, Blk.cells false false 4 (rows4 (L.eraseIdx i))] ++ (tabB M z).map (renB (shiftρ 5))).length = 6 + z := by simp [htl]; omega
  have hp0 : ([Blk.cells false false 4 (rows4 L), Blk.cells true false 1 (iRw (out.map fun i : Nat => (i : Int))), Blk.dead, Blk.dead, Blk.cells false false 4 (rows4 (L.eraseIdx i))] ++ (tabB M z).map (renB (shiftρ 5)))[0]? = some (Blk.cells false false 4 (rows4 L)) := rfl
  have hpo : ([Blk.cells false false 4 (rows4 L), Blk.cells true false 1 (iRw (out.map fun i : Nat => (i : Int))), Blk.dead, Blk.dead, Blk.cells false false 4 (rows4 (L.eraseIdx i))] ++ (tabB M z).map (renB (shiftρ 5)))[1]? = some (Blk.cells true false 1 (iRw (out.map fun i : Nat => (i : Int)))) := rfl
  have hp2 : ([Blk.cells false false 4 (rows4 L), Blk.cells true false 1 (iRw (out.map fun i : Nat => (i : Int))), Blk.dead, Blk.dead, Blk.cells false false 4 (rows4 (L.eraseIdx i))] ++ (tabB M z).map (renB (shiftρ 5)))[4]? = some (Blk.cells false false 4 (rows4 (L.eraseIdx i))) := rfl
  simp only [List.length_cons, List.length_nil, Nat.zero_add] at hT1 hT2 hT3 ⊢
  generalize ([Blk.cells false false 4 (rows4 L), Blk.cells true false 1 (iRw (out.map fun i : Nat => (i : Int))), Blk.dead, Blk.dead, Blk.cells false false 4 (rows4 (L.eraseIdx i))] ++ (tabB M z).map (renB (shiftρ 5))) = H at *
  have gA : ((List.range z).map fun i => [AV.lsl (5 + 1 + i) 0 z]).getD a.toNat [] = [AV.lsl (5 + 1 + a.toNat) 0 z] := by simp [List.getD_eq_getElem?_getD, show a.toNat < z by omega]
  have gB : ((List.range z).map fun i => [AV.lsl (5 + 1 + i) 0 z]).getD b.toNat [] = [AV.lsl (5 + 1 + b.toNat) 0 z] := by simp [List.getD_eq_getElem?_getD, show b.toNat < z by omega]
  have rA := hM.down.hr a.toNat (by omega)
  have rB := hM.down.hr b.toNat (by omega)
  have gX : ((M.getD a.toNat []).map fun x => [i64 x]).getD b.toNat [] = [i64 (mget M a.toNat b.toNat)] := getD_ints (by omega)
  have gY : ((M.getD b.toNat []).map fun x => [i64 x]).getD a.toNat [] = [i64 (mget M b.toNat a.toNat)] := getD_ints (by omega)
  have lT : ((List.range z).map fun i => [AV.lsl (5 + 1 + i) 0 z]).length = z := by simp
  have lX : ((M.getD a.toNat []).map fun x => [i64 x]).length = z := by rw [List.length_map, rA]
  have lY : ((M.getD b.toNat []).map fun x => [i64 x]).length = z := by rw [List.length_map, rB]
  have az : a < (z : Int) := by omega
  have bz : b < (z : Int) := by omega
  have a0 : 0 ≤ a := by omega
  have b0 : 0 ≤ b := by omega
  have d1 : decide (mget M a.toNat b.toNat ≤ hi') = true := decide_eq_true hx
  have d2 : decide (mget M b.toNat a.toNat ≤ -lo) = true := decide_eq_true hy
  obtain ⟨u1, u2, u3, u4⟩ := cells_sub (X := []) hlen
  have v0 := at_inR hp0
  have u5 := fun Y => u2 Y 2
  have u6 := fun Y v => u4 Y 2 v
  have u7 : ∀ Y, (H ++ Y)[6 + z + 1 + 1]? = Y[2]? := fun Y => u2 Y 2
  have u8 : ∀ Y v, (H ++ Y).set (6 + z + 1 + 1) v = H ++ Y.set 2 v := fun Y v => u4 Y 2 v
  have h0 : ∀ Y, hget (H ++ Y) 0 = Blk.cells false false 4 (rows4 L) := fun Y => by unfold hget; rw [v0]; rfl
  have v2 := at_inR hp2
  have v1 := at_inR hpo
  have h1 : ∀ Y, hget (H ++ Y) 1 = Blk.cells true false 1 (iRw (out.map fun i : Nat => (i : Int))) := fun Y => by unfold hget; rw [v1]; rfl
  have w1' := at_inR hT1
  have w2' := at_inR hT2
  have w3' := at_inR hT3
  clear htab hfz htl h70 hg hM rA rB hx hy
  generalize mget M a.toNat b.toNat = x at *
  generalize mget M b.toNat a.toNat = y at *
  generalize (M.getD a.toNat []).map (fun x => [i64 x]) = RA at *
  generalize (M.getD b.toNat []).map (fun x => [i64 x]) = RB at *
  generalize (List.range z).map (fun i => [AV.lsl (5 + 1 + i) 0 z]) = RT at *
  repeat' (first | ((with_reducible refine T_calm ?_ ?_); rfl) | (with_reducible first | refine T_seq ?_ | refine T_reg ?_ | refine T_draw ?_ | refine T_skip ?_ | refine T_exit ?_ | refine T_block ?_ | refine T_cond_t rfl ?_ | refine T_cond_f rfl ?_ | refine wdW_cons rfl ?_ | refine T_ret ?_ | refine wif_intro ?_ (fun hc => ?_) | refine And.intro ?_ ?_ | intro hc) | simp (maxSteps := 4000000) only [wops_nil, wops_cons, wstep_none, wstep_some, wguard_true, wrun_mv, wrun_pick, wrun_bin, wrun_neg, wrun_ext, wrun_load, wrun_store, wrun_faddr, wrun_iaddrS, wrun_alloc, wrun_bslice, wrun_app, wop, aop, ev, look, put_some, put_none, writes, ores_some, binV, thenK, blockK, elsOf, szOk, value, cut, hget, fillA, putCells, AV.parts, isOne, toLits, mkAgg, ofValue_int, List.flatten_cons, List.flatten_nil, rowsOf, List.map_cons, List.map_nil, List.length_cons, List.length_nil, List.getElem?_cons_zero, List.getElem?_cons_succ, List.set_cons_zero, List.set_cons_succ, List.take_succ_cons, List.take_zero, List.take_nil, List.drop_succ_cons, List.drop_zero, List.drop_nil, List.cons_append, List.nil_append, List.append_nil, List.append_assoc, List.replicate_zero, List.replicate_succ, List.getD_cons_zero, List.all_cons, List.all_nil, List.length_append, Option.getD_some, Option.map_some, if_true, if_false, Nat.reduceEqDiff, Nat.reduceAdd, Nat.reduceLT, Nat.add_zero, Nat.zero_add, Nat.sub_zero, Nat.mul_one, Nat.le_refl, Nat.zero_ne_one, reduceCtorEq, Bool.and_true, Bool.false_and, Bool.or_true, Bool.false_eq_true, eq_self, true_and, and_self, beq_self_eq_true, List.all_cons, ren, renL, shiftρ, Int.toNat_natCast, *] | simp (disch := omega) only [getD_ints, wrapI] | (with_reducible refine wdW_cons ?_ ?_; (next => simp [chk, foot, compatB, argsOf, St.get, target, ev, look, lidsL, hget, kind, AOp.isRaw, wids, wtops, tops, opds, topId, Int.toNat_natCast, lids]; done)) | omega)
  have n1 : ¬ (4 = 6 + z + 2) := by omega
  have n2 : ¬ (6 + z + 2 = 4) := by omega
  refine hT.down _ ⟨[4, 6 + z + 2], ?_, ?_, ?_⟩
  · simp [hlen] <;> omega
  · simp <;> omega
  · simp [St.keep, get_mk, look, ren, renL, renR, renB, renO, keepρ, pos, hget, u2, v2, eL, n1, renR_rows4, renR_iRw]
    trace_state
set_option maxHeartbeats 8000000 in
theorem k71oF {z i k : Nat} {nl : Bool} {l L : List Rd} {out : List Nat} {M : List (List Int)} (hk : k < l.length) (hl : l.length ≤ 100) (hi : i + (k + 1) = l.length) (hL : i < L.length) (hLl : L.length ≤ 100) (hz : z ≤ 40) (ho : out ≠ []) (hol : out.length ≤ 100)
    (h70 : Fn Try.prog 70 [i64 z, rdgs false (L.eraseIdx i)] (.tup [.lsl 0 0 z, bl true]) (tabB M z)) (hM : Sq z M) (hg : gRd z (l.getD i rd0)) (hx : ¬mget M (l.getD i rd0).a.toNat (l.getD i rd0).b.toNat ≤ (l.getD i rd0).hi) (K : Exit → St → Prop)
    (hT : ∀ τ : St, (∃ ids : List Nat, (∀ id ∈ ids, 0 ≤ id ∧ id < τ.heap.length) ∧ ids.Nodup ∧ τ.keep 0 [0, 1, 5, 6, 7] ids = S71 z nl l L out (k + 1)) → K .normal τ) : T none Try.prog muts 77 0 c71l0 (S71 z nl l L out k) K := by
  have hrl := rows4_len l
  have hrL := rows4_len L
  have g1 := rows4_get (l := l) (k := i) (by omega)
  have hil : (i : Int) < (l.length : Int) := by omega
  have eL : (L.eraseIdx i).length = L.length - 1 := by rw [List.length_eraseIdx]; split <;> omega
  have ei : (l.length : Int) - 1 - (k : Int) = (i : Int) := by omega
  have ei2 : (l.length : Int) - 1 - ((k + 1 : Nat) : Int) = (i : Int) - 1 := by omega
  have ewi : IntKind.i64.wrap ((i : Int) + 1) = ((i + 1 : Nat) : Int) := by rw [wrapI (by omega) (by omega)]; push_cast; rfl
  have ewd : IntKind.i64.wrap ((i : Int) - 1) = (i : Int) - 1 := wrapI (by omega) (by omega)
  have c1 : (0 : Int) ≤ (i : Int) := by omega
  have c2 : (i : Int) ≤ (L.length : Int) := by omega
  have c3 : (0 : Int) ≤ ((i + 1 : Nat) : Int) := by omega
  have c4 : ((i + 1 : Nat) : Int) ≤ (L.length : Int) := by omega
  have c5 : i ≤ L.length := by omega
  have q1 : (rows4 (L.take i)).length = i := by rw [rows4_len, List.length_take]; omega
  have q2 : (rows4 (L.drop (i + 1))).length = L.length - (i + 1) := by rw [rows4_len, List.length_drop]
  have b1 : i * 32 ≤ 140737488355328 := by omega
  have b2 : (L.length - 1) * 32 ≤ 140737488355328 := by omega
  have qa : ∀ b : Bool, (b || ((4 : Nat) == 4)) = true := fun b => by cases b <;> rfl
  have t1 := rows4_tk L i
  have t2 := rows4_dr L (i + 1)
  have t3 := rows4_er (L := L) (i := i)
  have e5 : i + (L.length - (i + 1)) = L.length - 1 := by omega
  have k1 : List.take i (rows4 (L.take i)) = rows4 (L.take i) := List.take_of_length_le (by omega)
  have k2 : List.take (L.length - (i + 1)) (rows4 (L.drop (i + 1))) = rows4 (L.drop (i + 1)) := List.take_of_length_le (by omega)
  have htab := tab_at hM.hl [Blk.cells false false 4 (rows4 L), Blk.cells true false 1 (iRw (out.map fun i : Nat => (i : Int))), Blk.dead, Blk.dead, Blk.cells false false 4 (rows4 (L.eraseIdx i))]
  have hol2 := (iRw_len (out.map fun i : Nat => (i : Int))).trans (by simp : (out.map fun i : Nat => (i : Int)).length = out.length)
  have htk : List.take out.length (iRw (out.map fun i : Nat => (i : Int))) = iRw (out.map fun i : Nat => (i : Int)) := List.take_of_length_le (by omega)
  have b5 : (1 + out.length) * 8 ≤ 140737488355328 := by omega
  have b6 : (out.length + 1) * 8 ≤ 140737488355328 := by omega
  have e7 : 1 + out.length = out.length + 1 := by omega
  generalize hR : l.getD i rd0 = r at *
  obtain ⟨a, b, lo, hi'⟩ := r
  unfold gRd at hg
  dsimp only at *
  have ewl : IntKind.i64.wrap (0 - lo) = -lo := by rw [wrapI (by omega) (by omega)]; omega
  have hcn : i :: out ≠ [] := by simp
  have hcl : (i :: out).length = out.length + 1 := rfl
  have hcm : iRw ((i :: out).map fun i : Nat => (i : Int)) = [[i64 (i : Int)]] ++ iRw (out.map fun i : Nat => (i : Int)) := rfl
  have hd1 : decide (out = []) = false := by simpa using ho
  simp only [S71, oV, eB, if_neg ho, ei, ei2, hd1] at hT ⊢
  clear hcn hcl hcm hd1
  clear hR
  replace hT := PLift.up hT
  replace htab := PLift.up htab
  replace h70 := PLift.up h70
  replace hM := PLift.up hM
  unfold c71l0
  repeat' (first | ((with_reducible refine T_calm ?_ ?_); rfl) | (with_reducible first | refine T_seq ?_ | refine T_reg ?_ | refine T_draw ?_ | refine T_skip ?_ | refine T_exit ?_ | refine T_block ?_ | refine T_cond_t rfl ?_ | refine T_cond_f rfl ?_ | refine wdW_cons rfl ?_ | refine T_ret ?_ | refine wif_intro ?_ (fun hc => ?_) | refine And.intro ?_ ?_ | intro hc) | simp (maxSteps := 4000000) only [wops_nil, wops_cons, wstep_none, wrun_call, wrun_mv, wrun_bin, wrun_slc, wrun_bslice, wrun_app, wrunX_mv, wrunX_bin, wrunX_slc, wrunX_bslice, wrunX_app, wdW_nil, wstepX_none, wop, aop, ev, look, put_some, writes, ores_some, binV, thenK, elsOf, szOk, hget, fillA, boundOf, List.flatten_nil, rowsOf, List.map_cons, List.map_nil, List.length_cons, List.length_nil, List.getElem?_cons_zero, List.getElem?_cons_succ, List.set_cons_zero, List.set_cons_succ, List.take_nil, List.drop_zero, List.drop_nil, List.cons_append, List.nil_append, List.append_nil, List.replicate_zero, List.replicate_succ, Option.getD_some, Option.map_some, Option.map_none, Option.bind_some, if_true, if_false, Nat.reduceEqDiff, Nat.reduceAdd, Nat.add_zero, Nat.zero_add, Nat.sub_zero, Nat.sub_self, Nat.le_refl, reduceCtorEq, Bool.false_and, Bool.or_true, eq_self, true_and, and_self, decide_true, beq_self_eq_true, Int.toNat_natCast, *] | simp (disch := omega) only [getD_ints, wrapI] | (with_reducible refine wdW_cons ?_ ?_; (next => simp [chk, foot, compatB, argsOf, St.get, target, ev, look, lidsL, hget, kind, AOp.isRaw, wids, wtops, tops, opds, topId, renR_rows4, plainR_rows4, rows4_len, Int.toNat_natCast, lids]; done)) | omega)
  refine wcall_fn h70.down ?_ ?_ ?_
  · simp [rfyL, rfy, hget, mp4, rows4_len, eL]
    exact List.take_of_length_le (by rw [rows4_len, eL]; exact Nat.le_refl _)
  · simp [plainL, plain, plainR_rows4]
  have hfz : freeze [Blk.cells false false 4 (rows4 L), Blk.cells true false 1 (iRw (out.map fun i : Nat => (i : Int))), Blk.dead, Blk.dead, Blk.cells true false 4 (rows4 (L.eraseIdx i))] (lidsL (hget [Blk.cells false false 4 (rows4 L), Blk.cells true false 1 (iRw (out.map fun i : Nat => (i : Int))), Blk.dead, Blk.dead, Blk.cells true false 4 (rows4 (L.eraseIdx i))]) [i64 ↑z, AV.lsl 4 0 (L.length - 1)]) = [Blk.cells false false 4 (rows4 L), Blk.cells true false 1 (iRw (out.map fun i : Nat => (i : Int))), Blk.dead, Blk.dead, Blk.cells false false 4 (rows4 (L.eraseIdx i))] := by
    have e : lidsL (hget [Blk.cells false false 4 (rows4 L), Blk.cells true false 1 (iRw (out.map fun i : Nat => (i : Int))), Blk.dead, Blk.dead, Blk.cells true false 4 (rows4 (L.eraseIdx i))]) [i64 ↑z, AV.lsl 4 0 (L.length - 1)] = [4] := by
      have := flat_rows4' (hget [Blk.cells false false 4 (rows4 L), Blk.cells true false 1 (iRw (out.map fun i : Nat => (i : Int))), Blk.dead, Blk.dead, Blk.cells true false 4 (rows4 (L.eraseIdx i))]) (L.length - 1) (L.eraseIdx i)
      simp only [lidsL, List.flatMap_cons, List.flatMap_nil, List.append_nil]
      simp [lids, hget]
      simpa [hget] using this
    rw [e]
    simp only [freeze]
    rfl
  rw [hfz]
  obtain ⟨w1, hT1⟩ := htab.down.t
  obtain ⟨w2, hT2⟩ := htab.down.r a.toNat (by omega)
  obtain ⟨w3, hT3⟩ := htab.down.r b.toNat (by omega)
  have htl : (tabB M z).length = z + 1 := by simp [tabB, hM.down.hl]
  have hlen : ([Blk.cells false false 4 (rows4 L), Blk.cells true false 1 (iRw (out.map fun i : Nat => (i : Int))), Blk.dead, Blk.dead, Blk.cells false false 4 (rows4 (L.eraseIdx i))] ++ (tabB M z).map (renB (shiftρ 5))).length = 6 + z := by simp [htl]; omega
  have hp0 : ([Blk.cells false false 4 (rows4 L), Blk.cells true false 1 (iRw (out.map fun i : Nat => (i : Int))), Blk.dead, Blk.dead, Blk.cells false false 4 (rows4 (L.eraseIdx i))] ++ (tabB M z).map (renB (shiftρ 5)))[0]? = some (Blk.cells false false 4 (rows4 L)) := rfl
  have hpo : ([Blk.cells false false 4 (rows4 L), Blk.cells true false 1 (iRw (out.map fun i : Nat => (i : Int))), Blk.dead, Blk.dead, Blk.cells false false 4 (rows4 (L.eraseIdx i))] ++ (tabB M z).map (renB (shiftρ 5)))[1]? = some (Blk.cells true false 1 (iRw (out.map fun i : Nat => (i : Int)))) := rfl
  have hp2 : ([Blk.cells false false 4 (rows4 L), Blk.cells true false 1 (iRw (out.map fun i : Nat => (i : Int))), Blk.dead, Blk.dead, Blk.cells false false 4 (rows4 (L.eraseIdx i))] ++ (tabB M z).map (renB (shiftρ 5)))[4]? = some (Blk.cells false false 4 (rows4 (L.eraseIdx i))) := rfl
  simp only [List.length_cons, List.length_nil, Nat.zero_add] at hT1 hT2 hT3 ⊢
  generalize ([Blk.cells false false 4 (rows4 L), Blk.cells true false 1 (iRw (out.map fun i : Nat => (i : Int))), Blk.dead, Blk.dead, Blk.cells false false 4 (rows4 (L.eraseIdx i))] ++ (tabB M z).map (renB (shiftρ 5))) = H at *
  have gA : ((List.range z).map fun i => [AV.lsl (5 + 1 + i) 0 z]).getD a.toNat [] = [AV.lsl (5 + 1 + a.toNat) 0 z] := by simp [List.getD_eq_getElem?_getD, show a.toNat < z by omega]
  have gB : ((List.range z).map fun i => [AV.lsl (5 + 1 + i) 0 z]).getD b.toNat [] = [AV.lsl (5 + 1 + b.toNat) 0 z] := by simp [List.getD_eq_getElem?_getD, show b.toNat < z by omega]
  have rA := hM.down.hr a.toNat (by omega)
  have rB := hM.down.hr b.toNat (by omega)
  have gX : ((M.getD a.toNat []).map fun x => [i64 x]).getD b.toNat [] = [i64 (mget M a.toNat b.toNat)] := getD_ints (by omega)
  have gY : ((M.getD b.toNat []).map fun x => [i64 x]).getD a.toNat [] = [i64 (mget M b.toNat a.toNat)] := getD_ints (by omega)
  have lT : ((List.range z).map fun i => [AV.lsl (5 + 1 + i) 0 z]).length = z := by simp
  have lX : ((M.getD a.toNat []).map fun x => [i64 x]).length = z := by rw [List.length_map, rA]
  have lY : ((M.getD b.toNat []).map fun x => [i64 x]).length = z := by rw [List.length_map, rB]
  have az : a < (z : Int) := by omega
  have bz : b < (z : Int) := by omega
  have a0 : 0 ≤ a := by omega
  have b0 : 0 ≤ b := by omega
  have d1 : decide (mget M a.toNat b.toNat ≤ hi') = false := decide_eq_false hx
  obtain ⟨u1, u2, u3, u4⟩ := cells_sub (X := []) hlen
  have v0 := at_inR hp0
  have u5 := fun Y => u2 Y 2
  have u6 := fun Y v => u4 Y 2 v
  have u7 : ∀ Y, (H ++ Y)[6 + z + 1 + 1]? = Y[2]? := fun Y => u2 Y 2
  have u8 : ∀ Y v, (H ++ Y).set (6 + z + 1 + 1) v = H ++ Y.set 2 v := fun Y v => u4 Y 2 v
  have h0 : ∀ Y, hget (H ++ Y) 0 = Blk.cells false false 4 (rows4 L) := fun Y => by unfold hget; rw [v0]; rfl
  have v2 := at_inR hp2
  have v1 := at_inR hpo
  have h1 : ∀ Y, hget (H ++ Y) 1 = Blk.cells true false 1 (iRw (out.map fun i : Nat => (i : Int))) := fun Y => by unfold hget; rw [v1]; rfl
  have w1' := at_inR hT1
  have w2' := at_inR hT2
  have w3' := at_inR hT3
  clear htab hfz htl h70 hg hM rA rB hx
  generalize mget M a.toNat b.toNat = x at *
  generalize mget M b.toNat a.toNat = y at *
  generalize (M.getD a.toNat []).map (fun x => [i64 x]) = RA at *
  generalize (M.getD b.toNat []).map (fun x => [i64 x]) = RB at *
  generalize (List.range z).map (fun i => [AV.lsl (5 + 1 + i) 0 z]) = RT at *
  repeat' (first | ((with_reducible refine T_calm ?_ ?_); rfl) | (with_reducible first | refine T_seq ?_ | refine T_reg ?_ | refine T_draw ?_ | refine T_skip ?_ | refine T_exit ?_ | refine T_block ?_ | refine T_cond_t rfl ?_ | refine T_cond_f rfl ?_ | refine wdW_cons rfl ?_ | refine T_ret ?_ | refine wif_intro ?_ (fun hc => ?_) | refine And.intro ?_ ?_ | intro hc) | simp (maxSteps := 4000000) only [wops_nil, wops_cons, wstep_none, wstep_some, wguard_ft, wrun_mv, wrun_pick, wrun_bin, wrun_ext, wrun_load, wrun_store, wrun_faddr, wrun_iaddrS, wrun_alloc, wop, aop, ev, look, put_some, put_none, writes, ores_some, binV, thenK, blockK, value, cut, hget, putCells, AV.parts, isOne, toLits, mkAgg, ofValue_int, List.map_cons, List.map_nil, List.length_cons, List.length_nil, List.getElem?_cons_zero, List.getElem?_cons_succ, List.set_cons_zero, List.take_succ_cons, List.take_zero, List.take_nil, List.drop_succ_cons, List.drop_zero, List.drop_nil, List.nil_append, List.append_nil, List.append_assoc, List.replicate_zero, List.replicate_succ, List.getD_cons_zero, List.all_cons, List.all_nil, List.length_append, Option.getD_some, Option.map_some, if_true, if_false, Nat.reduceEqDiff, Nat.reduceAdd, Nat.reduceLT, Nat.add_zero, Nat.zero_add, Nat.le_refl, Nat.zero_ne_one, reduceCtorEq, Bool.and_true, Bool.false_eq_true, eq_self, true_and, and_self, List.all_cons, ren, renL, shiftρ, Int.toNat_natCast, *] | simp (disch := omega) only [getD_ints, wrapI] | (with_reducible refine wdW_cons ?_ ?_; (next => simp [chk, foot, compatB, argsOf, St.get, target, ev, look, lidsL, hget, kind, AOp.isRaw, wids, wtops, tops, opds, topId, Int.toNat_natCast, lids]; done)) | omega)
  refine hT.down _ ⟨[0, 1], ?_, ?_, ?_⟩
  · simp [hlen] <;> omega
  · simp
  · simp [St.keep, get_mk, look, ren, renB, renO, keepρ, pos, h0, h1, renR_iRw, renR_rows4]
set_option maxHeartbeats 8000000 in
theorem k71oG {z i k : Nat} {nl : Bool} {l L : List Rd} {out : List Nat} {M : List (List Int)} (hk : k < l.length) (hl : l.length ≤ 100) (hi : i + (k + 1) = l.length) (hL : i < L.length) (hLl : L.length ≤ 100) (hz : z ≤ 40) (ho : out ≠ []) (hol : out.length ≤ 100)
    (h70 : Fn Try.prog 70 [i64 z, rdgs false (L.eraseIdx i)] (.tup [.lsl 0 0 z, bl true]) (tabB M z)) (hM : Sq z M) (hg : gRd z (l.getD i rd0)) (hx : mget M (l.getD i rd0).a.toNat (l.getD i rd0).b.toNat ≤ (l.getD i rd0).hi) (hy : ¬mget M (l.getD i rd0).b.toNat (l.getD i rd0).a.toNat ≤ -(l.getD i rd0).lo) (K : Exit → St → Prop)
    (hT : ∀ τ : St, (∃ ids : List Nat, (∀ id ∈ ids, 0 ≤ id ∧ id < τ.heap.length) ∧ ids.Nodup ∧ τ.keep 0 [0, 1, 5, 6, 7] ids = S71 z nl l L out (k + 1)) → K .normal τ) : T none Try.prog muts 77 0 c71l0 (S71 z nl l L out k) K := by
  have hrl := rows4_len l
  have hrL := rows4_len L
  have g1 := rows4_get (l := l) (k := i) (by omega)
  have hil : (i : Int) < (l.length : Int) := by omega
  have eL : (L.eraseIdx i).length = L.length - 1 := by rw [List.length_eraseIdx]; split <;> omega
  have ei : (l.length : Int) - 1 - (k : Int) = (i : Int) := by omega
  have ei2 : (l.length : Int) - 1 - ((k + 1 : Nat) : Int) = (i : Int) - 1 := by omega
  have ewi : IntKind.i64.wrap ((i : Int) + 1) = ((i + 1 : Nat) : Int) := by rw [wrapI (by omega) (by omega)]; push_cast; rfl
  have ewd : IntKind.i64.wrap ((i : Int) - 1) = (i : Int) - 1 := wrapI (by omega) (by omega)
  have c1 : (0 : Int) ≤ (i : Int) := by omega
  have c2 : (i : Int) ≤ (L.length : Int) := by omega
  have c3 : (0 : Int) ≤ ((i + 1 : Nat) : Int) := by omega
  have c4 : ((i + 1 : Nat) : Int) ≤ (L.length : Int) := by omega
  have c5 : i ≤ L.length := by omega
  have q1 : (rows4 (L.take i)).length = i := by rw [rows4_len, List.length_take]; omega
  have q2 : (rows4 (L.drop (i + 1))).length = L.length - (i + 1) := by rw [rows4_len, List.length_drop]
  have b1 : i * 32 ≤ 140737488355328 := by omega
  have b2 : (L.length - 1) * 32 ≤ 140737488355328 := by omega
  have qa : ∀ b : Bool, (b || ((4 : Nat) == 4)) = true := fun b => by cases b <;> rfl
  have t1 := rows4_tk L i
  have t2 := rows4_dr L (i + 1)
  have t3 := rows4_er (L := L) (i := i)
  have e5 : i + (L.length - (i + 1)) = L.length - 1 := by omega
  have k1 : List.take i (rows4 (L.take i)) = rows4 (L.take i) := List.take_of_length_le (by omega)
  have k2 : List.take (L.length - (i + 1)) (rows4 (L.drop (i + 1))) = rows4 (L.drop (i + 1)) := List.take_of_length_le (by omega)
  have htab := tab_at hM.hl [Blk.cells false false 4 (rows4 L), Blk.cells true false 1 (iRw (out.map fun i : Nat => (i : Int))), Blk.dead, Blk.dead, Blk.cells false false 4 (rows4 (L.eraseIdx i))]
  have hol2 := (iRw_len (out.map fun i : Nat => (i : Int))).trans (by simp : (out.map fun i : Nat => (i : Int)).length = out.length)
  have htk : List.take out.length (iRw (out.map fun i : Nat => (i : Int))) = iRw (out.map fun i : Nat => (i : Int)) := List.take_of_length_le (by omega)
  have b5 : (1 + out.length) * 8 ≤ 140737488355328 := by omega
  have b6 : (out.length + 1) * 8 ≤ 140737488355328 := by omega
  have e7 : 1 + out.length = out.length + 1 := by omega
  generalize hR : l.getD i rd0 = r at *
  obtain ⟨a, b, lo, hi'⟩ := r
  unfold gRd at hg
  dsimp only at *
  have ewl : IntKind.i64.wrap (0 - lo) = -lo := by rw [wrapI (by omega) (by omega)]; omega
  have hcn : i :: out ≠ [] := by simp
  have hcl : (i :: out).length = out.length + 1 := rfl
  have hcm : iRw ((i :: out).map fun i : Nat => (i : Int)) = [[i64 (i : Int)]] ++ iRw (out.map fun i : Nat => (i : Int)) := rfl
  have hd1 : decide (out = []) = false := by simpa using ho
  simp only [S71, oV, eB, if_neg ho, ei, ei2, hd1] at hT ⊢
  clear hcn hcl hcm hd1
  clear hR
  replace hT := PLift.up hT
  replace htab := PLift.up htab
  replace h70 := PLift.up h70
  replace hM := PLift.up hM
  unfold c71l0
  repeat' (first | ((with_reducible refine T_calm ?_ ?_); rfl) | (with_reducible first | refine T_seq ?_ | refine T_reg ?_ | refine T_draw ?_ | refine T_skip ?_ | refine T_exit ?_ | refine T_block ?_ | refine T_cond_t rfl ?_ | refine T_cond_f rfl ?_ | refine wdW_cons rfl ?_ | refine T_ret ?_ | refine wif_intro ?_ (fun hc => ?_) | refine And.intro ?_ ?_ | intro hc) | simp (maxSteps := 4000000) only [wops_nil, wops_cons, wstep_none, wrun_call, wrun_mv, wrun_bin, wrun_slc, wrun_bslice, wrun_app, wrunX_mv, wrunX_bin, wrunX_slc, wrunX_bslice, wrunX_app, wdW_nil, wstepX_none, wop, aop, ev, look, put_some, writes, ores_some, binV, thenK, elsOf, szOk, hget, fillA, boundOf, List.flatten_nil, rowsOf, List.map_cons, List.map_nil, List.length_cons, List.length_nil, List.getElem?_cons_zero, List.getElem?_cons_succ, List.set_cons_zero, List.set_cons_succ, List.take_nil, List.drop_zero, List.drop_nil, List.cons_append, List.nil_append, List.append_nil, List.replicate_zero, List.replicate_succ, Option.getD_some, Option.map_some, Option.map_none, Option.bind_some, if_true, if_false, Nat.reduceEqDiff, Nat.reduceAdd, Nat.add_zero, Nat.zero_add, Nat.sub_zero, Nat.sub_self, Nat.le_refl, reduceCtorEq, Bool.false_and, Bool.or_true, eq_self, true_and, and_self, decide_true, beq_self_eq_true, Int.toNat_natCast, *] | simp (disch := omega) only [getD_ints, wrapI] | (with_reducible refine wdW_cons ?_ ?_; (next => simp [chk, foot, compatB, argsOf, St.get, target, ev, look, lidsL, hget, kind, AOp.isRaw, wids, wtops, tops, opds, topId, renR_rows4, plainR_rows4, rows4_len, Int.toNat_natCast, lids]; done)) | omega)
  refine wcall_fn h70.down ?_ ?_ ?_
  · simp [rfyL, rfy, hget, mp4, rows4_len, eL]
    exact List.take_of_length_le (by rw [rows4_len, eL]; exact Nat.le_refl _)
  · simp [plainL, plain, plainR_rows4]
  have hfz : freeze [Blk.cells false false 4 (rows4 L), Blk.cells true false 1 (iRw (out.map fun i : Nat => (i : Int))), Blk.dead, Blk.dead, Blk.cells true false 4 (rows4 (L.eraseIdx i))] (lidsL (hget [Blk.cells false false 4 (rows4 L), Blk.cells true false 1 (iRw (out.map fun i : Nat => (i : Int))), Blk.dead, Blk.dead, Blk.cells true false 4 (rows4 (L.eraseIdx i))]) [i64 ↑z, AV.lsl 4 0 (L.length - 1)]) = [Blk.cells false false 4 (rows4 L), Blk.cells true false 1 (iRw (out.map fun i : Nat => (i : Int))), Blk.dead, Blk.dead, Blk.cells false false 4 (rows4 (L.eraseIdx i))] := by
    have e : lidsL (hget [Blk.cells false false 4 (rows4 L), Blk.cells true false 1 (iRw (out.map fun i : Nat => (i : Int))), Blk.dead, Blk.dead, Blk.cells true false 4 (rows4 (L.eraseIdx i))]) [i64 ↑z, AV.lsl 4 0 (L.length - 1)] = [4] := by
      have := flat_rows4' (hget [Blk.cells false false 4 (rows4 L), Blk.cells true false 1 (iRw (out.map fun i : Nat => (i : Int))), Blk.dead, Blk.dead, Blk.cells true false 4 (rows4 (L.eraseIdx i))]) (L.length - 1) (L.eraseIdx i)
      simp only [lidsL, List.flatMap_cons, List.flatMap_nil, List.append_nil]
      simp [lids, hget]
      simpa [hget] using this
    rw [e]
    simp only [freeze]
    rfl
  rw [hfz]
  obtain ⟨w1, hT1⟩ := htab.down.t
  obtain ⟨w2, hT2⟩ := htab.down.r a.toNat (by omega)
  obtain ⟨w3, hT3⟩ := htab.down.r b.toNat (by omega)
  have htl : (tabB M z).length = z + 1 := by simp [tabB, hM.down.hl]
  have hlen : ([Blk.cells false false 4 (rows4 L), Blk.cells true false 1 (iRw (out.map fun i : Nat => (i : Int))), Blk.dead, Blk.dead, Blk.cells false false 4 (rows4 (L.eraseIdx i))] ++ (tabB M z).map (renB (shiftρ 5))).length = 6 + z := by simp [htl]; omega
  have hp0 : ([Blk.cells false false 4 (rows4 L), Blk.cells true false 1 (iRw (out.map fun i : Nat => (i : Int))), Blk.dead, Blk.dead, Blk.cells false false 4 (rows4 (L.eraseIdx i))] ++ (tabB M z).map (renB (shiftρ 5)))[0]? = some (Blk.cells false false 4 (rows4 L)) := rfl
  have hpo : ([Blk.cells false false 4 (rows4 L), Blk.cells true false 1 (iRw (out.map fun i : Nat => (i : Int))), Blk.dead, Blk.dead, Blk.cells false false 4 (rows4 (L.eraseIdx i))] ++ (tabB M z).map (renB (shiftρ 5)))[1]? = some (Blk.cells true false 1 (iRw (out.map fun i : Nat => (i : Int)))) := rfl
  have hp2 : ([Blk.cells false false 4 (rows4 L), Blk.cells true false 1 (iRw (out.map fun i : Nat => (i : Int))), Blk.dead, Blk.dead, Blk.cells false false 4 (rows4 (L.eraseIdx i))] ++ (tabB M z).map (renB (shiftρ 5)))[4]? = some (Blk.cells false false 4 (rows4 (L.eraseIdx i))) := rfl
  simp only [List.length_cons, List.length_nil, Nat.zero_add] at hT1 hT2 hT3 ⊢
  generalize ([Blk.cells false false 4 (rows4 L), Blk.cells true false 1 (iRw (out.map fun i : Nat => (i : Int))), Blk.dead, Blk.dead, Blk.cells false false 4 (rows4 (L.eraseIdx i))] ++ (tabB M z).map (renB (shiftρ 5))) = H at *
  have gA : ((List.range z).map fun i => [AV.lsl (5 + 1 + i) 0 z]).getD a.toNat [] = [AV.lsl (5 + 1 + a.toNat) 0 z] := by simp [List.getD_eq_getElem?_getD, show a.toNat < z by omega]
  have gB : ((List.range z).map fun i => [AV.lsl (5 + 1 + i) 0 z]).getD b.toNat [] = [AV.lsl (5 + 1 + b.toNat) 0 z] := by simp [List.getD_eq_getElem?_getD, show b.toNat < z by omega]
  have rA := hM.down.hr a.toNat (by omega)
  have rB := hM.down.hr b.toNat (by omega)
  have gX : ((M.getD a.toNat []).map fun x => [i64 x]).getD b.toNat [] = [i64 (mget M a.toNat b.toNat)] := getD_ints (by omega)
  have gY : ((M.getD b.toNat []).map fun x => [i64 x]).getD a.toNat [] = [i64 (mget M b.toNat a.toNat)] := getD_ints (by omega)
  have lT : ((List.range z).map fun i => [AV.lsl (5 + 1 + i) 0 z]).length = z := by simp
  have lX : ((M.getD a.toNat []).map fun x => [i64 x]).length = z := by rw [List.length_map, rA]
  have lY : ((M.getD b.toNat []).map fun x => [i64 x]).length = z := by rw [List.length_map, rB]
  have az : a < (z : Int) := by omega
  have bz : b < (z : Int) := by omega
  have a0 : 0 ≤ a := by omega
  have b0 : 0 ≤ b := by omega
  have d1 : decide (mget M a.toNat b.toNat ≤ hi') = true := decide_eq_true hx
  have d2 : decide (mget M b.toNat a.toNat ≤ -lo) = false := decide_eq_false hy
  obtain ⟨u1, u2, u3, u4⟩ := cells_sub (X := []) hlen
  have v0 := at_inR hp0
  have u5 := fun Y => u2 Y 2
  have u6 := fun Y v => u4 Y 2 v
  have u7 : ∀ Y, (H ++ Y)[6 + z + 1 + 1]? = Y[2]? := fun Y => u2 Y 2
  have u8 : ∀ Y v, (H ++ Y).set (6 + z + 1 + 1) v = H ++ Y.set 2 v := fun Y v => u4 Y 2 v
  have h0 : ∀ Y, hget (H ++ Y) 0 = Blk.cells false false 4 (rows4 L) := fun Y => by unfold hget; rw [v0]; rfl
  have v2 := at_inR hp2
  have v1 := at_inR hpo
  have h1 : ∀ Y, hget (H ++ Y) 1 = Blk.cells true false 1 (iRw (out.map fun i : Nat => (i : Int))) := fun Y => by unfold hget; rw [v1]; rfl
  have w1' := at_inR hT1
  have w2' := at_inR hT2
  have w3' := at_inR hT3
  clear htab hfz htl h70 hg hM rA rB hx hy
  generalize mget M a.toNat b.toNat = x at *
  generalize mget M b.toNat a.toNat = y at *
  generalize (M.getD a.toNat []).map (fun x => [i64 x]) = RA at *
  generalize (M.getD b.toNat []).map (fun x => [i64 x]) = RB at *
  generalize (List.range z).map (fun i => [AV.lsl (5 + 1 + i) 0 z]) = RT at *
  repeat' (first | ((with_reducible refine T_calm ?_ ?_); rfl) | (with_reducible first | refine T_seq ?_ | refine T_reg ?_ | refine T_draw ?_ | refine T_skip ?_ | refine T_exit ?_ | refine T_block ?_ | refine T_cond_t rfl ?_ | refine T_cond_f rfl ?_ | refine wdW_cons rfl ?_ | refine T_ret ?_ | refine wif_intro ?_ (fun hc => ?_) | refine And.intro ?_ ?_ | intro hc) | simp (maxSteps := 4000000) only [wops_nil, wops_cons, wstep_none, wstep_some, wguard_true, wrun_mv, wrun_pick, wrun_bin, wrun_neg, wrun_ext, wrun_load, wrun_store, wrun_faddr, wrun_iaddrS, wrun_alloc, wop, aop, ev, look, put_some, put_none, writes, ores_some, binV, thenK, blockK, value, cut, hget, putCells, AV.parts, isOne, toLits, mkAgg, ofValue_int, List.map_cons, List.map_nil, List.length_cons, List.length_nil, List.getElem?_cons_zero, List.getElem?_cons_succ, List.set_cons_zero, List.take_succ_cons, List.take_zero, List.take_nil, List.drop_succ_cons, List.drop_zero, List.drop_nil, List.nil_append, List.append_nil, List.append_assoc, List.replicate_zero, List.replicate_succ, List.getD_cons_zero, List.all_cons, List.all_nil, List.length_append, Option.getD_some, Option.map_some, if_true, if_false, Nat.reduceEqDiff, Nat.reduceAdd, Nat.reduceLT, Nat.add_zero, Nat.zero_add, Nat.le_refl, Nat.zero_ne_one, reduceCtorEq, Bool.and_true, Bool.false_eq_true, eq_self, true_and, and_self, List.all_cons, ren, renL, shiftρ, Int.toNat_natCast, *] | simp (disch := omega) only [getD_ints, wrapI] | (with_reducible refine wdW_cons ?_ ?_; (next => simp [chk, foot, compatB, argsOf, St.get, target, ev, look, lidsL, hget, kind, AOp.isRaw, wids, wtops, tops, opds, topId, Int.toNat_natCast, lids]; done)) | omega)
  refine hT.down _ ⟨[0, 1], ?_, ?_, ?_⟩
  · simp [hlen] <;> omega
  · simp
  · simp [St.keep, get_mk, look, ren, renB, renO, keepρ, pos, h0, h1, renR_iRw, renR_rows4]
end Go.Abs
