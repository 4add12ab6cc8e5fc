import Derived.Test.YtpfmamngjefohaaK376x
import Derived.Test.YtpfmamngjefohaaK331x
set_option linter.all false
set_option linter.unusedVariables false
set_option linter.unusedSimpArgs false
set_option linter.unusedSectionVars false
namespace Go.Abs
open Go.Proofs
/-! LeftFor -/
def lfE (l : List Sk) (lo hi : List Int) (s : List Ss) (b : ByteArray) : Int := if sE l ≠ 0 then sE l else if dmE (l.getD 0 sk0).wr.length lo hi ≠ 0 then dmE (l.getD 0 sk0).wr.length lo hi else if zE l s ≠ 0 then zE l s else mrE b
theorem lfE_zero {l : List Sk} {lo hi : List Int} {s : List Ss} {b : ByteArray} (h : lfE l lo hi s b = 0) : sE l = 0 ∧ dmE (l.getD 0 sk0).wr.length lo hi = 0 ∧ zE l s = 0 ∧ mrE b = 0 := by
  unfold lfE at h
  by_cases g : sE l = 0
  · rw [if_neg (fun h => h g)] at h
    by_cases g' : dmE (l.getD 0 sk0).wr.length lo hi = 0
    · rw [if_neg (fun h => h g')] at h
      by_cases g2 : zE l s = 0
      · rw [if_neg (fun h => h g2)] at h; exact ⟨g, g', g2, h⟩
      · rw [if_pos g2] at h; exact (g2 h).elim
    · rw [if_pos g'] at h; exact (g' h).elim
  · rw [if_pos g] at h; exact (g h).elim
theorem freeze_last (H : List Blk) (n : Bool) (z : Nat) (X : List (List AV)) : freeze1 (H ++ [.cells true n z X]) H.length = H ++ [.cells false n z X] := by
  unfold freeze1
  simp
theorem first58 {b n1 n2 n3 : Bool} {m : Nat} {E : List (List AV)} {l : List Sk} {lo hi : List Int} {s : List Ss} {mi : ByteArray} (hV : StV l b m E) (hl : l.length < 1000000) (hlo : lo.length < 1000000) (hhi : hi.length < 1000000) (hl2 : s.length < 1000000) (hs2 : ∀ k, k < s.length → (s.getD k ss0).mi.size < 1000000) (hmi : mi.size < 1000000) : ∀ (H : List Blk) (id x y z u v t : Nat) (o nl o1 m1 o2 m2 o3 m3 o4 m4 o5 m5 o6 m6 : Bool), H[id]? = some (.cells o nl 1 [[.clo (.func 100) [] [.loc x 0 0]], [.clo (.func 105) [] [.loc y 0 0, .loc z 0 0]], [.clo (.func 102) [] [.loc v 0 0, .loc u 0 0]], [.clo (.func 104) [] [.loc t 0 0]]]) → H[x]? = some (.cells o1 m1 1 [[.sl b m E]]) → H[y]? = some (.cells o2 m2 1 [[.sl b m E]]) → H[z]? = some (.cells o3 m3 2 [[ints n1 lo, ints n2 hi]]) → H[u]? = some (.cells o4 m4 1 [[.sl b m E]]) → H[v]? = some (.cells o5 m5 1 [[sss n3 s]]) → H[t]? = some (.cells o6 m6 1 [[tx mi]]) →
      ACall Try.prog 69 [.lsl id 0 4] H fun r H' => r = i64 (lfE l lo hi s mi) ∧ App H H' := fun H id x y z u v t o nl o1 m1 o2 m2 o3 m3 o4 m4 o5 m5 o6 m6 h1 h2 h3 h4 h5 h6 h7 => by
  have := first4B h1 (k100B hV.p h2 hV.f) (e2 := dmE (l.getD 0 sk0).wr.length lo hi) (e3 := zE l s) (e4 := mrE mi) (fun h0 => by
    obtain ⟨rfl, rfl⟩ := hV.g h0
    have hS := sE_ok h0
    exact k105B hS.pos (by have := hS.zon; omega) hlo hhi h3 h4) (fun h0 _ => by
      obtain ⟨rfl, rfl⟩ := hV.g h0
      exact k102B hl hl2 hs2 h5 h6) fun _ _ _ => k104B hmi h7
  exact this
set_option maxHeartbeats 8000000 in
theorem k58 {nil n1 n2 n3 : Bool} {l : List Sk} {lo hi : List Int} {s : List Ss} {mi : ByteArray} (hV : StV l nil 2 (skR l)) (hlo : lo.length < 1000000) (hhi : hi.length < 1000000) (hl2 : s.length < 1000000) (hs2 : ∀ k, k < s.length → (s.getD k ss0).mi.size < 1000000) (hmi : mi.size < 1000000) (h0 : lfE l lo hi s mi = 0) (hok : okB hi (wrL l s mi) (l.getD 0 sk0).wr.length = true) : Fn Try.prog 58 [sts nil l, dmV n1 lo n2 hi, sss n3 s, tx mi] (.tup [.agg [.lsl 0 0 (l.getD 0 sk0).wr.length, .lsl 1 0 (l.getD 0 sk0).wr.length], i64 0]) [iC (lwL lo (wrL l s mi) (l.getD 0 sk0).wr.length), iC (hwL hi (wrL l s mi) (l.getD 0 sk0).wr.length)] := by
  refine fn_of e58 ?_
  obtain ⟨z1, z2, z3, z4⟩ := lfE_zero h0
  have hS := sE_ok z1
  have hD := dmE_ok z2
  have hZ := zE_ok z3
  have hfew := hS.few
  have h70 := k70 (b := nil) (m := 2) (plainR_sk l)
  have h77 := k77 (b := nil) (m := 2) (plainR_sk l) n1 n2 lo hi
  have h71 := k71 (b := nil) (m := 2) (b2 := n3) (m2 := 3) (plainR_sk l) (plainR_ss s)
  have h72 := k72 mi
  have hcall := first58 (n1 := n1) (n2 := n2) (n3 := n3) hV (by omega) hlo hhi hl2 hs2 hmi
  rw [h0] at hcall
  have h73 := k73 nil n3 l s mi hS hZ
  have hR := rb_of (b := mi) hS hZ hD
  have hl3 := hR.l3
  have h96 := k96 n1 n2 false hR hok
  replace hcall := PLift.up hcall
  clear hV h0 z1 z2 z3 z4 hS hD hZ hok hR hs2
  generalize wrL l s mi = W at *
  generalize (l.getD 0 sk0).wr.length = n at *
  generalize hLe : lwL lo W n = L at *
  generalize hHe : hwL hi W n = U at *
  have hll : L.length = n := by rw [← hLe]; exact fL_len _ _
  have hul : U.length = n := by rw [← hHe]; exact fL_len _ _
  clear hLe hHe
  subst hl3
  unfold c58
  repeat' (first | ((with_reducible refine T_calm ?_ ?_); rfl) | (with_reducible first | refine T_seq ?_ | refine T_reg ?_ | refine T_draw ?_ | refine T_skip ?_ | refine T_exit ?_ | refine T_block ?_ | refine T_cond_t rfl ?_ | refine T_cond_f rfl ?_ | refine wdW_cons rfl ?_ | (show wcall _ false (.lit (.func (.func 70) _ _)) _ _ _ _; refine wcall_fn (h70) rfl (by simp [plainL, plain, plainR, plainR_sk, renR_sk, renR_ints, plainR_ss, renR_ss]) ?_) | (show wcallX _ false (.lit (.func (.func 70) _ _)) _ _ _ _; refine wcallX_fn (h70) rfl (by simp [plainL, plain, plainR_sk]) ?_) | (show wcall _ false (.lit (.func (.func 77) _ _)) _ _ _ _; refine wcall_fn (h77) rfl (by simp [plainL, plain, plainR, plainR_sk, renR_sk, renR_ints, plainR_ss, renR_ss]) ?_) | (show wcallX _ false (.lit (.func (.func 77) _ _)) _ _ _ _; refine wcallX_fn (h77) rfl (by simp [plainL, plain, plainR_sk]) ?_) | (show wcall _ false (.lit (.func (.func 71) _ _)) _ _ _ _; refine wcall_fn (h71) rfl (by simp [plainL, plain, plainR, plainR_sk, renR_sk, renR_ints, plainR_ss, renR_ss]) ?_) | (show wcallX _ false (.lit (.func (.func 71) _ _)) _ _ _ _; refine wcallX_fn (h71) rfl (by simp [plainL, plain, plainR_sk, plainR_ss]) ?_) | (show wcall _ false (.lit (.func (.func 72) _ _)) _ _ _ _; refine wcall_fn (h72) rfl (by simp [plainL, plain, plainR, plainR_sk, renR_sk, renR_ints, plainR_ss, renR_ss]) ?_) | (show wcallX _ false (.lit (.func (.func 72) _ _)) _ _ _ _; refine wcallX_fn (h72) rfl (by simp [plainL, plain]) ?_) | refine T_ret ?_ | refine leave_of (.inr rfl) _ rfl ?_ | refine leave_of (.inl rfl) _ rfl ?_ | refine leaveA_of (.inr rfl) _ rfl ?_ | refine leaveA_of (.inl rfl) _ rfl ?_ | refine wif_intro ?_ (fun hc => ?_) | refine And.intro ?_ ?_ | intro hc) | simp (maxSteps := 4000000) only [wops_nil, wops_cons, wstep_none, wrun_mv, wrun_load, wrun_alloc, wrun_box, wrun_bslice, wrunX_mv, wrunX_load, wrunX_bslice, wstepX_none, wrunX_call, wop, aop, ev, look, put_some, writes, ores_some, thenK, value, cut, hget, fillA, putCells, AV.parts, isOne, toLits, mkAgg, List.flatten_cons, List.flatten_nil, rowsOf, List.map_cons, List.map_nil, List.length_cons, List.length_nil, List.getElem?_cons_zero, List.getElem?_cons_succ, List.set_cons_zero, List.set_cons_succ, List.take_succ_cons, List.take_zero, List.take_nil, List.drop_succ_cons, List.drop_zero, List.drop_nil, List.cons_append, List.nil_append, List.append_nil, List.replicate_zero, List.replicate_succ, List.getD_cons_zero, List.zipIdx_cons, List.zipIdx_nil, List.all_cons, List.all_nil, Option.getD_some, Option.map_some, if_true, if_false, Nat.reduceEqDiff, Nat.reduceAdd, Nat.reduceLeDiff, Nat.add_zero, Nat.zero_add, Nat.mul_one, Nat.le_refl, Nat.zero_ne_one, reduceCtorEq, Bool.and_true, eq_self, true_and, and_self, freeze, lidsL, lids, List.flatMap_cons, List.flatMap_nil, List.all_cons, ren, renL, renR, renB, shiftρ, renR_ints, renR_sk, renR_ints, renR_ss, *] | simp (disch := omega) only [getD_ints, wrapI] | (with_reducible show wcall _ false (.lit (.func (.func 70) _ _)) _ _ _ _; refine wcall_fn (h70) ?_ ?_ ?_; (next => simp [rfyL, rfy, hget, ints, take_rfy, plainR_sk, renR_sk, renR_ints, plainR_ss, renR_ss]); (next => simp [plainL, plain, plainR, plainR_sk, renR_sk, renR_ints, plainR_ss, renR_ss])) | (with_reducible show wcallX _ false (.lit (.func (.func 70) _ _)) _ _ _ _; refine wcallX_fn (h70) ?_ ?_ ?_; (next => simp [rfyL, rfy, hget, ints, take_rfy, plainR_sk, renR_sk, renR_ints, plainR_ss, renR_ss]); (next => simp [plainL, plain, plainR, plainR_sk, renR_sk, renR_ints, plainR_ss, renR_ss])) | (with_reducible show wcall _ false (.lit (.func (.func 77) _ _)) _ _ _ _; refine wcall_fn (h77) ?_ ?_ ?_; (next => simp [rfyL, rfy, hget, ints, take_rfy, plainR_sk, renR_sk, renR_ints, plainR_ss, renR_ss]); (next => simp [plainL, plain, plainR, plainR_sk, renR_sk, renR_ints, plainR_ss, renR_ss])) | (with_reducible show wcallX _ false (.lit (.func (.func 77) _ _)) _ _ _ _; refine wcallX_fn (h77) ?_ ?_ ?_; (next => simp [rfyL, rfy, hget, ints, take_rfy, plainR_sk, renR_sk, renR_ints, plainR_ss, renR_ss]); (next => simp [plainL, plain, plainR, plainR_sk, renR_sk, renR_ints, plainR_ss, renR_ss])) | (with_reducible show wcall _ false (.lit (.func (.func 71) _ _)) _ _ _ _; refine wcall_fn (h71) ?_ ?_ ?_; (next => simp [rfyL, rfy, hget, ints, take_rfy, plainR_sk, renR_sk, renR_ints, plainR_ss, renR_ss]); (next => simp [plainL, plain, plainR, plainR_sk, renR_sk, renR_ints, plainR_ss, renR_ss])) | (with_reducible show wcallX _ false (.lit (.func (.func 71) _ _)) _ _ _ _; refine wcallX_fn (h71) ?_ ?_ ?_; (next => simp [rfyL, rfy, hget, ints, take_rfy, plainR_sk, renR_sk, renR_ints, plainR_ss, renR_ss]); (next => simp [plainL, plain, plainR, plainR_sk, renR_sk, renR_ints, plainR_ss, renR_ss])) | (with_reducible show wcall _ false (.lit (.func (.func 72) _ _)) _ _ _ _; refine wcall_fn (h72) ?_ ?_ ?_; (next => simp [rfyL, rfy, hget, ints, take_rfy, plainR_sk, renR_sk, renR_ints, plainR_ss, renR_ss]); (next => simp [plainL, plain, plainR, plainR_sk, renR_sk, renR_ints, plainR_ss, renR_ss])) | (with_reducible show wcallX _ false (.lit (.func (.func 72) _ _)) _ _ _ _; refine wcallX_fn (h72) ?_ ?_ ?_; (next => simp [rfyL, rfy, hget, ints, take_rfy, plainR_sk, renR_sk, renR_ints, plainR_ss, renR_ss]); (next => simp [plainL, plain, plainR, plainR_sk, renR_sk, renR_ints, plainR_ss, renR_ss])) | omega)
  refine wcallX_raw (hcall.down _ 2 3 4 5 6 7 8 _ _ _ _ _ _ _ _ _ _ _ _ _ _ rfl rfl rfl rfl rfl rfl rfl) ⟨_, _, rfl, App.refl _⟩ ?_
  rintro r H' ⟨rfl, hx⟩
  have g0 := hx.at_ (i := 0) rfl
  have g1 := hx.at_ (i := 1) rfl
  have y0 := (List.getElem?_eq_some_iff.1 g0).1
  have y1 := (List.getElem?_eq_some_iff.1 g1).1
  obtain ⟨u1, u2, u3, u4⟩ := cells_sub (X := []) (H := H') rfl
  have a0 := at_in g0
  have a1 := at_in g1
  have s1 := set_in y1
  have q3 := look_set y1
  have w2 := fun v => (cells_sub (X := []) (H := H'.set 1 v) (N := H'.length) (by simp)).2.1
  have w1 := fun v Y => w2 v Y 1
  have hfl := freeze_last H'
  clear hcall h70 h77 h71 h72 hx u2 u4 w2
  repeat' (first | ((with_reducible refine T_calm ?_ ?_); rfl) | (with_reducible first | refine T_seq ?_ | refine T_reg ?_ | refine T_draw ?_ | refine T_skip ?_ | refine T_exit ?_ | refine T_block ?_ | refine T_cond_t rfl ?_ | refine T_cond_f rfl ?_ | refine wdW_cons rfl ?_ | (show wcall _ false (.lit (.func (.func 73) _ _)) _ _ _ _; refine wcall_fn (h73) rfl (by simp [plainL, plain, plainR, plainR_sk, renR_ints, plainR_ss, lids_take, y0, y1, hfl]) ?_) | (show wcallX _ false (.lit (.func (.func 73) _ _)) _ _ _ _; refine wcallX_fn (h73) rfl (by simp [plainL, plain, plainR_sk, plainR_ss]) ?_) | (show wcall _ false (.lit (.func (.func 96) _ _)) _ _ _ _; refine wcall_fn (h96) rfl (by simp [plainL, plain, plainR, plainR_sk, renR_ints, plainR_ss, lids_take, y0, y1, hfl]) ?_) | (show wcallX _ false (.lit (.func (.func 96) _ _)) _ _ _ _; refine wcallX_fn (h96) rfl (by simp [plainL, plain]) ?_) | refine T_ret ?_ | refine wif_intro ?_ (fun hc => ?_) | refine And.intro ?_ ?_ | intro hc) | simp (maxSteps := 4000000) only [wops_nil, wops_cons, wstep_none, wrun_mv, wrun_bin, wrun_ext, wrun_load, wrun_store, wrunX_mv, wrunX_ext, wrunX_load, wrunX_store, wdW_nil, wstepX_none, wrunX_call, wop, aop, ev, look, put_some, put_none, writes, ores_some, binV, thenK, value, cut, hget, putCells, AV.parts, isOne, toLits, mkAgg, List.map_cons, List.map_nil, List.length_cons, List.length_nil, List.getElem?_cons_zero, List.getElem?_cons_succ, List.set_cons_zero, List.take_succ_cons, List.take_zero, List.take_nil, List.drop_succ_cons, List.drop_zero, List.drop_nil, List.cons_append, List.nil_append, List.append_nil, List.append_assoc, List.replicate_zero, List.getD_cons_zero, List.all_cons, List.all_nil, List.length_append, Option.getD_some, Option.map_some, if_true, if_false, Nat.reduceEqDiff, Nat.reduceAdd, Nat.reduceLT, Nat.zero_add, Nat.le_refl, reduceCtorEq, Bool.and_true, eq_self, and_self, freeze, lidsL, lids, List.flatMap_cons, List.flatMap_nil, List.all_cons, ren, renL, renB, shiftρ, renR_ints, renR_ints, lids_take, *] | simp (disch := omega) only [getD_ints, wrapI] | (with_reducible show wcall _ false (.lit (.func (.func 73) _ _)) _ _ _ _; refine wcall_fn (h73) ?_ ?_ ?_; (next => simp [rfyL, rfy, hget, ints, take_rfy, plainR_sk, renR_ints, plainR_ss, lids_take, y0, y1, hfl]); (next => simp [plainL, plain, plainR, plainR_sk, renR_ints, plainR_ss, lids_take, y0, y1, hfl])) | (with_reducible show wcallX _ false (.lit (.func (.func 73) _ _)) _ _ _ _; refine wcallX_fn (h73) ?_ ?_ ?_; (next => simp [rfyL, rfy, hget, ints, take_rfy, plainR_sk, renR_ints, plainR_ss, lids_take, y0, y1, hfl]); (next => simp [plainL, plain, plainR, plainR_sk, renR_ints, plainR_ss, lids_take, y0, y1, hfl])) | (with_reducible show wcall _ false (.lit (.func (.func 96) _ _)) _ _ _ _; refine wcall_fn (h96) ?_ ?_ ?_; (next => simp [rfyL, rfy, hget, ints, take_rfy, plainR_sk, renR_ints, plainR_ss, lids_take, y0, y1, hfl]); (next => simp [plainL, plain, plainR, plainR_sk, renR_ints, plainR_ss, lids_take, y0, y1, hfl])) | (with_reducible show wcallX _ false (.lit (.func (.func 96) _ _)) _ _ _ _; refine wcallX_fn (h96) ?_ ?_ ?_; (next => simp [rfyL, rfy, hget, ints, take_rfy]); (next => simp [plainL, plain])) | (with_reducible refine wdW_cons ?_ ?_; (next => simp [chk, foot, compatB, argsOf, St.get, target, ev, look, lidsL, kind, AOp.isRaw, wids, tops, opds, topId, y0]; done)) | omega)
  have e9 : 1 + (H'.length + 1) = H'.length + 2 := by omega
  have w2 := fun v Y => (cells_sub (X := []) (H := H'.set 1 v) (N := H'.length) (by simp)).2.1 Y 2
  rw [e9]
  refine leave_ids (.inr rfl) [.agg [.lsl (H'.length + 1) 0 W.length, .lsl (H'.length + 2) 0 W.length], i64 0] [H'.length + 1, H'.length + 2] ?_ (fun id hid => ?_) (by simp) ?_
  · have hq := q3 (.cells true false 2 [[.lsl (H'.length + 1) 0 W.length, .lsl (H'.length + 2) 0 W.length]]) [fB W, iC L, iC U]
    generalize H'.set 1 (.cells true false 2 [[.lsl (H'.length + 1) 0 W.length, .lsl (H'.length + 2) 0 W.length]]) ++ [fB W, iC L, iC U] = HH at hq ⊢
    simp [resL, resAV, aop, ev, get_mk, look, hget, hq, cut, value, mkAgg, toLits]
  · simp only [List.mem_cons, List.not_mem_nil, or_false] at hid
    rcases hid with rfl | rfl <;> simp
  · simp [ren, renL, tupOf, keepρ, pos, hget, renB, renR_ints]
end Go.Abs
