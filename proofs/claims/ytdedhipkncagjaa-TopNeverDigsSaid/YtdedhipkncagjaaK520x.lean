import Derived.Test.YtdedhipkncagjaaK519x
import Derived.Test.YtdedhipkncagjaaK507x
set_option linter.all false
set_option linter.unusedVariables false
set_option linter.unusedSimpArgs false
set_option linter.unusedSectionVars false
namespace Go.Abs
open Go.Proofs
/-! TopNeverDigs: the law's function -/
theorem wE0_zero {l : List Sk} {b : ByteArray} (h : wE0 l b = 0) : sE l = 0 ∧ mrE b = 0 := by
  unfold wE0 at h
  by_cases g : sE l = 0
  · rw [if_neg (fun h => h g)] at h; exact ⟨g, h⟩
  · rw [if_pos g] at h; exact (g h).elim
theorem weE_zero {l : List Sk} {S : List Ss} {b : ByteArray} (h : weE l S b = 0) : sE l = 0 ∧ zE l S = 0 ∧ mrE b = 0 := by
  unfold weE at h
  by_cases g : sE l = 0
  · rw [if_neg (fun h => h g)] at h
    by_cases g2 : zE l S = 0
    · rw [if_neg (fun h => h g2)] at h; exact ⟨g, g2, h⟩
    · rw [if_pos g2] at h; exact (g2 h).elim
  · rw [if_pos g] at h; exact (g h).elim
set_option maxHeartbeats 8000000 in
theorem k4fin {n1 n2 n3 nil : Bool} {l : List Sk} {s S : List Ss} {b : ByteArray} {hs ws : List Int} {sv wv : AV} {H : List Blk} {i bb : Nat} (hV : StV l nil 2 (skR l)) (hl : l.length < 1000000) (hr : Rt l hs ws) (hbz : b.size < 1000000) (hi : i ≤ 100) (hI : Inv nil l n3 s b hs ws S sv wv i H) :
    T none Try.prog muts 217 bb c4r3 ⟨SLe n1 n2 hs ws sv wv, H⟩ K4O := by
  obtain ⟨o, a0⟩ := hI.m.h0
  obtain ⟨t1, _, t3⟩ := twE_ok hr.t
  have hF := t1.l
  have hin := hI.n
  have main : ∀ sR, Rds 1 H sv sR → sE l = 0 → zE l S = 0 → mrE b = 0 → Fn Try.prog 18 [sts nil l, sR, tx b] (.tup [.lsl 0 0 (l.getD 0 sk0).wr.length, i64 0]) [iC (wrL l S b)] → T none Try.prog muts 217 bb c4r3 ⟨SLe n1 n2 hs ws sv wv, H⟩ K4O := by
    intro sR hsv z1 z2 z3 h18
    have hn := hr.w 0 (sE_ok z1).pos
    have hW : (wrL l S b).length = hs.length := by rw [← hn]; exact fL_len _ _
    rw [hn] at h18
    have hD1 := hI.a.d1 hr (b := b) z1 z2
    have hD2 := hI.a.d2 hr (b := b) z1 z2 z3 (by omega)
    have h19a := k19 false false 1 hD1 (fun _ => rfl)
    rcases hI.m.wv with ⟨w1, w2⟩ | ⟨iw, ow, E, w1, w2, w3⟩
    · subst w2
      have h19b := k19 false true 0 hD2 (fun h => (h w1).elim)
      refine k4end (by omega) (by omega) a0 hsv (z0 := 0) (nb := true) (WL := WLof l b S) ?_ hW h18 h19a h19b
      rw [w1]
      exact rds_plain (d := 2) (v := .sl true 0 []) rfl
    · subst w2
      exact k4end (by omega) (by omega) a0 hsv (w3.rds w1) hW h18 h19a (k19 false false 1 hD2 (fun _ => rfl))
  rcases hI.m.sv with ⟨rfl, rfl⟩ | ⟨is, oS, h2, rfl⟩
  · have hsv : Rds 1 H (.sl true 0 []) (.sl true 0 []) := rds_plain rfl
    by_cases h0 : wE0 l b = 0
    · obtain ⟨z1, z3⟩ := wE0_zero h0
      exact main _ hsv z1 (zE_iff.2 ⟨by simp, fun g hg => absurd hg (by simp)⟩) z3 (k18z hV hbz z1 z3)
    · exact k4endE a0 hsv h0 (k18ze hV hbz h0)
  · have hsv := rds_row (d := 0) h2 (plainR_ss _) (ssR_len _)
    by_cases h0 : weE l S b = 0
    · obtain ⟨z1, z2, z3⟩ := weE_zero h0
      exact main _ hsv z1 z2 z3 (k18 (n2 := false) hV hl (by omega) hI.z hbz h0)
    · exact k4endE a0 hsv h0 (k18e (n2 := false) hV hl (by omega) hI.z hbz h0)
set_option maxHeartbeats 8000000 in
theorem k4init {nil n3 : Bool} {l : List Sk} {s : List Ss} {b : ByteArray} {hs ws : List Int} {H : List Blk} (hr : Rt l hs ws) (hJ : I96 (H04 nil l n3 s b) 1 ws hs ws hs.length H) (hn : hs.length ≠ 0) : Inv nil l n3 s b hs ws [] (.sl true 0 []) (.sl true 0 []) 0 H := by
  have e0 := hJ.s 0 (by simp) (by omega)
  have eb := hJ.b
  have e1 := hJ.t1 hn
  have e2 := hJ.t2 hn
  rw [show fR hs.length (lwz ws ws) = (lwL ws ws hs.length).map fun x => [i64 x] from fR_eq _ _] at e1
  rw [show fR hs.length (hwz hs ws) = (hwL hs ws hs.length).map fun x => [i64 x] from fR_eq _ _] at e2
  simp only [oL, if_neg hn] at eb
  refine ⟨⟨⟨true, e0⟩, ⟨true, false, _, _, true, true, eb, e1, e2⟩, .inl ⟨rfl, rfl⟩, .inl ⟨?_, rfl⟩⟩, Acc.nil hr, Nat.le_refl _, fun k hk => absurd hk (by simp)⟩
  unfold WLof
  split <;> rfl
set_option maxHeartbeats 8000000 in
theorem k4b {nil n1 n2 n3 : Bool} {l : List Sk} {s : List Ss} {b : ByteArray} {xs ws : List Int} (g1 : ¬4 < l.length) (g2 : ¬6 < s.length) (g3 : ¬6 < xs.length) (g4 : ws.length = xs.length) (g5 : ¬30 < b.size) (g6 : twE xs ws = 0) (hwd : Wd l xs.length l.length) :
    T none Try.prog muts 217 0 (c4r1 (c4r2 c4r3)) ⟨[(1, ints n1 xs), (2, ints n2 ws), (3, .loc 0 0 0)], [xB4 true nil l n3 s b]⟩ K4O := by
  obtain ⟨t1, t2, t3⟩ := twE_ok g6
  have hF := t1.l
  have hV : StV l nil 2 (skR l) := ⟨plainR_sk l, k63 nil l (by omega) fun k hk => ⟨by have := (hwd k hk).2; omega, by have := (hwd k hk).1; omega⟩, fun _ => ⟨rfl, rfl⟩⟩
  have hbd : ∀ z, z < xs.length → (-1000000000 ≤ xs.getD z 0 ∧ xs.getD z 0 ≤ 1000000000) ∧ (-1000000000 ≤ ws.getD z 0 ∧ ws.getD z 0 ≤ 1000000000) := fun z hz => by
    have a := t1.r z hz
    have c := t2.r z (by omega)
    omega
  have h6r : ∀ τ : St, τ.get 6 = bl true → K4O .ret τ := fun τ h6 => leave_of (.inr rfl) [bl true] (by simp [resL, resAV, h6]) ⟨rfl, rfl⟩
  have hp := PLift.up (And.intro hV (And.intro hbd (And.intro hwd (And.intro g1 (And.intro g2 (And.intro g3 (And.intro g4 (And.intro g5 (And.intro g6 (And.intro hF h6r))))))))))
  clear hV hbd hwd g1 g2 g3 g4 g5 g6 hF h6r t1 t2 t3
  unfold c4r1
  repeat' (first | ((with_reducible refine T_calm ?_ ?_); rfl) | (with_reducible first | refine T_seq ?_ | refine T_reg ?_ | refine T_draw ?_ | refine T_skip ?_ | refine T_exit ?_ | refine T_block ?_ | refine T_cond_t rfl ?_ | refine T_cond_f rfl ?_ | refine wdW_cons rfl ?_ | refine T_ret ?_ | refine wif_intro ?_ (fun hc => ?_) | refine And.intro ?_ ?_ | intro hc) | simp (maxSteps := 4000000) only [wops_nil, wops_cons, wstep_none, wrun_mv, wrun_alloc, wop, aop, ev, put_some, writes, ores_some, thenK, List.length_cons, List.length_nil, List.getElem?_cons_zero, List.getElem?_cons_succ, List.set_cons_zero, List.set_cons_succ, List.cons_append, List.nil_append, List.append_nil, List.replicate_zero, List.replicate_succ, Nat.reduceAdd, Nat.add_zero, Nat.zero_add, eq_self, true_and, *] | simp (disch := omega) only [getD_ints, wrapI] | omega)
  obtain ⟨hV, hbd, hwd, g1, g2, g3, g4, g5, g6, hF, h6r⟩ := hp.down
  refine T_forP [1, 2, 3, 8, 9] (SL4 n1 n2 xs ws) xs.length (fun k H => I96 (H04 nil l n3 s b) 1 ws xs ws k H ∧ ∀ z, z < k → 0 ≤ xs.getD z 0 - ws.getD z 0 ∧ xs.getD z 0 - ws.getD z 0 ≤ 10000) 0 ?_ ⟨⟨rfl, fun i _ _ => rfl, rfl, fun h => (h rfl).elim, fun h => (h rfl).elim⟩, fun z hz => by omega⟩ (Nat.zero_le _) ?_
  · simp [St.only, get_mk, look]
  intro k H hk ⟨hJ, hI⟩
  by_cases hkn : k < xs.length
  · by_cases hle : 0 ≤ xs.getD k 0 - ws.getD k 0 ∧ xs.getD k 0 - ws.getD k 0 ≤ 10000
    · exact T_thenR (k4good (by omega) g4 (hbd k hkn) _ hkn hle hJ) fun s' hq => ⟨hkn, ⟨hq.1, fun z hz => by
        rcases Nat.lt_succ_iff_lt_or_eq.1 hz with h | rfl
        · exact hI z h
        · exact hle⟩, hq.2⟩
    · refine T_thenR (k4bad (b := b) (s := s) (l := l) (nil := nil) (n3 := n3) (by omega) g4 (hbd k hkn) _ hkn hle (H := H) fun τ h6 => ?_) fun s' hq => hq.elim
      exact h6r τ h6
  · have hke : k = xs.length := by omega
    subst hke
    have hr : Rt l xs ws := ⟨fun k hk => (hwd k hk).1, hI, g6⟩
    have hinit := k4init hr hJ (by omega)
    have hsess := PLift.up (fun K hN hR σ h0 hI0 => k4sess (n1 := n1) (n2 := n2) (K := K) (bb := 0) hV (by omega) hr (b := b) (by omega) (s := s) (n3 := n3) (by omega) hN hR (σ := σ) h0 hI0)
    have hfin := PLift.up (fun S sv wv H hI => k4fin (n1 := n1) (n2 := n2) (bb := 0) (sv := sv) (wv := wv) (S := S) (H := H) (i := s.length) (s := s) (n3 := n3) hV (by omega) hr (b := b) (by omega) (by omega) hI)
    have h6p := PLift.up h6r
    have hip := PLift.up hinit
    have hkk : decide ((xs.length : Int) < (xs.length : Int)) = false := by simp
    have hlh := (by simp : (xs.map fun x => [i64 x]).length = xs.length)
    clear hJ hI hbd hV hwd hp hr hinit h6r hkn hk g1 g2 g3 g4 g5 g6 hF
    unfold c4l1
    repeat' (first | ((with_reducible refine T_calm ?_ ?_); rfl) | (with_reducible first | refine T_seq ?_ | refine T_reg ?_ | refine T_draw ?_ | refine T_skip ?_ | refine T_exit ?_ | refine T_block ?_ | refine T_cond_t rfl ?_ | refine T_cond_f rfl ?_ | refine wdW_cons rfl ?_ | refine T_ret ?_ | refine wif_intro ?_ (fun hc => ?_) | refine And.intro ?_ ?_ | intro hc) | simp (maxSteps := 4000000) only [wops_nil, wops_cons, wstep_none, wrun_mv, wrun_bin, wrun_len, wop, aop, ev, look, put_some, writes, ores_some, ores_map, ores_bind, binV, thenK, blockK, intV, lenOf, hget, List.append_nil, List.replicate_zero, Option.pure_def, Option.bind_eq_bind, Option.map_some, if_true, if_false, Nat.reduceEqDiff, reduceCtorEq, eq_self, *] | simp (disch := omega) only [getD_ints, wrapI] | omega)
    unfold c4r2
    repeat' (first | ((with_reducible refine T_calm ?_ ?_); rfl) | (with_reducible first | refine T_seq ?_ | refine T_reg ?_ | refine T_draw ?_ | refine T_skip ?_ | refine T_exit ?_ | refine T_block ?_ | refine T_cond_t rfl ?_ | refine T_cond_f rfl ?_ | refine wdW_cons rfl ?_ | refine T_ret ?_ | refine wif_intro ?_ (fun hc => ?_) | refine And.intro ?_ ?_ | intro hc) | simp (maxSteps := 4000000) only [wops_nil, wops_cons, wstep_none, wrun_mv, wop, aop, ev, put_some, writes, ores_some, thenK, List.append_nil, List.replicate_zero, *] | simp (disch := omega) only [getD_ints, wrapI] | omega)
    refine hsess.down _ ?_ ?_ _ ?_ hip.down
    · intro τ S sv wv hI hτ
      simp only [blockK, thenK, reduceIte]
      exact T_onlyU [1, 2, 3, 10, 11] (S := ⟨SLe n1 n2 xs ws sv wv, τ.heap⟩) (by show (⟨(τ.only [1, 2, 3, 10, 11]).slots, τ.heap⟩ : St) = _; rw [hτ]) (hfin.down S sv wv _ hI)
    · intro τ h6
      exact h6p.down τ h6
    · simp [St.only, get_mk, look]
set_option maxHeartbeats 8000000 in
theorem k4 (nil n1 n2 n3 : Bool) (l : List Sk) (s : List Ss) (b : ByteArray) (xs ws : List Int) : Fn Try.prog 4 [.agg [sts nil l, sss n3 s, tx b], ints n1 xs, ints n2 ws] (bl true) [] := by
  refine fn_of e4 ?_
  have h5 := k5
  have hll := skR_len l
  have hls := ssR_len s
  have hlh := (by simp : (xs.map fun x => [i64 x]).length = xs.length)
  have hlw := (by simp : (ws.map fun x => [i64 x]).length = ws.length)
  rw [c4_cut]
  by_cases g1 : 4 < l.length
  · have d1 : decide ((l.length : Int) > 4) = true := decide_eq_true (by omega)
    clear g1
    unfold c4r0
    repeat' (first | ((with_reducible refine T_calm ?_ ?_); rfl) | (with_reducible first | refine T_seq ?_ | refine T_reg ?_ | refine T_draw ?_ | refine T_skip ?_ | refine T_exit ?_ | refine T_block ?_ | refine T_cond_t rfl ?_ | refine T_cond_f rfl ?_ | refine wdW_cons rfl ?_ | (show wcall _ false (.lit (.func (.func 5) _ _)) _ _ _ _; refine wcall_fn (h5) rfl (by simp [plainL]) ?_) | (show wcallX _ false (.lit (.func (.func 5) _ _)) _ _ _ _; refine wcallX_fn (h5) rfl (by simp [plainL, plain, plainR, plainR_sk, plainR_ss]) ?_) | refine T_ret ?_ | refine leave_of (.inr rfl) _ rfl ?_ | refine leave_of (.inl rfl) _ rfl ?_ | refine leaveA_of (.inr rfl) _ rfl ?_ | refine leaveA_of (.inl rfl) _ rfl ?_ | refine wif_intro ?_ (fun hc => ?_) | refine And.intro ?_ ?_ | intro hc) | simp (maxSteps := 4000000) only [wops_nil, wops_cons, wstep_none, wstep_some, wguard_tf, wrun_call, wrun_mv, wrun_pick, wrun_bin, wrun_not, wrun_load, wrun_faddr, wrun_len, wrun_box, get_mk, wop, aop, ev, look, put_some, writes, ores_some, ores_map, ores_bind, binV, thenK, boolV, intV, lenOf, value, cut, hget, AV.parts, isOne, mkAgg, tupOf, List.map_cons, List.map_nil, List.length_cons, List.length_nil, List.getElem?_cons_zero, List.set_cons_zero, List.take_succ_cons, List.take_zero, List.drop_zero, List.nil_append, List.append_nil, List.replicate_zero, List.replicate_succ, List.getD_cons_zero, List.zipIdx_cons, List.zipIdx_nil, List.all_cons, List.all_nil, Option.pure_def, Option.bind_eq_bind, Option.getD_some, Option.map_some, if_true, if_false, Nat.reduceEqDiff, Nat.reduceAdd, Nat.add_zero, Nat.zero_add, reduceCtorEq, Bool.not_true, Bool.and_true, Bool.false_eq_true, eq_self, true_and, and_self, freeze, lidsL, List.flatMap_nil, List.all_cons, ren, *] | simp (disch := omega) only [getD_ints, wrapI] | (with_reducible show wcall _ false (.lit (.func (.func 5) _ _)) _ _ _ _; refine wcall_fn (h5) ?_ ?_ ?_; (next => simp [rfyL, rfy, hget, ints, take_rfy, plainR_sk, plainR_ss]); (next => simp [plainL, plain, plainR, plainR_sk, plainR_ss])) | (with_reducible show wcallX _ false (.lit (.func (.func 5) _ _)) _ _ _ _; refine wcallX_fn (h5) ?_ ?_ ?_; (next => simp [rfyL, rfy, hget, ints, take_rfy, plainR_sk, plainR_ss]); (next => simp [plainL, plain, plainR, plainR_sk, plainR_ss])) | omega)
    all_goals first | rfl
  have d1 : decide ((l.length : Int) > 4) = false := decide_eq_false (by omega)
  by_cases g2 : 6 < s.length
  · have d2 : decide ((s.length : Int) > 6) = true := decide_eq_true (by omega)
    clear g1 g2
    unfold c4r0
    repeat' (first | ((with_reducible refine T_calm ?_ ?_); rfl) | (with_reducible first | refine T_seq ?_ | refine T_reg ?_ | refine T_draw ?_ | refine T_skip ?_ | refine T_exit ?_ | refine T_block ?_ | refine T_cond_t rfl ?_ | refine T_cond_f rfl ?_ | refine wdW_cons rfl ?_ | (show wcall _ false (.lit (.func (.func 5) _ _)) _ _ _ _; refine wcall_fn (h5) rfl (by simp [plainL]) ?_) | (show wcallX _ false (.lit (.func (.func 5) _ _)) _ _ _ _; refine wcallX_fn (h5) rfl (by simp [plainL, plain, plainR, plainR_sk, plainR_ss]) ?_) | refine T_ret ?_ | refine leave_of (.inr rfl) _ rfl ?_ | refine leave_of (.inl rfl) _ rfl ?_ | refine leaveA_of (.inr rfl) _ rfl ?_ | refine leaveA_of (.inl rfl) _ rfl ?_ | refine wif_intro ?_ (fun hc => ?_) | refine And.intro ?_ ?_ | intro hc) | simp (maxSteps := 4000000) only [wops_nil, wops_cons, wstep_none, wstep_some, wguard_ff, wguard_tf, wrun_call, wrun_mv, wrun_pick, wrun_bin, wrun_not, wrun_load, wrun_faddr, wrun_len, wrun_box, get_mk, wop, aop, ev, look, put_some, writes, ores_some, ores_map, ores_bind, binV, thenK, boolV, intV, lenOf, value, cut, hget, AV.parts, isOne, mkAgg, tupOf, List.map_cons, List.map_nil, List.length_cons, List.length_nil, List.getElem?_cons_zero, List.set_cons_zero, List.take_succ_cons, List.take_zero, List.drop_succ_cons, List.drop_zero, List.nil_append, List.append_nil, List.replicate_zero, List.replicate_succ, List.getD_cons_zero, List.zipIdx_cons, List.zipIdx_nil, List.all_cons, List.all_nil, Option.pure_def, Option.bind_eq_bind, Option.getD_some, Option.map_some, if_true, if_false, Nat.reduceEqDiff, Nat.reduceAdd, Nat.add_zero, Nat.zero_add, reduceCtorEq, Bool.not_true, Bool.and_true, Bool.false_eq_true, eq_self, true_and, and_self, freeze, lidsL, List.flatMap_nil, List.all_cons, ren, *] | simp (disch := omega) only [getD_ints, wrapI] | (with_reducible show wcall _ false (.lit (.func (.func 5) _ _)) _ _ _ _; refine wcall_fn (h5) ?_ ?_ ?_; (next => simp [rfyL, rfy, hget, ints, take_rfy, plainR_sk, plainR_ss]); (next => simp [plainL, plain, plainR, plainR_sk, plainR_ss])) | (with_reducible show wcallX _ false (.lit (.func (.func 5) _ _)) _ _ _ _; refine wcallX_fn (h5) ?_ ?_ ?_; (next => simp [rfyL, rfy, hget, ints, take_rfy, plainR_sk, plainR_ss]); (next => simp [plainL, plain, plainR, plainR_sk, plainR_ss])) | omega)
    all_goals first | rfl
  have d2 : decide ((s.length : Int) > 6) = false := decide_eq_false (by omega)
  by_cases g3 : 6 < xs.length
  · have d3 : decide ((xs.length : Int) > 6) = true := decide_eq_true (by omega)
    clear g1 g2 g3
    unfold c4r0
    repeat' (first | ((with_reducible refine T_calm ?_ ?_); rfl) | (with_reducible first | refine T_seq ?_ | refine T_reg ?_ | refine T_draw ?_ | refine T_skip ?_ | refine T_exit ?_ | refine T_block ?_ | refine T_cond_t rfl ?_ | refine T_cond_f rfl ?_ | refine wdW_cons rfl ?_ | (show wcall _ false (.lit (.func (.func 5) _ _)) _ _ _ _; refine wcall_fn (h5) rfl (by simp [plainL]) ?_) | (show wcallX _ false (.lit (.func (.func 5) _ _)) _ _ _ _; refine wcallX_fn (h5) rfl (by simp [plainL, plain, plainR, plainR_sk, plainR_ss]) ?_) | refine T_ret ?_ | refine leave_of (.inr rfl) _ rfl ?_ | refine leave_of (.inl rfl) _ rfl ?_ | refine leaveA_of (.inr rfl) _ rfl ?_ | refine leaveA_of (.inl rfl) _ rfl ?_ | refine wif_intro ?_ (fun hc => ?_) | refine And.intro ?_ ?_ | intro hc) | simp (maxSteps := 4000000) only [wops_nil, wops_cons, wstep_none, wstep_some, wguard_ff, wguard_tf, wrun_call, wrun_mv, wrun_pick, wrun_bin, wrun_not, wrun_load, wrun_faddr, wrun_len, wrun_box, get_mk, wop, aop, ev, look, put_some, writes, ores_some, ores_map, ores_bind, binV, thenK, boolV, intV, lenOf, value, cut, hget, AV.parts, isOne, mkAgg, tupOf, List.map_cons, List.map_nil, List.length_cons, List.length_nil, List.getElem?_cons_zero, List.set_cons_zero, List.take_succ_cons, List.take_zero, List.drop_succ_cons, List.drop_zero, List.nil_append, List.append_nil, List.replicate_zero, List.replicate_succ, List.getD_cons_zero, List.zipIdx_cons, List.zipIdx_nil, List.all_cons, List.all_nil, Option.pure_def, Option.bind_eq_bind, Option.getD_some, Option.map_some, if_true, if_false, Nat.reduceEqDiff, Nat.reduceAdd, Nat.add_zero, Nat.zero_add, Nat.zero_ne_one, reduceCtorEq, Bool.not_true, Bool.and_true, Bool.false_eq_true, eq_self, true_and, and_self, freeze, lidsL, List.flatMap_nil, List.all_cons, ren, *] | simp (disch := omega) only [getD_ints, wrapI] | (with_reducible show wcall _ false (.lit (.func (.func 5) _ _)) _ _ _ _; refine wcall_fn (h5) ?_ ?_ ?_; (next => simp [rfyL, rfy, hget, ints, take_rfy, plainR_sk, plainR_ss]); (next => simp [plainL, plain, plainR, plainR_sk, plainR_ss])) | (with_reducible show wcallX _ false (.lit (.func (.func 5) _ _)) _ _ _ _; refine wcallX_fn (h5) ?_ ?_ ?_; (next => simp [rfyL, rfy, hget, ints, take_rfy, plainR_sk, plainR_ss]); (next => simp [plainL, plain, plainR, plainR_sk, plainR_ss])) | omega)
    all_goals first | rfl
  have d3 : decide ((xs.length : Int) > 6) = false := decide_eq_false (by omega)
  by_cases g4 : ws.length = xs.length
  case neg =>
    have d4 : ((ws.length : Int) != (xs.length : Int)) = true := by simp only [bne_iff_ne]; omega
    clear g1 g2 g3 g4
    unfold c4r0
    repeat' (first | ((with_reducible refine T_calm ?_ ?_); rfl) | (with_reducible first | refine T_seq ?_ | refine T_reg ?_ | refine T_draw ?_ | refine T_skip ?_ | refine T_exit ?_ | refine T_block ?_ | refine T_cond_t rfl ?_ | refine T_cond_f rfl ?_ | refine wdW_cons rfl ?_ | (show wcall _ false (.lit (.func (.func 5) _ _)) _ _ _ _; refine wcall_fn (h5) rfl (by simp [plainL]) ?_) | (show wcallX _ false (.lit (.func (.func 5) _ _)) _ _ _ _; refine wcallX_fn (h5) rfl (by simp [plainL, plain, plainR, plainR_sk, plainR_ss]) ?_) | refine T_ret ?_ | refine leave_of (.inr rfl) _ rfl ?_ | refine leave_of (.inl rfl) _ rfl ?_ | refine leaveA_of (.inr rfl) _ rfl ?_ | refine leaveA_of (.inl rfl) _ rfl ?_ | refine wif_intro ?_ (fun hc => ?_) | refine And.intro ?_ ?_ | intro hc) | simp (maxSteps := 4000000) only [wops_nil, wops_cons, wstep_none, wstep_some, wguard_ff, wguard_tf, wrun_call, wrun_mv, wrun_pick, wrun_bin, wrun_not, wrun_load, wrun_faddr, wrun_len, wrun_box, get_mk, wop, aop, ev, look, put_some, writes, ores_some, ores_map, ores_bind, binV, thenK, boolV, intV, lenOf, value, cut, hget, AV.parts, isOne, mkAgg, tupOf, List.map_cons, List.map_nil, List.length_cons, List.length_nil, List.getElem?_cons_zero, List.set_cons_zero, List.take_succ_cons, List.take_zero, List.drop_succ_cons, List.drop_zero, List.nil_append, List.append_nil, List.replicate_zero, List.replicate_succ, List.getD_cons_zero, List.zipIdx_cons, List.zipIdx_nil, List.all_cons, List.all_nil, Option.pure_def, Option.bind_eq_bind, Option.getD_some, Option.map_some, if_true, if_false, Nat.reduceEqDiff, Nat.reduceAdd, Nat.add_zero, Nat.zero_add, Nat.zero_ne_one, reduceCtorEq, Bool.not_true, Bool.and_true, Bool.false_eq_true, eq_self, true_and, and_self, freeze, lidsL, List.flatMap_nil, List.all_cons, ren, *] | simp (disch := omega) only [getD_ints, wrapI] | (with_reducible show wcall _ false (.lit (.func (.func 5) _ _)) _ _ _ _; refine wcall_fn (h5) ?_ ?_ ?_; (next => simp [rfyL, rfy, hget, ints, take_rfy, plainR_sk, plainR_ss]); (next => simp [plainL, plain, plainR, plainR_sk, plainR_ss])) | (with_reducible show wcallX _ false (.lit (.func (.func 5) _ _)) _ _ _ _; refine wcallX_fn (h5) ?_ ?_ ?_; (next => simp [rfyL, rfy, hget, ints, take_rfy, plainR_sk, plainR_ss]); (next => simp [plainL, plain, plainR, plainR_sk, plainR_ss])) | omega)
    all_goals first | rfl
  have d4 : ((ws.length : Int) != (xs.length : Int)) = false := by rw [g4]; simp
  by_cases g5 : 30 < b.size
  · have d5 : decide ((b.size : Int) > 30) = true := decide_eq_true (by omega)
    clear g1 g2 g3 g4 g5
    unfold c4r0
    repeat' (first | ((with_reducible refine T_calm ?_ ?_); rfl) | (with_reducible first | refine T_seq ?_ | refine T_reg ?_ | refine T_draw ?_ | refine T_skip ?_ | refine T_exit ?_ | refine T_block ?_ | refine T_cond_t rfl ?_ | refine T_cond_f rfl ?_ | refine wdW_cons rfl ?_ | (show wcall _ false (.lit (.func (.func 5) _ _)) _ _ _ _; refine wcall_fn (h5) rfl (by simp [plainL]) ?_) | (show wcallX _ false (.lit (.func (.func 5) _ _)) _ _ _ _; refine wcallX_fn (h5) rfl (by simp [plainL, plain, plainR, plainR_sk, plainR_ss]) ?_) | refine T_ret ?_ | refine leave_of (.inr rfl) _ rfl ?_ | refine leave_of (.inl rfl) _ rfl ?_ | refine leaveA_of (.inr rfl) _ rfl ?_ | refine leaveA_of (.inl rfl) _ rfl ?_ | refine wif_intro ?_ (fun hc => ?_) | refine And.intro ?_ ?_ | intro hc) | simp (maxSteps := 4000000) only [wops_nil, wops_cons, wstep_none, wstep_some, wguard_ff, wguard_tf, wrun_call, wrun_mv, wrun_pick, wrun_bin, wrun_not, wrun_load, wrun_faddr, wrun_len, wrun_lenS, wrun_box, get_mk, wop, aop, ev, look, put_some, writes, ores_some, ores_map, ores_bind, binV, thenK, boolV, intV, lenOf, value, cut, hget, AV.parts, isOne, mkAgg, tupOf, List.map_cons, List.map_nil, List.length_cons, List.length_nil, List.getElem?_cons_zero, List.set_cons_zero, List.take_succ_cons, List.take_zero, List.take_nil, List.drop_succ_cons, List.drop_zero, List.nil_append, List.append_nil, List.replicate_zero, List.replicate_succ, List.getD_cons_zero, List.zipIdx_cons, List.zipIdx_nil, List.all_cons, List.all_nil, Option.pure_def, Option.bind_eq_bind, Option.getD_some, Option.map_some, if_true, if_false, Nat.reduceEqDiff, Nat.reduceAdd, Nat.add_zero, Nat.zero_add, Nat.zero_ne_one, reduceCtorEq, Bool.not_true, Bool.and_true, Bool.false_eq_true, eq_self, true_and, and_self, freeze, lidsL, List.flatMap_nil, List.all_cons, ren, *] | simp (disch := omega) only [getD_ints, wrapI] | (with_reducible show wcall _ false (.lit (.func (.func 5) _ _)) _ _ _ _; refine wcall_fn (h5) ?_ ?_ ?_; (next => simp [rfyL, rfy, hget, ints, take_rfy, plainR_sk, plainR_ss]); (next => simp [plainL, plain, plainR, plainR_sk, plainR_ss])) | (with_reducible show wcallX _ false (.lit (.func (.func 5) _ _)) _ _ _ _; refine wcallX_fn (h5) ?_ ?_ ?_; (next => simp [rfyL, rfy, hget, ints, take_rfy, plainR_sk, plainR_ss]); (next => simp [plainL, plain, plainR, plainR_sk, plainR_ss])) | omega)
    all_goals first | rfl
  have d5 : decide ((b.size : Int) > 30) = false := decide_eq_false (by omega)
  have h16 := k16 n1 n2 xs ws (by omega) (by omega)
  by_cases g6 : twE xs ws = 0
  case neg =>
    have d6 : (twE xs ws != 0) = true := by simp only [bne_iff_ne]; exact g6
    generalize twE xs ws = R at *
    clear g1 g2 g3 g4 g5 g6
    unfold c4r0
    repeat' (first | ((with_reducible refine T_calm ?_ ?_); rfl) | (with_reducible first | refine T_seq ?_ | refine T_reg ?_ | refine T_draw ?_ | refine T_skip ?_ | refine T_exit ?_ | refine T_block ?_ | refine T_cond_t rfl ?_ | refine T_cond_f rfl ?_ | refine wdW_cons rfl ?_ | (show wcall _ false (.lit (.func (.func 5) _ _)) _ _ _ _; refine wcall_fn (h5) rfl (by simp [plainL]) ?_) | (show wcallX _ false (.lit (.func (.func 5) _ _)) _ _ _ _; refine wcallX_fn (h5) rfl (by simp [plainL, plain, plainR, plainR_sk, plainR_ss]) ?_) | (show wcall _ false (.lit (.func (.func 16) _ _)) _ _ _ _; refine wcall_fn (h16) rfl (by simp [plainL, plain]) ?_) | (show wcallX _ false (.lit (.func (.func 16) _ _)) _ _ _ _; refine wcallX_fn (h16) rfl (by simp [plainL, plain, plainR, plainR_sk, plainR_ss]) ?_) | refine T_ret ?_ | refine leave_of (.inr rfl) _ rfl ?_ | refine leave_of (.inl rfl) _ rfl ?_ | refine leaveA_of (.inr rfl) _ rfl ?_ | refine leaveA_of (.inl rfl) _ rfl ?_ | refine wif_intro ?_ (fun hc => ?_) | refine And.intro ?_ ?_ | intro hc) | simp (maxSteps := 4000000) only [wops_nil, wops_cons, wstep_none, wstep_some, wguard_ff, wrun_call, wrun_mv, wrun_pick, wrun_bin, wrun_not, wrun_load, wrun_faddr, wrun_len, wrun_lenS, wrun_box, get_mk, wop, aop, ev, look, put_some, writes, ores_some, ores_map, ores_bind, binV, thenK, boolV, intV, lenOf, value, cut, hget, AV.parts, isOne, mkAgg, tupOf, List.map_cons, List.map_nil, List.length_cons, List.length_nil, List.getElem?_cons_zero, List.set_cons_zero, List.take_succ_cons, List.take_zero, List.take_nil, List.drop_succ_cons, List.drop_zero, List.nil_append, List.append_nil, List.replicate_zero, List.replicate_succ, List.getD_cons_zero, List.zipIdx_cons, List.zipIdx_nil, List.all_cons, List.all_nil, Option.pure_def, Option.bind_eq_bind, Option.getD_some, Option.map_some, if_true, if_false, Nat.reduceEqDiff, Nat.reduceAdd, Nat.add_zero, Nat.zero_add, Nat.zero_ne_one, reduceCtorEq, Bool.not_true, Bool.and_true, Bool.false_eq_true, eq_self, true_and, and_self, freeze, lidsL, lids, List.flatMap_cons, List.flatMap_nil, List.all_cons, ren, *] | simp (disch := omega) only [getD_ints, wrapI] | (with_reducible show wcall _ false (.lit (.func (.func 5) _ _)) _ _ _ _; refine wcall_fn (h5) ?_ ?_ ?_; (next => simp [rfyL, rfy, hget, ints, take_rfy, plainR_sk, plainR_ss]); (next => simp [plainL, plain, plainR, plainR_sk, plainR_ss])) | (with_reducible show wcallX _ false (.lit (.func (.func 5) _ _)) _ _ _ _; refine wcallX_fn (h5) ?_ ?_ ?_; (next => simp [rfyL, rfy, hget, ints, take_rfy, plainR_sk, plainR_ss]); (next => simp [plainL, plain, plainR, plainR_sk, plainR_ss])) | (with_reducible show wcall _ false (.lit (.func (.func 16) _ _)) _ _ _ _; refine wcall_fn (h16) ?_ ?_ ?_; (next => simp [rfyL, rfy, hget, ints, take_rfy, plainR_sk, plainR_ss]); (next => simp [plainL, plain, plainR, plainR_sk, plainR_ss])) | (with_reducible show wcallX _ false (.lit (.func (.func 16) _ _)) _ _ _ _; refine wcallX_fn (h16) ?_ ?_ ?_; (next => simp [rfyL, rfy, hget, ints, take_rfy, plainR_sk, plainR_ss]); (next => simp [plainL, plain, plainR, plainR_sk, plainR_ss])) | omega)
    all_goals first | rfl
  rw [g6] at h16
  obtain ⟨t1, t2, t3⟩ := twE_ok g6
  have hwid := PLift.up (fun K hN hR σ h0 hH => k4wid (n1 := n1) (n2 := n2) (n3 := n3) (nil := nil) (l := l) (s := s) (b := b) (hs := xs) (ws := ws) (bb := 0) (K := K) (by omega) (by omega) hN hR (σ := σ) h0 hH)
  unfold c4r0
  repeat' (first | ((with_reducible refine T_calm ?_ ?_); rfl) | (with_reducible first | refine T_seq ?_ | refine T_reg ?_ | refine T_draw ?_ | refine T_skip ?_ | refine T_exit ?_ | refine T_block ?_ | refine T_cond_t rfl ?_ | refine T_cond_f rfl ?_ | refine wdW_cons rfl ?_ | (show wcall _ false (.lit (.func (.func 5) _ _)) _ _ _ _; refine wcall_fn (h5) rfl (by simp [plainL]) ?_) | (show wcallX _ false (.lit (.func (.func 5) _ _)) _ _ _ _; refine wcallX_fn (h5) rfl (by simp [plainL, plain, plainR, plainR_sk, plainR_ss]) ?_) | (show wcall _ false (.lit (.func (.func 16) _ _)) _ _ _ _; refine wcall_fn (h16) rfl (by simp [plainL, plain]) ?_) | (show wcallX _ false (.lit (.func (.func 16) _ _)) _ _ _ _; refine wcallX_fn (h16) rfl (by simp [plainL, plain, plainR, plainR_sk, plainR_ss]) ?_) | ((first | refine T_cond rfl (fun hc => ?_) (fun hc => ?_) | refine wguard_split (fun hc => ?_) (fun hc => ?_) | refine wguardX_split (fun hc => ?_) (fun hc => ?_)) <;> have hd := hc <;> (try simp (disch := omega) only [wrapI] at hd) <;> have hs := hd <;> (try simp only [bne_iff_ne, bne_eq_false_iff_eq, Bool.not_false, ne_eq] at hd) <;> (try simp at hs)) | refine T_ret ?_ | refine wif_intro ?_ (fun hc => ?_) | refine And.intro ?_ ?_ | intro hc) | simp (maxSteps := 4000000) only [wops_nil, wops_cons, wstep_none, wstep_some, wguard_ff, wrun_call, wrun_mv, wrun_pick, wrun_bin, wrun_not, wrun_load, wrun_faddr, wrun_len, wrun_lenS, wrun_box, wop, aop, ev, look, put_some, writes, ores_some, ores_map, ores_bind, binV, thenK, boolV, intV, lenOf, value, cut, hget, AV.parts, isOne, mkAgg, List.map_cons, List.map_nil, List.length_cons, List.length_nil, List.getElem?_cons_zero, List.set_cons_zero, List.take_succ_cons, List.take_zero, List.take_nil, List.drop_succ_cons, List.drop_zero, List.nil_append, List.append_nil, List.replicate_zero, List.replicate_succ, List.getD_cons_zero, List.zipIdx_cons, List.zipIdx_nil, List.all_cons, List.all_nil, Option.pure_def, Option.bind_eq_bind, Option.getD_some, Option.map_some, if_true, if_false, Nat.reduceEqDiff, Nat.reduceAdd, Nat.add_zero, Nat.zero_add, Nat.zero_ne_one, reduceCtorEq, Bool.not_true, Bool.and_true, Bool.false_eq_true, eq_self, true_and, and_self, freeze, lidsL, lids, List.flatMap_cons, List.flatMap_nil, List.all_cons, ren, *] | simp (disch := omega) only [getD_ints, wrapI] | (with_reducible show wcall _ false (.lit (.func (.func 5) _ _)) _ _ _ _; refine wcall_fn (h5) ?_ ?_ ?_; (next => simp [rfyL, rfy, hget, ints, take_rfy, plainR_sk, plainR_ss]); (next => simp [plainL, plain, plainR, plainR_sk, plainR_ss])) | (with_reducible show wcallX _ false (.lit (.func (.func 5) _ _)) _ _ _ _; refine wcallX_fn (h5) ?_ ?_ ?_; (next => simp [rfyL, rfy, hget, ints, take_rfy, plainR_sk, plainR_ss]); (next => simp [plainL, plain, plainR, plainR_sk, plainR_ss])) | (with_reducible show wcall _ false (.lit (.func (.func 16) _ _)) _ _ _ _; refine wcall_fn (h16) ?_ ?_ ?_; (next => simp [rfyL, rfy, hget, ints, take_rfy, plainR_sk, plainR_ss]); (next => simp [plainL, plain, plainR, plainR_sk, plainR_ss])) | (with_reducible show wcallX _ false (.lit (.func (.func 16) _ _)) _ _ _ _; refine wcallX_fn (h16) ?_ ?_ ?_; (next => simp [rfyL, rfy, hget, ints, take_rfy, plainR_sk, plainR_ss]); (next => simp [plainL, plain, plainR, plainR_sk, plainR_ss])) | omega)
  refine hwid.down _ ?_ ?_ _ ?_ rfl
  · intro hwd τ hH hτ
    simp only [blockK, thenK, reduceIte]
    refine T_onlyU [1, 2, 3] (S := ⟨[(1, ints n1 xs), (2, ints n2 ws), (3, .loc 0 0 0)], [xB4 true nil l n3 s b]⟩) (by show (⟨(τ.only [1, 2, 3]).slots, τ.heap⟩ : St) = _; rw [hτ, hH]) ?_
    exact k4b g1 g2 g3 g4 g5 g6 hwd
  · intro τ h6
    simp only [blockK, thenK]
    exact leave_of (.inr rfl) [bl true] (by simp [resL, resAV, h6]) ⟨rfl, rfl⟩
  · simp [St.only, get_mk, look]
end Go.Abs
