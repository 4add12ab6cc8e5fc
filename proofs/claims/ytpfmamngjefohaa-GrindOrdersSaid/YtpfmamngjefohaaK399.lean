import Derived.Test.YtpfmamngjefohaaKO2
import Derived.Test.YtpfmamngjefohaaK317x
import Derived.Test.YtpfmamngjefohaaK398x
import Derived.Test.YtpfmamngjefohaaK323
import Derived.Test.YtpfmamngjefohaaRows
import Derived.WalkKit
import Derived.ProofKit
import Derived.OpenShut
set_option linter.all false
set_option linter.unusedVariables false
set_option linter.unusedSimpArgs false
set_option linter.unusedSectionVars false
namespace Go.Abs
open Go.Proofs
/-! GrindOrders: all cases -/
theorem mi_all {s t : List Ss} (h : ∀ k, k < s.length → (s.getD k ss0).mi.size < 1000000) (ht : ∀ g ∈ t, g ∈ s) : ∀ k, k < t.length → (t.getD k ss0).mi.size < 1000000 := fun k hk => by
  have e : t.getD k ss0 = t[k] := by rw [List.getD_eq_getElem?_getD, List.getElem?_eq_getElem hk]; rfl
  rw [e]
  obtain ⟨j, hj, h1⟩ := List.mem_iff_getElem.1 (ht _ (List.getElem_mem hk))
  have := h j hj
  rw [List.getD_eq_getElem?_getD, List.getElem?_eq_getElem hj] at this
  rw [← h1]; exact this
theorem k12 (nil : Bool) (l : List Sk) (n1 : Bool) (lo : List Int) (n2 : Bool) (hi : List Int) (n3 : Bool) (s : List Ss) (x : Ss) (hl : l.length ≤ 9223372036854775807) (hl2 : s.length ≤ 9223372036854775807) : Fn Try.prog 12 [sts nil l, dyV n1 lo n2 hi n3 s x] (bl true) [] := by
  by_cases hE : gd12 l lo hi s x
  case neg => exact k12early nil l n1 lo n2 hi n3 s x hl hl2 hE
  refine k12m hE hl hl2 fun H o hH => ?_
  obtain ⟨h1, h2, h3, hs10, hxm, hxs⟩ := hE
  simp only [Bool.and_eq_true, decide_eq_true_eq] at h2
  obtain ⟨b1, b2⟩ := lgB_bd h1
  obtain ⟨b3, b4⟩ := fwB_bd h3
  have hsz : ∀ k, k < l.length → (l.getD k sk0).nm.size < 1000000 ∧ (l.getD k sk0).wr.length < 1000000 := fun k hk => by have := b2 k hk; omega
  have hs2 : ∀ k, k < s.length → (s.getD k ss0).mi.size < 1000000 := fun k hk => by have := b4 k hk; omega
  have hA : AdB s x := ⟨by omega, hs2, by omega⟩
  have h22 := k22 (nil := nil) (l := l) (by omega) (fun t ht => (hsz t ht).2)
  have h23 := gv_dm n1 n2 lo hi (by omega) (by omega)
  have h30 := g30 n3 s (by omega)
  obtain ⟨b, m, E, hcp, hV⟩ := cp_stv (l := l) (by omega) hsz
  have hl' : (skc l).length < 1000000 := by rw [skc_len]; omega
  by_cases h0 : weE l s x.mi = 0
  case neg =>
    have h29 := k29e (n2 := false) (s := s) (mi := x.mi) hV hl' (by omega) hs2 (by omega) (by rw [skc_weE]; exact h0)
    rw [skc_weE, ← hcp] at h29
    exact k12ae hH h22 h30 h29 h0
  have z0 : sE l = 0 ∧ zE l s = 0 ∧ mrE x.mi = 0 := by
    unfold weE at h0
    by_cases g : sE l = 0
    · rw [if_neg (fun h => h g)] at h0
      by_cases g' : zE l s = 0
      · rw [if_neg (fun h => h g')] at h0; exact ⟨g, g', h0⟩
      · rw [if_pos g'] at h0; exact (g' h0).elim
    · rw [if_pos g] at h0; exact (g h0).elim
  obtain ⟨z1, z2, z3⟩ := z0
  obtain ⟨rfl, rfl⟩ := hV.g (by rw [skc_sE]; exact z1)
  have hS := sE_ok z1
  have hzn := hS.zon
  have hWn : (wrL l s x.mi).length = (l.getD 0 sk0).wr.length := fL_len _ _
  have h29 : ∀ t : List Ss, t.length < 1000000 → (∀ k, k < t.length → (t.getD k ss0).mi.size < 1000000) → zE l t = 0 → Fn Try.prog 29 [cpS l, sss false t, tx x.mi] (.tup [.lsl 0 0 (wrL l s x.mi).length, i64 0]) [iC (wrL l t x.mi)] := fun t ht1 ht2 ht3 => by
    have h := k29 (n2 := false) (s := t) (mi := x.mi) hV hl' ht1 ht2 (by omega) (by
      rw [skc_weE]; unfold weE
      rw [if_neg (fun h => h z1), if_neg (fun h => h ht3)]; exact z3)
    rw [skc_wrL, skc_wr, show sts b (skc l) = cpS l from hcp.symm, ← hWn] at h
    exact h
  have h29z : Fn Try.prog 29 [cpS l, .sl true 0 [], tx x.mi] (.tup [.lsl 0 0 (wrL l s x.mi).length, i64 0]) [iC (wrL l [] x.mi)] := by
    have h := k29z (mi := x.mi) hV (by omega) (by rw [skc_sE]; exact z1) z3
    rw [skc_wrL, skc_wr, show sts b (skc l) = cpS l from hcp.symm, ← hWn] at h
    exact h
  have hgo : ∀ t : List Ss, (∀ g ∈ t, g ∈ s) → t.length ≤ s.length → zE l t = 0 → wrL l t x.mi = wrL l s x.mi → ∀ tR, ((t = [] ∧ tR = .sl true 0 []) ∨ tR = sss false t) → Gv 1 Try.prog 29 [cpS l, tR, tx x.mi] [ints false (wrL l s x.mi), i64 0] := fun t ht hlt hz he tR hR => by
    rcases hR with ⟨rfl, rfl⟩ | rfl
    · have h := gv_ints2 h29z (by rw [he])
      rw [he] at h
      exact h
    · have h := gv_ints2 (h29 t (by omega) (mi_all hs2 ht) hz) (by rw [he])
      rw [he] at h
      exact h
  have hgT := hgo s.reverse (fun g hg => List.mem_reverse.1 hg) (by simp) (zE_rev z2) (wrL_rev l s x.mi)
  have hgM := hgo (s.reverse.filter fun g => eqT g.mi x.mi) (fun g hg => List.mem_reverse.1 (List.mem_filter.1 hg).1) (Nat.le_trans (List.length_filter_le _ _) (by simp)) (zE_filter _ (zE_rev z2)) (wrL_mine l s x.mi)
  refine k12a hH h22 h30 (h29 s (by omega) hs2 z2) fun H1 o1 iw ow hH1 hw1 => ?_
  refine k12b (by omega) (by omega) hH1 hw1 h22 hgT hgM fun H2 o2 ow2 hH2 hw2 => ?_
  have eq1 : (s ++ [x]).length = s.length + 1 := by simp
  by_cases ha0 : adE l lo hi s x = 0
  case neg =>
    have h56 := k56e (n1 := false) (n2 := false) (lo := lo) (hi := hi) (s := s) (x := x) hV hl' (by omega) (by omega) hA (by rw [skc_adE]; exact ha0)
    rw [skc_adE, ← hcp] at h56
    exact k12ce hH2 h22 h23 h30 h56 ha0
  obtain ⟨_, y2, _, y4⟩ := adE_zero ha0
  have hD := dmE_ok y2
  cases hok : okB hi (wrL l (s ++ [x]) x.mi) (l.getD 0 sk0).wr.length with
  | false =>
    have h56 := k56o (n1 := false) (n2 := false) (lo := lo) (hi := hi) (s := s) (x := x) hV (by omega) (by omega) hA (by rw [skc_adE]; exact ha0) (by rw [skc_wr, skc_wrL]; exact hok)
    rw [show sts b (skc l) = cpS l from hcp.symm] at h56
    exact k12ce hH2 h22 h23 h30 h56 (by omega)
  | true =>
    have h56 := k56 (n1 := false) (n2 := false) (lo := lo) (hi := hi) (s := s) (x := x) hV (by omega) (by omega) hA (by rw [skc_adE]; exact ha0) (by rw [skc_wr, skc_wrL]; exact hok)
    rw [show sts b (skc l) = cpS l from hcp.symm, ← eq1] at h56
    refine k12c hH2 hw2 h22 h23 h30 h56 fun H3 o3 ow3 iy oy hH3 hw3 hy3 => ?_
    refine k12d hH3 hw3 hy3 h22 (h29 (s ++ [x]) (by rw [eq1]; omega) hA.m2 y4) fun H4 o4 ow4 oy4 ia oa hH4 hw4 hy4 ha4 => ?_
    have hx1 : Fn Try.prog 29 [cpS l, .sl false 3 [[tx x.mi, tx x.st, i64 x.mn]], tx x.mi] _ _ := h29 [x] (by simp) (fun k hk => by
      have : k = 0 := by simpa using hk
      subst this; show x.mi.size < 1000000; omega) (zE_last y4)
    refine k12e hH4 hw4 (rds_row (d := 0) hy4 (plainR_ss _) (ssR_len _)) ha4 h22 hx1 fun H5 o5 ow5 oa5 io oo hH5 hw5 hy5 ha5 ho5 => ?_
    have h58 := k58 (n1 := false) (n2 := false) (n3 := false) (lo := lo) (hi := hi) (s := s ++ [x]) (mi := x.mi) hV (by omega) (by omega) (by rw [eq1]; omega) hA.m2 (by omega) (by
      rw [skc_lfE]; unfold lfE
      rw [if_neg (fun h => h z1), if_neg (fun h => h y2), if_neg (fun h => h y4)]; exact z3) (by rw [skc_wr, skc_wrL]; exact hok)
    rw [skc_wr, skc_wrL, show sts b (skc l) = cpS l from hcp.symm, ← hWn] at h58
    refine k12f hH5 hw5 hy5 ha5 ho5 h22 h23 h58 fun H6 o6 ow6 oa6 oo6 N il iu on ol ou hH6 hw6 ha6 ho6 hN6 hl6 hu6 => ?_
    have hR := rb_of (b := x.mi) hS (zE_ok y4) hD
    have hall : ∀ z, z < (l.getD 0 sk0).wr.length → (wrL l (s ++ [x]) x.mi).getD z 0 ≤ hi.getD z 0 := of_decide_eq_true hok
    refine k12g ⟨by omega, by rw [hWn]; exact hD.l2, rfl, by rw [hWn]; exact fL_len _ _, by rw [hWn]; exact fL_len _ _, fL_len _ _, fL_len _ _, fun z hz => ?_, fun z hz => ?_, fun z hz => ?_, fun z hz => ?_, fun z hz => ?_⟩ hH6 hw6 ha6 ho6 hN6 hl6 hu6
    · exact wrL_snoc l s x x.mi (by omega)
    · exact hall z (by omega)
    · exact fL_get _ hz
    · rw [fL_get _ hz, fL_get _ hz]
      exact left_ok hD (by omega) (hall z (by omega))
    · have := hR.b z (by omega)
      exact ⟨this.2.2, this.2.1⟩
end Go.Abs
namespace Go.Proofs.Ytpfmamngjefohaa.grindOrders
open Go.ChangeShapes Go.WideShapes Go.ChangeAt Go.RowKit Go.Abs
set_option linter.unusedVariables false
theorem own : ownKnob Try.prog.godebug = none := by kernel_rfl
set_option maxRecDepth 100000 in
set_option maxHeartbeats 4000000 in
theorem contract (H : Type) (enc : TypeId × Value → H) (W : World) (base : Nat) (args : Array Value) (ds gs : List (DataW H)) (before : List MemPlace)
    (hval : ∀ (j : Nat) t v, Try.f12.params[j]? = some t → args[j]? = some v → Value.okWide Try.prog W .any base t v)
    (hW : DataW.Whole enc Try.prog Try.f12.params.toList Rows.grindOrdersSpec.vars false W args.toList ds gs before) :
    Calls Try.prog 12 args W fun e W' => ∃ v, e = .returned v ∧ Rows.grindOrdersSpec.post enc Try.prog Try.f12 false true false false W args v W' := by
  have hW' := hW
  obtain ⟨p, q, hA0, hV, hbe, hfz, hnd⟩ := hW
  have hA : DataW.TrodAll enc Try.prog W 0 (fun _ => true) true Try.f12.params.toList args.toList ds p := hA0
  rw [Try.params12] at hA hval
  obtain ⟨v0, v1, d0, d1, p0, p1, rfl, rfl, rfl, h0, h1⟩ := trodAll_two hA
  obtain ⟨rfl, rfl⟩ := trodVars_none hV
  obtain ⟨nil0, l0, hc0, hl0⟩ := open_sts (hval 0 33 v0 rfl rfl) h0
  obtain ⟨n1, lo1, m1, hi1, p1, s1, x1, hc1, hl1⟩ := open_dy (hval 1 97 v1 rfl rfl) h1
  refine (law_calls (k12 nil0 l0 n1 lo1 m1 hi1 p1 s1 x1 hl0 hl1) (cargs := [_, _]) ⟨_, _, rfl, hc0, ⟨_, _, rfl, hc1, rfl⟩⟩).mono fun e W' ⟨he, hb⟩ => ?_
  subst he
  exact ⟨_, rfl, post_law (t := 4) hW' rfl rfl (by kernel_rfl) Try.underlying4 (by kernel_rfl) (by rw [Try.params12]; intro t ht; simp only [List.mem_cons, List.not_mem_nil, or_false] at ht; rcases ht with rfl | rfl <;> exact ⟨by kernel_rfl, of_decide_eq_true (by kernel_rfl)⟩) hb⟩
set_option maxRecDepth 100000 in
theorem lifted (os : Os) (started : os.Started) (H : Type) (enc : TypeId × Value → H) :
    ReturnsInHanded {} Try.checked os 12 .any (Rows.grindOrdersSpec.pre6 enc Try.prog Try.f12 Rows.grindOrdersRow.domain false) (Rows.grindOrdersSpec.post enc Try.prog Try.f12 false true false false) := by
  refine returnsInHanded_of_change (C := Try.checked) own started (by kernel_rfl) Try.func12
    (ChangeSpec.witness6 (enc := enc) (C := Try.checked) false ⟨#[], #[.slice none 0 0, .agg #[.slice none 0 0, .slice none 0 0, .slice none 0 0, .string ⟨#[]⟩, .string ⟨#[]⟩, .int .i64 0]], []⟩ 8 (by kernel_rfl) (by kernel_rfl) (by kernel_rfl) (by kernel_rfl)) ?_
  intro W base args ds gs before hval hW hcnd _
  exact contract H enc W base args ds gs before hval hW
end Go.Proofs.Ytpfmamngjefohaa.grindOrders
