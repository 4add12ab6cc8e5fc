import Derived.Test.YtodheeifecoebaaK284x
set_option linter.all false
set_option linter.unusedVariables false
set_option linter.unusedSimpArgs false
set_option linter.unusedSectionVars false
namespace Go.Abs
open Go.Proofs
/-! profile.Unwrap: all regions -/
theorem PcF.skip {w : Int} {ph : List Int} {c : Nat} {o : List Nat} {h fr : Nat → Int} (hs : PcF w ph c o h fr) (hx : thN ph c = true → c ∈ o) : PcF w ph (c + 1) o h fr := ⟨hs.fo, hs.bd, hs.cl, fun b hb ht => by
    rcases Nat.lt_succ_iff_lt_or_eq.1 hb with h | rfl
    · exact hs.al b h ht
    · exact hx ht, hs.ze⟩
section
variable {H0 H1 H2 : List Blk} {it ih ifr ir : Nat} {ot nl : Bool} {w : Int} {ph : List Int} {o o' : List Nat} {h fr h' fr' : Nat → Int}
theorem Mf.self (m : Mf H0 it ih ifr ir ot nl w ph o h fr H1) : Mf H1 it ih ifr ir ot nl w ph o h fr H1 := ⟨m.t, m.h, m.f, m.r, fun _ _ _ _ _ => rfl⟩
theorem Mf.trans (m : Mf H0 it ih ifr ir ot nl w ph o h fr H1) (m' : Mf H1 it ih ifr ir ot nl w ph o' h' fr' H2) (hl : H0.length ≤ H1.length) : Mf H0 it ih ifr ir ot nl w ph o' h' fr' H2 :=
  ⟨m'.t, m'.h, m'.f, m'.r, fun id hid a1 a2 a3 => by rw [m'.o id (by omega) a1 a2 a3, m.o id hid a1 a2 a3]⟩
theorem Mf.app (m : Mf H0 it ih ifr ir ot nl w ph o h fr H1) (hl : H0.length ≤ H1.length) (X : List Blk) : Mf H0 it ih ifr ir ot nl w ph o h fr (H1 ++ X) :=
  ⟨at_in m.t X, at_in m.h X, at_in m.f X, at_in m.r X, fun id hid a1 a2 a3 => by rw [List.getElem?_append_left (by omega)]; exact m.o id hid a1 a2 a3⟩
end
/-- the blocks of Unwrap that stay -/
abbrev B42 (w : Int) (nil : Bool) (ph : List Int) : List Blk := [.cells true false 2 [[i64 w, ints nil ph]], .cells true false 1 [[.sl true 0 []]], .cells true false 1 [[.sl true 0 []]], .cells true false 1 [[i64 0]],
  nB ph.length (fun _ => 0), nB ph.length (fun _ => 0), bB ph.length [], FoB true w nil ph 4 5 6, .cells true false 1 [[.loc 7 0 0]]]
abbrev M42 (w : Int) (nil : Bool) (ph : List Int) (o : List Nat) (h fr : Nat → Int) (H : List Blk) : Prop := Mf (B42 w nil ph) 7 4 5 6 true nil w ph o h fr H ∧ 9 ≤ H.length
abbrev SL42 (n c : Nat) : List (Nat × AV) := [(1, .loc 0 0 0), (2, .loc 1 0 0), (3, .loc 2 0 0), (4, .loc 3 0 0), (7, .loc 8 0 0), (30, i64 n), (31, i64 c)]
set_option maxHeartbeats 8000000 in
theorem k42l0 {w : Int} {nil : Bool} {ph : List Int} (hl : ph.length < 1000000) (hp : okPh ph) (hw : 1 ≤ w ∧ w ≤ 1000000) {c : Nat} {o : List Nat} {h fr : Nat → Int} {H : List Blk} (hc : c < ph.length) (hs : PcF w ph c o h fr) (hm : M42 w nil ph o h fr H) (K : Exit → St → Prop) :
    T none Try.prog muts 106 0 c42l0 ⟨SL42 ph.length c, H⟩ (thenK (fun s' => ∃ o h fr, PcF w ph (c + 1) o h fr ∧ M42 w nil ph o h fr s'.heap ∧ (s'.only [1, 2, 3, 4, 7, 30, 31]).slots = SL42 ph.length (c + 1)) K) := by
  obtain ⟨hm, hH⟩ := hm
  have h105 := k105 w nil ph c (by omega)
  obtain ⟨mt, mh, mf, mr, mo⟩ := id hm
  have g8 : H[8]? = some (.cells true false 1 [[.loc 7 0 0]]) := by rw [mo 8 (by show 8 < 9; omega) (by omega) (by omega) (by omega)]; rfl
  have g4 := kn_len ph.length o
  have g5 := kn_get (o := o) hc
  have g1 : ∀ i : Nat, i < 9 → i < H.length := fun i hi => by omega
  have hth : thereB ph (c : Int) = thN ph c := rfl
  rw [hth] at h105
  have hcc : ((c : Int) < (ph.length : Int)) := by omega
  cases ht : thN ph c with
  | false =>
    have f := PLift.up (hs.skip fun h => by rw [ht] at h; simp at h)
    rw [ht] at h105
    have hm' := PLift.up hm
    have hH' := PLift.up hH
    clear hs hm mo hp mh mf mr g5 hth
    unfold FoB at mt
    unfold c42l0
    repeat' (first
      | ((with_reducible refine T_calm ?_ ?_); rfl)
      | with_reducible first
        | refine T_seq ?_
        | refine T_reg ?_
        | refine T_draw ?_
        | refine T_skip ?_
        | refine T_exit ?_
        | refine T_block ?_
        | refine T_cond_t rfl ?_
        | refine T_cond_f rfl ?_
        | refine wdW_cons rfl ?_
        | (show wcall _ false (.lit (.func (.func 105) _ _)) _ _ _ _; refine wcall_fn (h105) rfl (by simp [plainL, plain]) ?_)
        | (show wcallX _ false (.lit (.func (.func 105) _ _)) _ _ _ _; refine wcallX_fn (h105) rfl (by simp [plainL, plain, plainR, Int.toNat_natCast]) ?_)
        | ((first | refine T_cond rfl (fun hc => ?_) (fun hc => ?_) | refine wguard_split (fun hc => ?_) (fun hc => ?_) | refine wguardX_split (fun hc => ?_) (fun hc => ?_)) <;> have hd := hc <;> (try simp (disch := omega) only [wrapI] at hd) <;> have hs := hd <;> (try simp only [Bool.not_eq_true', Bool.not_eq_false', Bool.and_eq_true, Bool.and_eq_false_iff, Bool.or_eq_true, Bool.or_eq_false_iff, decide_eq_true_eq, decide_eq_false_iff_not, beq_iff_eq, bne_iff_ne, beq_eq_false_iff_ne, bne_eq_false_iff_eq, Bool.not_true, Bool.not_false, gt_iff_lt, ge_iff_le, Int.not_lt, Int.not_le, ne_eq, Decidable.not_not] at hd) <;> (try simp at hs))
        | refine T_ret ?_
        | refine wif_intro ?_ (fun hc => ?_)
        | refine And.intro ?_ ?_
        | intro hc
      | simp (maxSteps := 4000000) only [wops_nil, wops_cons, wstep_none, wstep_some, wguard_ft, wrun_call, wrun_mv, wrun_pick, wrun_bin, wrun_load, wrun_faddr, wrun_nilck, wop, aop, ev, look, put_some, writes, ores_some, binV, thenK, blockK, value, cut, hget, toLits, mkAgg, List.map_cons, List.map_nil, List.length_cons, List.length_nil, List.take_succ_cons, List.take_zero, List.take_nil, List.drop_zero, List.append_nil, List.replicate_zero, List.getD_cons_zero, Option.getD_some, Option.map_some, Option.map_none, if_true, if_false, Nat.reduceEqDiff, Nat.reduceAdd, Nat.add_zero, Nat.zero_add, reduceCtorEq, Bool.false_eq_true, eq_self, decide_true, freeze, lidsL, lids, List.flatMap_cons, List.flatMap_nil, ren, Int.toNat_natCast, *]
      | simp (disch := omega) only [wrapI]
      | (with_reducible show wcall _ false (.lit (.func (.func 105) _ _)) _ _ _ _; refine wcall_fn (h105) ?_ ?_ ?_; (next => simp [rfyL, rfy, hget, ints, take_rfy, Int.toNat_natCast]); (next => simp [plainL, plain, plainR, Int.toNat_natCast]))
      | (with_reducible show wcallX _ false (.lit (.func (.func 105) _ _)) _ _ _ _; refine wcallX_fn (h105) ?_ ?_ ?_; (next => simp [rfyL, rfy, hget, ints, take_rfy, Int.toNat_natCast]); (next => simp [plainL, plain, plainR, Int.toNat_natCast]))
      | omega)
    all_goals first | exact ⟨o, h, fr, f.down, ⟨hm'.down, hH'.down⟩, by simp [St.only, get_mk, look]⟩
  | true =>
    rw [ht] at h105
    cases hb : decide (c ∈ o) with
    | true =>
      have f := PLift.up (hs.skip fun _ => by simpa using hb)
      rw [hb] at g5
      have hm' := PLift.up hm
      have hH' := PLift.up hH
      clear hs hm mo hp mh mf hth
      unfold FoB at mt
      unfold bB at mr
      unfold c42l0
      repeat' (first
        | ((with_reducible refine T_calm ?_ ?_); rfl)
        | with_reducible first
          | refine T_seq ?_
          | refine T_reg ?_
          | refine T_draw ?_
          | refine T_skip ?_
          | refine T_exit ?_
          | refine T_block ?_
          | refine T_cond_t rfl ?_
          | refine T_cond_f rfl ?_
          | refine wdW_cons rfl ?_
          | (show wcall _ false (.lit (.func (.func 105) _ _)) _ _ _ _; refine wcall_fn (h105) rfl (by simp [plainL, plain]) ?_)
          | (show wcallX _ false (.lit (.func (.func 105) _ _)) _ _ _ _; refine wcallX_fn (h105) rfl (by simp [plainL, plain, plainR, Int.toNat_natCast]) ?_)
          | ((first | refine T_cond rfl (fun hc => ?_) (fun hc => ?_) | refine wguard_split (fun hc => ?_) (fun hc => ?_) | refine wguardX_split (fun hc => ?_) (fun hc => ?_)) <;> have hd := hc <;> (try simp (disch := omega) only [wrapI] at hd) <;> have hs := hd <;> (try simp only [Bool.not_eq_true', Bool.not_eq_false', Bool.and_eq_true, Bool.and_eq_false_iff, Bool.or_eq_true, Bool.or_eq_false_iff, decide_eq_true_eq, decide_eq_false_iff_not, beq_iff_eq, bne_iff_ne, beq_eq_false_iff_ne, bne_eq_false_iff_eq, Bool.not_true, Bool.not_false, gt_iff_lt, ge_iff_le, Int.not_lt, Int.not_le, ne_eq, Decidable.not_not] at hd) <;> (try simp at hs))
          | refine T_ret ?_
          | refine wif_intro ?_ (fun hc => ?_)
          | refine And.intro ?_ ?_
          | intro hc
        | simp (maxSteps := 4000000) only [wops_nil, wops_cons, wstep_none, wstep_some, wguard_true, wrun_call, wrun_mv, wrun_pick, wrun_bin, wrun_not, wrun_load, wrun_faddr, wrun_iaddrS, wrun_nilck, wop, aop, ev, look, put_some, writes, ores_some, ores_ite_none, binV, thenK, blockK, boolV, value, cut, hget, toLits, mkAgg, List.map_cons, List.map_nil, List.length_cons, List.length_nil, List.take_succ_cons, List.take_zero, List.take_nil, List.drop_succ_cons, List.drop_zero, List.append_nil, List.replicate_zero, List.getD_cons_zero, Option.getD_some, Option.map_some, Option.map_none, if_true, if_false, Nat.reduceEqDiff, Nat.reduceAdd, Nat.add_zero, Nat.zero_add, reduceCtorEq, Bool.not_true, Bool.false_eq_true, eq_self, and_true, and_self, decide_true, freeze, lidsL, lids, List.flatMap_cons, List.flatMap_nil, ren, Int.toNat_natCast, *]
        | simp (disch := omega) only [wrapI]
        | (with_reducible show wcall _ false (.lit (.func (.func 105) _ _)) _ _ _ _; refine wcall_fn (h105) ?_ ?_ ?_; (next => simp [rfyL, rfy, hget, ints, take_rfy, Int.toNat_natCast]); (next => simp [plainL, plain, plainR, Int.toNat_natCast]))
        | (with_reducible show wcallX _ false (.lit (.func (.func 105) _ _)) _ _ _ _; refine wcallX_fn (h105) ?_ ?_ ?_; (next => simp [rfyL, rfy, hget, ints, take_rfy, Int.toNat_natCast]); (next => simp [plainL, plain, plainR, Int.toNat_natCast]))
        | omega)
      all_goals first | exact ⟨o, h, fr, f.down, ⟨hm'.down, hH'.down⟩, by simp [St.only, get_mk, look]⟩
    | false =>
      have hco : c ∉ o := by simpa using hb
      have hcall := k106 (ot := true) (nl := nil) hl hp hw (H0 := H) (it := 7) (ih := 4) (ifr := 5) (ir := 6) ⟨⟨by omega, by omega, by omega, by omega⟩, by omega, by omega, by omega, by omega, by omega, by omega⟩ hs hco ht hm.self
      rw [hb] at g5
      replace hcall := PLift.up hcall
      have hm' := PLift.up hm
      have hH' := PLift.up hH
      clear hs hm mo hp mh mf hth
      unfold FoB at mt
      unfold bB at mr
      unfold c42l0
      repeat' (first
        | ((with_reducible refine T_calm ?_ ?_); rfl)
        | with_reducible first
          | refine T_seq ?_
          | refine T_reg ?_
          | refine T_draw ?_
          | refine T_skip ?_
          | refine T_exit ?_
          | refine T_block ?_
          | refine T_cond_t rfl ?_
          | refine T_cond_f rfl ?_
          | refine wdW_cons rfl ?_
          | (show wcall _ false (.lit (.func (.func 105) _ _)) _ _ _ _; refine wcall_fn (h105) rfl (by simp [plainL, plain]) ?_)
          | (show wcallX _ false (.lit (.func (.func 105) _ _)) _ _ _ _; refine wcallX_fn (h105) rfl (by simp [plainL, plain, plainR, Int.toNat_natCast]) ?_)
          | ((first | refine T_cond rfl (fun hc => ?_) (fun hc => ?_) | refine wguard_split (fun hc => ?_) (fun hc => ?_) | refine wguardX_split (fun hc => ?_) (fun hc => ?_)) <;> have hd := hc <;> (try simp (disch := omega) only [wrapI] at hd) <;> have hs := hd <;> (try simp only [Bool.not_eq_true', Bool.not_eq_false', Bool.and_eq_true, Bool.and_eq_false_iff, Bool.or_eq_true, Bool.or_eq_false_iff, decide_eq_true_eq, decide_eq_false_iff_not, beq_iff_eq, bne_iff_ne, beq_eq_false_iff_ne, bne_eq_false_iff_eq, Bool.not_true, Bool.not_false, gt_iff_lt, ge_iff_le, Int.not_lt, Int.not_le, ne_eq, Decidable.not_not] at hd) <;> (try simp at hs))
          | refine T_ret ?_
          | refine wif_intro ?_ (fun hc => ?_)
          | refine And.intro ?_ ?_
          | intro hc
        | simp (maxSteps := 4000000) only [wops_nil, wops_cons, wstep_none, wstep_some, wguard_true, wrun_call, wrun_mv, wrun_pick, wrun_bin, wrun_not, wrun_load, wrun_faddr, wrun_iaddrS, wrun_nilck, wop, aop, ev, look, put_some, writes, ores_some, ores_ite_none, binV, thenK, boolV, value, cut, hget, toLits, mkAgg, List.map_cons, List.map_nil, List.length_cons, List.length_nil, List.take_succ_cons, List.take_zero, List.take_nil, List.drop_succ_cons, List.drop_zero, List.append_nil, List.replicate_zero, List.getD_cons_zero, Option.getD_some, Option.map_some, Option.map_none, if_true, if_false, Nat.reduceEqDiff, Nat.reduceAdd, Nat.add_zero, Nat.zero_add, reduceCtorEq, Bool.not_false, Bool.false_eq_true, eq_self, and_true, and_self, decide_true, freeze, lidsL, lids, List.flatMap_cons, List.flatMap_nil, ren, Int.toNat_natCast, *]
        | simp (disch := omega) only [getD_ints, wrapI]
        | (with_reducible show wcall _ false (.lit (.func (.func 105) _ _)) _ _ _ _; refine wcall_fn (h105) ?_ ?_ ?_; (next => simp [rfyL, rfy, hget, ints, take_rfy, Int.toNat_natCast]); (next => simp [plainL, plain, plainR, Int.toNat_natCast]))
        | (with_reducible show wcallX _ false (.lit (.func (.func 105) _ _)) _ _ _ _; refine wcallX_fn (h105) ?_ ?_ ?_; (next => simp [rfyL, rfy, hget, ints, take_rfy, Int.toNat_natCast]); (next => simp [plainL, plain, plainR, Int.toNat_natCast]))
        | omega)
      refine wcall_raw (hcall.down.mono fun r H' hQ => ?_)
      obtain ⟨o', h', fr', hs', hm2⟩ := hQ
      have h8 : H'[8]? = some (.cells true false 1 [[.loc 7 0 0]]) := by rw [hm2.o 8 (by omega) (by omega) (by omega) (by omega)]; exact g8
      have hl8 := (List.getElem?_eq_some_iff.1 h8).1
      have f := PLift.up (show PcF w ph (c + 1) o' h' fr' ∧ M42 w nil ph o' h' fr' H' from ⟨hs', hm'.down.trans hm2 hH'.down, by omega⟩)
      clear hcall hm' hH' hs' hm2 mt mr g8 g5 h105
      repeat' (first
        | ((with_reducible refine T_calm ?_ ?_); rfl)
        | with_reducible first
          | refine T_seq ?_
          | refine T_reg ?_
          | refine T_draw ?_
          | refine T_skip ?_
          | refine T_exit ?_
          | refine T_block ?_
          | refine T_cond_t rfl ?_
          | refine T_cond_f rfl ?_
          | refine wdW_cons rfl ?_
          | ((first | refine T_cond rfl (fun hc => ?_) (fun hc => ?_) | refine wguard_split (fun hc => ?_) (fun hc => ?_) | refine wguardX_split (fun hc => ?_) (fun hc => ?_)) <;> have hd := hc <;> (try simp (disch := omega) only [wrapI] at hd) <;> have hs := hd <;> (try simp only [Bool.not_eq_true', Bool.not_eq_false', Bool.and_eq_true, Bool.and_eq_false_iff, Bool.or_eq_true, Bool.or_eq_false_iff, decide_eq_true_eq, decide_eq_false_iff_not, beq_iff_eq, bne_iff_ne, beq_eq_false_iff_ne, bne_eq_false_iff_eq, Bool.not_true, Bool.not_false, gt_iff_lt, ge_iff_le, Int.not_lt, Int.not_le, ne_eq, Decidable.not_not] at hd) <;> (try simp at hs))
          | refine T_ret ?_
          | refine wif_intro ?_ (fun hc => ?_)
          | refine And.intro ?_ ?_
          | intro hc
        | simp (maxSteps := 4000000) only [wops_nil, wops_cons, wstep_none, wrun_mv, wrun_bin, wop, aop, ev, look, put_some, writes, ores_some, binV, thenK, blockK, List.append_nil, List.replicate_zero, Option.map_some, if_true, if_false, Nat.reduceEqDiff, reduceCtorEq, eq_self, *]
        | simp (disch := omega) only [wrapI]
        | omega)
      all_goals first | exact ⟨o', h', fr', f.down.1, f.down.2, by simp [St.only, get_mk, look]⟩
end Go.Abs
