import Derived.Test.YtodheeifecoebaaK29x
import Derived.Test.YtodheeifecoebaaK273x
import Derived.Test.YtodheeifecoebaaK287x
set_option linter.all false
set_option linter.unusedVariables false
set_option linter.unusedSimpArgs false
set_option linter.unusedSectionVars false
namespace Go.Abs
open Go.Proofs
/-! profile.Unwrap: the whole function -/
/-- where a loop is accepted no heights agree with all steps -/
theorem chk_nopot {w : Int} {ph l : List Int} {h : Nat → Int} (hc : (chkLp w ph l).2 = 0) : ¬PotG (edN w ph) (stN ph) h := fun hp => by
  unfold chkLp at hc
  by_cases h0 : 2 ≤ l.length ∧ l.length ≤ 144
  · by_cases h1 : ∀ j, j < l.length → thereB ph (l.getD j 0) = true
    · by_cases h2 : ∀ j, j < l.length → besL w l j = true
      · have hls : loopSum w ph l = (sumL ph l l.length, 0) := by
          unfold loopSum
          rw [if_neg (fun h => h h0), if_neg (fun h => h h1), if_neg (fun h => h h2)]
        have hz : sumL ph l l.length = 0 := sumL_pot (h := fun z => h z.toNat) (by omega) fun k hk => by
          have ha := thereB_r (h1 k hk)
          have hk2 := Nat.mod_lt (k + 1) (show 0 < l.length by omega)
          have hb := thereB_r (h1 _ hk2)
          have h3 := hp (l.getD k 0).toNat (l.getD ((k + 1) % l.length) 0).toNat (by
            unfold edN
            rw [show (((l.getD k 0).toNat : Nat) : Int) = l.getD k 0 by omega, show (((l.getD ((k + 1) % l.length) 0).toNat : Nat) : Int) = l.getD ((k + 1) % l.length) 0 by omega, h1 k hk, h1 _ hk2]
            exact h2 k hk)
          unfold stN at h3
          rw [show (((l.getD k 0).toNat : Nat) : Int) = l.getD k 0 by omega, show (((l.getD ((k + 1) % l.length) 0).toNat : Nat) : Int) = l.getD ((k + 1) % l.length) 0 by omega] at h3
          exact h3.symm
        rw [hls, if_pos ⟨rfl, hz⟩] at hc
        simp at hc
      · have hls : loopSum w ph l = (0, 14) := by
          unfold loopSum
          rw [if_neg (fun h => h h0), if_neg (fun h => h h1), if_pos h2]
        rw [hls] at hc; simp at hc
    · have hls : loopSum w ph l = (0, 6) := by
        unfold loopSum
        rw [if_neg (fun h => h h0), if_pos h1]
      rw [hls] at hc; simp at hc
  · have hls : loopSum w ph l = (0, 10) := by
      unfold loopSum
      rw [if_pos h0]
    rw [hls] at hc; simp at hc
def Q42 (w : Int) (ph : List Int) (r : AV) (H : List Blk) : Prop :=
  ∃ o h, Pc w ph ph.length o h ∧ ((PotG (edN w ph) (stN ph) h ∧ ∃ id, r = .tup [.lsl id 0 ph.length, .sl true 0 [], i64 0] ∧ H[id]? = some (.cells true false 1 ((mk ph.length h).map fun x => [i64 x]))) ∨
    (¬PotG (edN w ph) (stN ph) h ∧ ∃ (id : Nat) (L : List Nat), r = .tup [.sl true 0 [], .lsl id 0 L.length, i64 25] ∧ H[id]? = some (.cells true false 1 ((czN L).map fun x => [i64 x])) ∧ L.length ≤ ph.length ∧ (chkLp w ph (czN L)).2 = 0))
theorem bad42 {w : Int} {ph : List Int} {o : List Nat} {h : Nat → Int} (hpc : Pc w ph ph.length o h) (sl : List (Nat × AV)) (H' : List Blk) (s2 : look sl 2 = .loc 1 0 0) (s3 : look sl 3 = .loc 2 0 0) (s4 : look sl 4 = .loc 3 0 0) (hb : Bad42 w ph H') :
    leaveA [.cell 1 false 2, .cell 1 false 3, .cell 1 false 4] (Q42 w ph) .ret ⟨sl, H'⟩ := by
  obtain ⟨b1, ⟨id, L, b2, b3, b4, b5⟩, b6⟩ := hb
  refine ⟨[.sl true 0 [], .lsl id 0 L.length, i64 25], ?_, o, h, hpc, .inr ⟨chk_nopot b5, id, L, rfl, b3, b4, b5⟩⟩
  simp [resL, resAV, aop, ev, get_mk, s2, s3, s4, hget, b1, b2, b6, value, cut]
set_option maxHeartbeats 8000000 in
theorem k42 (w : Int) (nil : Bool) (ph : List Int) (hl : ph.length ≤ 144) (hc : checkFr w ph = 0) (hp : okPh ph) (hw : 1 ≤ w ∧ w ≤ 1000000) : ACall Try.prog 42 [fmap w nil ph] [] (Q42 w ph) := by
  refine envOf_all e42 ?_
  have h62 := k62 w nil ph (by omega)
  rw [hc] at h62
  have hl0 := fun {c o h fr H} hc hs hm K => k42l0 (w := w) (nil := nil) (ph := ph) (c := c) (o := o) (h := h) (fr := fr) (H := H) (by omega) hp hw hc hs hm K
  have hl2 := fun {o h fr H cell} hs hm hc K hbad => k42l2 (w := w) (nil := nil) (ph := ph) (o := o) (h := h) (fr := fr) (H := H) (cell := cell) hl hp hw hs hm hc K hbad
  have hfirst : PcF w ph 0 [] (fun _ => 0) (fun _ => 0) := ⟨Fo.nil, fun c => by simp, fun i a b hi => by simp at hi, fun b hb => by omega, fun c _ => rfl⟩
  have hm0 : M42 w nil ph [] (fun _ => 0) (fun _ => 0) (B42 w nil ph) := ⟨⟨rfl, rfl, rfl, rfl, fun _ _ _ _ _ => rfl⟩, Nat.le_refl _⟩
  have ez : (mk ph.length fun _ => 0).map (fun x => [i64 x]) = List.replicate ph.length [i64 0] := by
    refine List.ext_getElem (by simp [mk_len]) fun i h1 h2 => ?_
    simp only [List.length_map, mk_len] at h1
    simp [mk]
  have ek : kn ph.length [] = List.replicate ph.length [bl false] := by
    refine List.ext_getElem (by simp [kn]) fun i h1 h2 => ?_
    simp [kn]
  have hrun : ∀ sl, look sl 1 = .loc 0 0 0 → look sl 2 = .loc 1 0 0 → look sl 3 = .loc 2 0 0 → look sl 4 = .loc 3 0 0 → look sl 7 = .loc 8 0 0 → look sl 30 = i64 ph.length → look sl 31 = i64 0 → ∀ K : Exit → St → Prop,
      (∀ o h fr H, PcF w ph ph.length o h fr → M42 w nil ph o h fr H → ∀ τ : St, (τ.only [1, 2, 3, 4, 7]).slots = [(1, .loc 0 0 0), (2, .loc 1 0 0), (3, .loc 2 0 0), (4, .loc 3 0 0), (7, .loc 8 0 0)] → τ.heap = H → K (.exit 0) τ) → T none Try.prog muts 106 0 (.loop c42l0) ⟨sl, B42 w nil ph⟩ K := fun sl s1 s2 s3 s4 s7 s30 s31 K hK => by
    refine T_loop_only [1, 2, 3, 4, 7, 30, 31] (fun m s => ∃ c o h fr, c ≤ ph.length ∧ m = ph.length - c ∧ PcF w ph c o h fr ∧ M42 w nil ph o h fr s.heap ∧ s.slots = SL42 ph.length c) ph.length ⟨0, [], _, _, Nat.zero_le _, rfl, hfirst, hm0, ?_⟩ ?_
    · simp [St.only, get_mk, s1, s2, s3, s4, s7, s30, s31]
    rintro m ⟨s, H⟩ ⟨c, o, h, fr, hcn, rfl, hs, hm, rfl⟩
    by_cases hlt : c < ph.length
    · refine T_thenR (hl0 hlt hs hm _) fun s' h' => ?_
      obtain ⟨o', h', fr', hs', hm', e'⟩ := h'
      exact ⟨ph.length - (c + 1), by omega, c + 1, o', h', fr', by omega, rfl, hs', hm', e'⟩
    · have hce : c = ph.length := by omega
      subst hce
      have f := PLift.up (hK o h fr H hs hm)
      clear hK hl0 hl2 hs hm h62 hc hp
      unfold c42l0
      repeat' (first
        | ((with_reducible refine T_calm ?_ ?_); rfl)
        | with_reducible first
          | refine T_seq ?_
          | refine T_reg ?_
          | refine T_draw ?_
          | refine T_skip ?_
          | refine T_exit ?_
          | refine T_block ?_
          | refine T_cond_t rfl ?_
          | refine T_cond_f rfl ?_
          | refine wdW_cons rfl ?_
          | ((first | refine T_cond rfl (fun hc => ?_) (fun hc => ?_) | refine wguard_split (fun hc => ?_) (fun hc => ?_) | refine wguardX_split (fun hc => ?_) (fun hc => ?_)) <;> have hd := hc <;> (try simp (disch := omega) only [wrapI] at hd) <;> have hs := hd <;> (try simp only [decide_eq_true_eq, decide_eq_false_iff_not, Int.not_lt] at hd) <;> (try simp at hs))
          | refine T_ret ?_
          | refine wif_intro ?_ (fun hc => ?_)
          | refine And.intro ?_ ?_
          | intro hc
        | simp (maxSteps := 4000000) only [wops_nil, wops_cons, wstep_none, wrun_bin, wop, aop, ev, look, put_some, writes, ores_some, binV, thenK, List.append_nil, List.replicate_zero, Option.map_some, if_true, if_false, Nat.reduceEqDiff, Nat.sub_self, reduceCtorEq, eq_self, false_and, Nat.not_lt_zero, Int.toNat_natCast, *]
        | simp (disch := omega) only [getD_ints, wrapI]
        | omega)
      all_goals first | exact f.down _ rfl rfl
  have hrun2 : ∀ {o h fr H}, PcF w ph ph.length o h fr → M42 w nil ph o h fr H → ∀ sl, look sl 2 = .loc 1 0 0 → look sl 3 = .loc 2 0 0 → look sl 4 = .loc 3 0 0 → look sl 7 = .loc 8 0 0 → look sl 56 = i64 ph.length → look sl 57 = i64 0 → ∀ K : Exit → St → Prop,
      (∀ H, PotG (edN w ph) (stN ph) h → M42 w nil ph o h fr H → ∀ τ : St, (τ.only [2, 3, 4, 7]).slots = [(2, .loc 1 0 0), (3, .loc 2 0 0), (4, .loc 3 0 0), (7, .loc 8 0 0)] → τ.heap = H → K (.exit 2) τ) →
      (∀ sl H', look sl 2 = .loc 1 0 0 → look sl 3 = .loc 2 0 0 → look sl 4 = .loc 3 0 0 → Bad42 w ph H' → K .ret ⟨sl, H'⟩) → T none Try.prog muts 106 0 (.loop c42l2) ⟨sl, H⟩ K := fun {o h fr H} hs hm sl s2 s3 s4 s7 s56 s57 K hK hbad => by
    refine T_loop_only [2, 3, 4, 7, 56, 57] (fun m s => ∃ c, c ≤ ph.length ∧ m = ph.length - c ∧ (∀ a, a < c → ∀ b, edN w ph a b = true → okN ph h a b) ∧ M42 w nil ph o h fr s.heap ∧ s.slots = SLt42 ph.length c) ph.length ⟨0, Nat.zero_le _, rfl, fun a ha => by omega, hm, ?_⟩ ?_
    · simp [St.only, get_mk, s2, s3, s4, s7, s56, s57]
    clear hm
    rintro m ⟨s, H⟩ ⟨c, hcn, rfl, hok, hm, rfl⟩
    by_cases hlt : c < ph.length
    · refine T_thenR (hl2 hs hm hlt _ hbad) fun s' h' => ?_
      refine ⟨ph.length - (c + 1), by omega, c + 1, by omega, rfl, fun a ha b he => ?_, h'.2.1, h'.2.2⟩
      rcases Nat.lt_succ_iff_lt_or_eq.1 ha with h | rfl
      · exact hok a h b he
      · exact h'.1 b he
    · have hce : c = ph.length := by omega
      subst hce
      have hg := grid_gr w ph
      have f := PLift.up (hK H (fun a b he => hok a (hg.inn a b he).1 b he) hm)
      clear hK hl0 hl2 hs hm h62 hc hp hbad hok hg hrun
      unfold c42l2
      repeat' (first
        | ((with_reducible refine T_calm ?_ ?_); rfl)
        | with_reducible first
          | refine T_seq ?_
          | refine T_reg ?_
          | refine T_draw ?_
          | refine T_skip ?_
          | refine T_exit ?_
          | refine T_block ?_
          | refine T_cond_t rfl ?_
          | refine T_cond_f rfl ?_
          | refine wdW_cons rfl ?_
          | ((first | refine T_cond rfl (fun hc => ?_) (fun hc => ?_) | refine wguard_split (fun hc => ?_) (fun hc => ?_) | refine wguardX_split (fun hc => ?_) (fun hc => ?_)) <;> have hd := hc <;> (try simp (disch := omega) only [wrapI] at hd) <;> have hs := hd <;> (try simp only [decide_eq_true_eq, decide_eq_false_iff_not, Int.not_lt] at hd) <;> (try simp at hs))
          | refine T_ret ?_
          | refine wif_intro ?_ (fun hc => ?_)
          | refine And.intro ?_ ?_
          | intro hc
        | simp (maxSteps := 4000000) only [wops_nil, wops_cons, wstep_none, wrun_bin, wop, aop, ev, look, put_some, writes, ores_some, binV, thenK, List.append_nil, List.replicate_zero, Option.map_some, if_true, if_false, Nat.reduceEqDiff, Nat.sub_self, reduceCtorEq, eq_self, false_and, Nat.not_lt_zero, Int.toNat_natCast, *]
        | simp (disch := omega) only [getD_ints, wrapI]
        | omega)
      all_goals first | exact f.down _ rfl rfl
  have hend : ∀ {o h fr H}, PcF w ph ph.length o h fr → PotG (edN w ph) (stN ph) h → M42 w nil ph o h fr H → H[8]? = some (.cells true false 1 [[.loc 7 0 0]]) ∧ H[7]? = some (FoB true w nil ph 4 5 6) ∧ H[1]? = some (.cells true false 1 [[.sl true 0 []]]) ∧ (∀ v, (H.set 1 v)[2]? = some (.cells true false 1 [[.sl true 0 []]])) ∧ (∀ v v', ((H.set 1 v).set 2 v')[3]? = some (.cells true false 1 [[i64 0]])) ∧
      ∀ sl, look sl 2 = .loc 1 0 0 → look sl 3 = .loc 2 0 0 → look sl 4 = .loc 3 0 0 → leaveA [.cell 1 false 2, .cell 1 false 3, .cell 1 false 4] (Q42 w ph) .ret ⟨sl, ((H.set 1 (.cells true false 1 [[.lsl 4 0 ph.length]])).set 2 (.cells true false 1 [[.sl true 0 []]])).set 3 (.cells true false 1 [[i64 0]])⟩ := fun {o h fr H} hs hpot hm => by
    obtain ⟨hm, hH⟩ := hm
    obtain ⟨mt, mh, mf, mr, mo⟩ := id hm
    have g0 : ∀ {id : Nat} {B : Blk}, id < 9 → id ≠ 4 → id ≠ 5 → id ≠ 6 → (B42 w nil ph)[id]? = some B → H[id]? = some B := fun {id B} h1 h2 h3 h4 h5 => (mo id h1 h2 h3 h4).trans h5
    have g2 : H[2]? = some (.cells true false 1 [[.sl true 0 []]]) := g0 (by omega) (by omega) (by omega) (by omega) rfl
    have g3 : H[3]? = some (.cells true false 1 [[i64 0]]) := g0 (by omega) (by omega) (by omega) (by omega) rfl
    refine ⟨g0 (by omega) (by omega) (by omega) (by omega) rfl, mt, g0 (by omega) (by omega) (by omega) (by omega) rfl, fun v => by rw [List.getElem?_set_ne (by omega)]; exact g2, fun v v' => by rw [List.getElem?_set_ne (by omega), List.getElem?_set_ne (by omega)]; exact g3, fun sl s2 s3 s4 => ?_⟩
    have b1 : (((H.set 1 (.cells true false 1 [[.lsl 4 0 ph.length]])).set 2 (.cells true false 1 [[.sl true 0 []]])).set 3 (.cells true false 1 [[i64 0]]))[1]? = some (.cells true false 1 [[.lsl 4 0 ph.length]]) := by
      rw [List.getElem?_set_ne (by omega), List.getElem?_set_ne (by omega)]; exact List.getElem?_set_self (by omega)
    have b2 : (((H.set 1 (.cells true false 1 [[.lsl 4 0 ph.length]])).set 2 (.cells true false 1 [[.sl true 0 []]])).set 3 (.cells true false 1 [[i64 0]]))[2]? = some (.cells true false 1 [[.sl true 0 []]]) := by
      rw [List.getElem?_set_ne (by omega)]; exact List.getElem?_set_self (by simp; omega)
    have b3 : (((H.set 1 (.cells true false 1 [[.lsl 4 0 ph.length]])).set 2 (.cells true false 1 [[.sl true 0 []]])).set 3 (.cells true false 1 [[i64 0]]))[3]? = some (.cells true false 1 [[i64 0]]) := List.getElem?_set_self (by simp; omega)
    have b4 : (((H.set 1 (.cells true false 1 [[.lsl 4 0 ph.length]])).set 2 (.cells true false 1 [[.sl true 0 []]])).set 3 (.cells true false 1 [[i64 0]]))[4]? = some (nB ph.length h) := by
      rw [List.getElem?_set_ne (by omega), List.getElem?_set_ne (by omega), List.getElem?_set_ne (by omega)]; exact mh
    refine ⟨[.lsl 4 0 ph.length, .sl true 0 [], i64 0], ?_, o, h, hs.pc, .inl ⟨hpot, 4, rfl, b4⟩⟩
    generalize ((H.set 1 (.cells true false 1 [[.lsl 4 0 ph.length]])).set 2 (.cells true false 1 [[.sl true 0 []]])).set 3 (.cells true false 1 [[i64 0]]) = G at *
    simp [resL, resAV, aop, ev, get_mk, s2, s3, s4, hget, b1, b2, b3, value, cut]
  replace hrun := PLift.up hrun
  replace hrun2 := PLift.up @hrun2
  replace hend := PLift.up @hend
  unfold B42 nB bB FoB at hrun
  rw [ez, ek] at hrun
  clear hl0 hl2 hp hc hfirst hm0 ez ek
  unfold c42
  repeat' (first
    | ((with_reducible refine T_calm ?_ ?_); rfl)
    | with_reducible first
      | refine T_seq ?_
      | refine T_reg ?_
      | refine T_draw ?_
      | refine T_skip ?_
      | refine T_exit ?_
      | refine T_block ?_
      | refine T_cond_t rfl ?_
      | refine T_cond_f rfl ?_
      | refine wdW_cons rfl ?_
      | (show wcall _ false (.lit (.func (.func 62) _ _)) _ _ _ _; refine wcall_fn (h62) rfl (by simp [plainL, plain]) ?_)
      | (show wcallX _ false (.lit (.func (.func 62) _ _)) _ _ _ _; refine wcallX_fn (h62) rfl (by simp [plainL, plain, plainR, Int.toNat_natCast]) ?_)
      | ((first | refine T_cond rfl (fun hc => ?_) (fun hc => ?_) | refine wguard_split (fun hc => ?_) (fun hc => ?_) | refine wguardX_split (fun hc => ?_) (fun hc => ?_)) <;> have hd := hc <;> (try simp (disch := omega) only [wrapI] at hd) <;> have hs := hd <;> (try simp only [Bool.not_eq_true', Bool.not_eq_false', Bool.and_eq_true, Bool.and_eq_false_iff, Bool.or_eq_true, Bool.or_eq_false_iff, decide_eq_true_eq, decide_eq_false_iff_not, beq_iff_eq, bne_iff_ne, beq_eq_false_iff_ne, bne_eq_false_iff_eq, Bool.not_true, Bool.not_false, gt_iff_lt, ge_iff_le, Int.not_lt, Int.not_le, ne_eq, Decidable.not_not] at hd) <;> (try simp at hs))
      | refine T_ret ?_
      | refine wif_intro ?_ (fun hc => ?_)
      | refine And.intro ?_ ?_
      | intro hc
    | simp (maxSteps := 4000000) only [wops_nil, wops_cons, wstep_none, wrun_call, wrun_mv, wrun_bin, wrun_build, wrun_load, wrun_store, wrun_faddr, wrun_len, wrun_alloc, wrun_box, wrun_mks, wrunX_mv, wrunX_build, wrunX_load, wrunX_store, wrunX_alloc, wrunX_box, wrunX_mks, wdW_nil, wstepX_none, wop, aop, ev, look, put_some, put_none, writes, ores_some, ores_ite_none, ores_map, ores_bind, binV, thenK, intV, lenOf, value, cut, hget, fillA, putCells, AV.parts, isOne, toLits, mkAgg, List.map_cons, List.map_nil, List.length_cons, List.length_nil, List.getElem?_cons_zero, List.getElem?_cons_succ, List.set_cons_zero, List.set_cons_succ, List.take_succ_cons, List.take_zero, List.take_nil, List.drop_succ_cons, List.drop_zero, List.drop_nil, List.cons_append, List.nil_append, List.append_nil, List.replicate_zero, List.replicate_succ, List.getD_cons_zero, List.zipIdx_cons, List.zipIdx_nil, List.all_cons, List.all_nil, List.length_map, Option.pure_def, Option.bind_eq_bind, Option.getD_some, Option.map_some, Option.map_none, if_true, if_false, Nat.reduceEqDiff, Nat.reduceAdd, Nat.reduceLeDiff, Nat.reduceLT, Nat.add_zero, Nat.zero_add, Nat.le_refl, Nat.zero_ne_one, reduceCtorEq, Bool.and_true, Bool.false_eq_true, eq_self, true_and, and_true, and_self, freeze, lidsL, lids, List.flatMap_cons, List.flatMap_nil, List.all_cons, ren, Int.toNat_natCast, *]
    | simp (disch := omega) only [getD_ints, wrapI]
    | (with_reducible show wcall _ false (.lit (.func (.func 62) _ _)) _ _ _ _; refine wcall_fn (h62) ?_ ?_ ?_; (next => simp [rfyL, rfy, hget, ints, take_rfy, Int.toNat_natCast]); (next => simp [plainL, plain, plainR, Int.toNat_natCast]))
    | (with_reducible show wcallX _ false (.lit (.func (.func 62) _ _)) _ _ _ _; refine wcallX_fn (h62) ?_ ?_ ?_; (next => simp [rfyL, rfy, hget, ints, take_rfy, Int.toNat_natCast]); (next => simp [plainL, plain, plainR, Int.toNat_natCast]))
    | omega)
  refine hrun.down _ rfl rfl rfl rfl rfl rfl rfl _ fun o h fr H hpc hm τ hsl hτ => ?_
  refine T_onlyW (S := ⟨[(1, .loc 0 0 0), (2, .loc 1 0 0), (3, .loc 2 0 0), (4, .loc 3 0 0), (7, .loc 8 0 0)], H⟩) [1, 2, 3, 4, 7] (by rw [← hsl, ← hτ]; rfl) ?_
  have g0 : H[0]? = some (.cells true false 2 [[i64 w, ints nil ph]]) := (hm.1.o 0 (by show 0 < 9; omega) (by omega) (by omega) (by omega)).trans rfl
  replace hpc := PLift.up hpc
  replace hm := PLift.up hm
  clear hsl hτ hrun h62
  repeat' (first
    | ((with_reducible refine T_calm ?_ ?_); rfl)
    | with_reducible first
      | refine T_seq ?_
      | refine T_reg ?_
      | refine T_draw ?_
      | refine T_skip ?_
      | refine T_exit ?_
      | refine T_block ?_
      | refine T_cond_t rfl ?_
      | refine T_cond_f rfl ?_
      | refine wdW_cons rfl ?_
      | ((first | refine T_cond rfl (fun hc => ?_) (fun hc => ?_) | refine wguard_split (fun hc => ?_) (fun hc => ?_) | refine wguardX_split (fun hc => ?_) (fun hc => ?_)) <;> have hd := hc <;> (try simp (disch := omega) only [wrapI] at hd) <;> have hs := hd <;> (try simp only [Bool.not_eq_true', Bool.not_eq_false', Bool.and_eq_true, Bool.and_eq_false_iff, Bool.or_eq_true, Bool.or_eq_false_iff, decide_eq_true_eq, decide_eq_false_iff_not, beq_iff_eq, bne_iff_ne, beq_eq_false_iff_ne, bne_eq_false_iff_eq, Bool.not_true, Bool.not_false, gt_iff_lt, ge_iff_le, Int.not_lt, Int.not_le, ne_eq, Decidable.not_not] at hd) <;> (try simp at hs))
      | refine T_ret ?_
      | refine wif_intro ?_ (fun hc => ?_)
      | refine And.intro ?_ ?_
      | intro hc
    | simp (maxSteps := 4000000) only [wops_nil, wops_cons, wstep_none, wrun_mv, wrun_load, wrun_faddr, wrun_len, wop, aop, ev, look, put_some, writes, ores_some, ores_map, ores_bind, thenK, intV, lenOf, value, cut, hget, mkAgg, List.length_cons, List.length_nil, List.take_succ_cons, List.take_nil, List.drop_succ_cons, List.drop_zero, List.append_nil, List.replicate_zero, List.getD_cons_zero, List.length_map, Option.pure_def, Option.bind_eq_bind, Option.getD_some, Option.map_some, if_true, if_false, Nat.reduceEqDiff, Nat.zero_add, Bool.false_eq_true, eq_self, *]
    | simp (disch := omega) only [getD_ints, wrapI]
    | omega)
  refine hrun2.down hpc.down hm.down _ rfl rfl rfl rfl rfl rfl _ (fun H' hpot hm' τ hsl hτ => ?_) (fun sl H' s2 s3 s4 hb => bad42 hpc.down.pc sl H' s2 s3 s4 hb)
  refine T_onlyW (S := ⟨[(2, .loc 1 0 0), (3, .loc 2 0 0), (4, .loc 3 0 0), (7, .loc 8 0 0)], H'⟩) [2, 3, 4, 7] (by rw [← hsl, ← hτ]; rfl) ?_
  obtain ⟨g8, g7, g1, g2, g3, hfin⟩ := hend.down hpc.down hpot hm'
  replace hfin := PLift.up hfin
  unfold FoB at g7
  clear hrun2 hend hsl hτ hm hpot hm' hpc g0
  repeat' (first
    | ((with_reducible refine T_calm ?_ ?_); rfl)
    | with_reducible first
      | refine T_seq ?_
      | refine T_reg ?_
      | refine T_draw ?_
      | refine T_skip ?_
      | refine T_exit ?_
      | refine T_block ?_
      | refine T_cond_t rfl ?_
      | refine T_cond_f rfl ?_
      | refine wdW_cons rfl ?_
      | ((first | refine T_cond rfl (fun hc => ?_) (fun hc => ?_) | refine wguard_split (fun hc => ?_) (fun hc => ?_) | refine wguardX_split (fun hc => ?_) (fun hc => ?_)) <;> have hd := hc <;> (try simp (disch := omega) only [wrapI] at hd) <;> have hs := hd <;> (try simp only [Bool.not_eq_true', Bool.not_eq_false', Bool.and_eq_true, Bool.and_eq_false_iff, Bool.or_eq_true, Bool.or_eq_false_iff, decide_eq_true_eq, decide_eq_false_iff_not, beq_iff_eq, bne_iff_ne, beq_eq_false_iff_ne, bne_eq_false_iff_eq, Bool.not_true, Bool.not_false, gt_iff_lt, ge_iff_le, Int.not_lt, Int.not_le, ne_eq, Decidable.not_not] at hd) <;> (try simp at hs))
      | refine T_ret ?_
      | refine wif_intro ?_ (fun hc => ?_)
      | refine And.intro ?_ ?_
      | intro hc
    | simp (maxSteps := 4000000) only [wops_nil, wops_cons, wstep_none, wrun_load, wrun_store, wrun_faddr, wrun_nilck, wop, aop, ev, look, put_some, put_none, writes, ores_some, thenK, value, cut, hget, putCells, AV.parts, isOne, toLits, mkAgg, List.length_cons, List.length_nil, List.set_cons_zero, List.take_succ_cons, List.take_zero, List.take_nil, List.drop_succ_cons, List.drop_zero, List.drop_nil, List.cons_append, List.nil_append, List.append_nil, List.replicate_zero, List.getD_cons_zero, List.all_cons, List.all_nil, Option.getD_some, Option.map_some, if_true, if_false, Nat.reduceEqDiff, Nat.reduceLT, Nat.zero_add, Nat.le_refl, Bool.and_true, Bool.false_eq_true, eq_self, true_and, and_self, List.all_cons, *]
    | simp (disch := omega) only [getD_ints, wrapI]
    | omega)
  all_goals first | exact hfin.down _ rfl rfl rfl
end Go.Abs
