import Derived.Test.YtodheeifecoebaaK283x
set_option linter.all false
set_option linter.unusedVariables false
set_option linter.unusedSimpArgs false
set_option linter.unusedSectionVars false
namespace Go.Abs
open Go.Proofs
/-! spread: the whole function -/
def c106r7 : ACode :=
 (.dreg 0 [(0, ⟨(some 7), (.load 1 false (.tmp 2)), none, 0⟩), (1, ⟨(some 8), (.nilck (.tmp 7)), none, 0⟩), (2, ⟨(some 9), (.faddr 4 (.tmp 8)), none, 0⟩), (3, ⟨(some 10), (.load 1 false (.tmp 9)), none, 0⟩), (4, ⟨(some 11), (.mv (.tmp 1)), none, 0⟩), (5, ⟨(some 12), (.load 1 false (.tmp 2)), none, 0⟩), (6, ⟨(some 13), (.nilck (.tmp 12)), none, 0⟩), (7, ⟨(some 14), (.faddr 3 (.tmp 13)), none, 0⟩), (8, ⟨(some 15), (.load 1 false (.tmp 14)), none, 0⟩), (9, ⟨(some 16), (.mv (.tmp 1)), none, 0⟩), (10, ⟨(some 17), (.load 1 false (.tmp 2)), none, 0⟩), (11, ⟨(some 18), (.nilck (.tmp 17)), none, 0⟩), (12, ⟨(some 19), (.faddr 2 (.tmp 18)), none, 0⟩), (13, ⟨(some 20), (.load 1 false (.tmp 19)), none, 0⟩), (14, ⟨(some 21), (.mv (.tmp 1)), none, 0⟩), (15, ⟨(some 22), (.load 1 false (.tmp 2)), none, 0⟩), (16, ⟨(some 23), (.nilck (.tmp 22)), none, 0⟩), (17, ⟨(some 24), (.faddr 0 (.tmp 23)), none, 0⟩), (18, ⟨(some 25), (.faddr 1 (.tmp 24)), none, 0⟩), (19, ⟨(some 26), (.load 1 false (.tmp 25)), none, 0⟩), (20, ⟨(some 27), (.mv (.tmp 1)), none, 0⟩), (21, ⟨(some 28), (.iaddrS 1 (.tmp 26) (.tmp 27)), none, 0⟩), (22, ⟨(some 29), (.load 1 false (.tmp 28)), none, 0⟩), (23, ⟨(some 30), (.iaddrS 1 (.tmp 10) (.tmp 11)), none, 0⟩), (24, ⟨none, (.store 1 (.tmp 30) (.val (.lit (.bool true)))), none, 0⟩), (25, ⟨(some 31), (.iaddrS 1 (.tmp 15) (.tmp 16)), none, 0⟩), (26, ⟨none, (.store 1 (.tmp 31) (.val (.lit (.int .i64 (-1))))), none, 0⟩), (27, ⟨(some 32), (.iaddrS 1 (.tmp 20) (.tmp 21)), none, 0⟩), (28, ⟨none, (.store 1 (.tmp 32) (.tmp 29)), none, 0⟩)] [[], [0], [1, 0], [2, 1, 0], [], [], [5], [6, 5], [7, 6, 5], [], [], [10], [11, 10], [12, 11, 10], [], [], [15], [16, 15], [17, 16, 15], [18, 17, 16, 15], [], [19, 20, 18, 17, 16, 15], [21, 19, 20, 18, 17, 16, 15], [3, 4, 0, 1, 2, 8, 13, 19, 22, 7, 6, 5, 12, 11, 10, 18, 17, 16, 15, 21, 20], [23, 0, 1, 2, 3, 4, 8, 13, 19, 22, 7, 6, 5, 12, 11, 10, 18, 17, 16, 15, 21, 20], [8, 9, 0, 1, 2, 3, 4, 5, 6, 7, 13, 19, 22, 23, 24, 12, 11, 10, 18, 17, 16, 15, 21, 20], [25, 24, 0, 1, 2, 3, 4, 5, 6, 7, 8, 9, 13, 19, 22, 23, 12, 11, 10, 18, 17, 16, 15, 21, 20], [13, 14, 0, 1, 2, 3, 4, 5, 6, 7, 8, 9, 10, 11, 12, 15, 16, 17, 18, 19, 20, 21, 22, 23, 24, 25, 26], [27, 22, 26, 0, 1, 2, 3, 4, 5, 6, 7, 8, 9, 10, 11, 12, 13, 14, 15, 16, 17, 18, 19, 20, 21, 23, 24, 25]])
theorem c106_cut : c106 =  (.seq (.reg 1 [⟨(some 2), (.box 1 (.tmp 0)), none, 0⟩])
 (.seq c106r7
 (.seq (.reg 2 [⟨(some 33), (.mv (.tmp 1)), none, 0⟩, ⟨(some 34), (.bslice 1 1 [(.lit (.int .i64 0))] [(0, (.tmp 33))]), none, 0⟩, ⟨(some 4), (.alloc [(.sl true 0 [])]), none, 1⟩, ⟨none, (.store 1 (.tmp 4) (.tmp 34)), none, 2⟩])
 (.block 0 (.loop c106l1))))) := rfl
set_option maxHeartbeats 8000000 in
theorem k106i {ot nl : Bool} {w : Int} {ph : List Int} (hl : ph.length < 1000000) {it ih ifr ir N0 : Nat} {o : List Nat} {h fr : Nat → Int} {c : Nat} {H : List Blk} (hc : c < ph.length)
    (hT : H[it]? = some (FoB ot w nl ph ih ifr ir)) (hH : H[ih]? = some (nB ph.length h)) (hF : H[ifr]? = some (nB ph.length fr)) (hR : H[ir]? = some (bB ph.length o)) (h1 : ih ≠ ifr) (h2 : ih ≠ ir) (h3 : ifr ≠ ir)
    (hV : H[N0]? = some (.cells true false 1 [[.loc it 0 0]])) {md : Option Nat} {b0 : Nat} (K : Exit → St → Prop)
    (hK : ∀ τ : St, τ.only [1, 2] = ⟨[(1, i64 c), (2, .loc N0 0 0)], ((H.set ir (bB ph.length (o ++ [c]))).set ifr (nB ph.length (upd fr c (-1)))).set ih (nB ph.length (upd h c (ph.getD c 0)))⟩ → K .normal τ) :
    T md Try.prog muts 96 b0 c106r7 ⟨[(1, i64 c), (2, .loc N0 0 0)], H⟩ K := by
  have g1 : (ph.map fun x => [i64 x]).getD c [] = [i64 (ph.getD c 0)] := getD_ints hc
  have g2 : ((mk ph.length h).map fun x => [i64 x]).length = ph.length := by rw [List.length_map, mk_len]
  have t1 : (((mk ph.length h).map fun x => [i64 x])[c]?.getD []).tail = [] := by rw [← List.getD_eq_getElem?_getD, getD_ints (by rw [mk_len]; exact hc)]; rfl
  have t2 : ((kn ph.length o)[c]?.getD []).tail = [] := by rw [← List.getD_eq_getElem?_getD, kn_get hc]; rfl
  have g3 := mk_len ph.length fr
  have g4 := kn_len ph.length o
  have lr := (List.getElem?_eq_some_iff.1 hR).1
  have lf := (List.getElem?_eq_some_iff.1 hF).1
  have lh := (List.getElem?_eq_some_iff.1 hH).1
  have lt := (List.getElem?_eq_some_iff.1 hT).1
  have lv := (List.getElem?_eq_some_iff.1 hV).1
  have f1 : ∀ v, (H.set ir v)[ifr]? = some (nB ph.length fr) := fun v => by rw [List.getElem?_set_ne (Ne.symm h3)]; exact hF
  have f2 : ∀ v v', ((H.set ir v).set ifr v')[ih]? = some (nB ph.length h) := fun v v' => by rw [List.getElem?_set_ne (Ne.symm h1), List.getElem?_set_ne (Ne.symm h2)]; exact hH
  have es1 : ∀ (f : Nat → Int) (v : Int), ((mk ph.length f).map fun x => [i64 x]).set c [i64 v] = (mk ph.length (upd f c v)).map fun x => [i64 x] := fun f v => by rw [← mk_upd, List.map_set]
  have es2 : (kn ph.length o).set c [bl true] = kn ph.length (o ++ [c]) := kn_set
  have k1 := es1 h (ph.getD c 0)
  have k2 := es1 fr (-1)
  unfold nB bB at hK
  unfold nB at hH hF f1 f2
  unfold bB at hR
  rw [← k1, ← k2, ← es2] at hK
  clear es1 es2 k1 k2 h1 h2 h3
  replace hK := PLift.up hK
  unfold FoB at hT
  generalize (mk ph.length h).map (fun x => [i64 x]) = LH at *
  unfold c106r7
  repeat' (first
    | ((with_reducible refine T_calm ?_ ?_); rfl)
    | with_reducible first
      | refine T_seq ?_
      | refine T_reg ?_
      | refine T_draw ?_
      | refine T_skip ?_
      | refine T_exit ?_
      | refine T_block ?_
      | refine T_cond_t rfl ?_
      | refine T_cond_f rfl ?_
      | refine wdW_cons rfl ?_
      | ((first | refine T_cond rfl (fun hc => ?_) (fun hc => ?_) | refine wguard_split (fun hc => ?_) (fun hc => ?_) | refine wguardX_split (fun hc => ?_) (fun hc => ?_)) <;> have hd := hc <;> (try simp (disch := omega) only [wrapI] at hd) <;> have hs := hd <;> (try simp only [Bool.not_eq_true', Bool.not_eq_false', Bool.and_eq_true, Bool.and_eq_false_iff, Bool.or_eq_true, Bool.or_eq_false_iff, decide_eq_true_eq, decide_eq_false_iff_not, beq_iff_eq, bne_iff_ne, beq_eq_false_iff_ne, bne_eq_false_iff_eq, Bool.not_true, Bool.not_false, gt_iff_lt, ge_iff_le, Int.not_lt, Int.not_le, ne_eq, Decidable.not_not] at hd) <;> (try simp at hs))
      | refine T_ret ?_
      | refine wif_intro ?_ (fun hc => ?_)
      | refine And.intro ?_ ?_
      | intro hc
    | simp (maxSteps := 4000000) only [wrun_mv, wrun_load, wrun_store, wrun_faddr, wrun_iaddrS, wrun_nilck, wrunX_mv, wrunX_load, wrunX_store, wrunX_faddr, wrunX_iaddrS, wrunX_nilck, wdW_nil, wstepX_none, wop, aop, ev, look, put_some, put_none, writes, ores_some, ores_ite_none, value, cut, hget, putCells, AV.parts, isOne, toLits, mkAgg, List.length_cons, List.length_nil, List.take_succ_cons, List.take_zero, List.take_nil, List.drop_succ_cons, List.drop_zero, List.drop_nil, List.cons_append, List.nil_append, List.append_nil, List.replicate_zero, List.getD_cons_zero, List.all_cons, List.all_nil, List.length_map, Option.getD_some, Option.map_some, if_true, if_false, Nat.reduceEqDiff, Nat.add_zero, Nat.zero_add, Nat.le_refl, Bool.and_true, Bool.false_eq_true, eq_self, and_true, and_self, Int.reduceNeg, List.all_cons, Int.toNat_natCast, *]
    | simp (disch := omega) only [getD_ints]
    | (with_reducible refine wdW_cons ?_ ?_; (next => simp [chk, foot, compatB, argsOf, St.get, target, ev, look, lidsL, hget, kind, wids, wtops, tops, opds, topId, Int.toNat_natCast, lt, lv, lr, lf, lh]; done))
    | omega)
  all_goals first | exact hK.down _ (by simp [St.only, get_mk, look, t1, t2])
set_option maxHeartbeats 8000000 in
theorem k106 {ot nl : Bool} {w : Int} {ph : List Int} (hl : ph.length < 1000000) (hp : okPh ph) (hw : 1 ≤ w ∧ w ≤ 1000000) {it ih ifr ir : Nat} {o : List Nat} {h fr : Nat → Int} {c : Nat} {H0 : List Blk} (hi : Ids H0.length it ih ifr ir)
    (hs : PcF w ph c o h fr) (hco : c ∉ o) (ht : thN ph c = true) (hm : Mf H0 it ih ifr ir ot nl w ph o h fr H0) :
    ACall Try.prog 106 [.loc it 0 0, i64 c] H0 (fun _ H => ∃ o' h' fr', PcF w ph (c + 1) o' h' fr' ∧ Mf H0 it ih ifr ir ot nl w ph o' h' fr' H) := by
  refine envOf_all e106 ?_
  have hcn := thN_lt ht
  have hpc := hp c
  have hsp := hs.first hco ht (by
    have : ph.getD c 0 ≠ -1 := by
      have h1 := ht
      unfold thN thereB at h1
      rw [Int.toNat_natCast] at h1
      exact (of_decide_eq_true h1).2.2
    omega)
  have hal : ∀ b, b < c → thN ph b = true → b ∈ o ++ [c] := fun b hb htb => List.mem_append_left _ (hs.al b hb htb)
  have hcm : c ∈ o ++ [c] := by simp
  obtain ⟨hlt, n1, n2, n3, n4, n5, n6⟩ := id hi
  obtain ⟨mt, mh, mf, mr, mo⟩ := hm
  have hin := fun {i : Nat} {b : Blk} (h : H0[i]? = some b) => at_in h [Blk.cells true false 1 [[.loc it 0 0]]]
  have hdd := fun K hK => k106i (md := none) (b0 := H0.length) hl hcn (hin mt) (hin mh) (hin mf) (hin mr) n4 n5 n6 (N0 := H0.length) (by simp) K hK
  obtain ⟨G, hG⟩ : ∃ G : List Blk, G = (((H0 ++ [Blk.cells true false 1 [[.loc it 0 0]]]).set ir (bB ph.length (o ++ [c]))).set ifr (nB ph.length (upd fr c (-1)))).set ih (nB ph.length (upd h c (ph.getD c 0))) := ⟨_, rfl⟩
  rw [← hG] at hdd
  have gl : G.length = H0.length + 1 := by rw [hG]; simp
  have go : ∀ id, id ≠ ih → id ≠ ifr → id ≠ ir → G[id]? = (H0 ++ [Blk.cells true false 1 [[.loc it 0 0]]])[id]? := fun id a1 a2 a3 => by
    rw [hG, List.getElem?_set_ne (Ne.symm a1), List.getElem?_set_ne (Ne.symm a2), List.getElem?_set_ne (Ne.symm a3)]
  have gh : G[ih]? = some (nB ph.length (upd h c (ph.getD c 0))) := by rw [hG]; exact List.getElem?_set_self (by simp; omega)
  have gf : G[ifr]? = some (nB ph.length (upd fr c (-1))) := by rw [hG, List.getElem?_set_ne n4]; exact List.getElem?_set_self (by simp; omega)
  have gr : G[ir]? = some (bB ph.length (o ++ [c])) := by rw [hG, List.getElem?_set_ne n5, List.getElem?_set_ne n6]; exact List.getElem?_set_self (by simp; omega)
  have hmf : Mf H0 it ih ifr ir ot nl w ph (o ++ [c]) (upd h c (ph.getD c 0)) (upd fr c (-1)) (G ++ [.cells true false 1 [[i64 c]], .cells true false 1 [[.lsl (H0.length + 1) 0 1]]]) := by
    refine ⟨?_, at_in gh _, at_in gf _, at_in gr _, fun id hid a1 a2 a3 => ?_⟩
    · refine at_in ?_ _
      rw [go _ n1 n2 n3, List.getElem?_append_left (by omega)]; exact mt
    · rw [List.getElem?_append_left (by omega), go _ a1 a2 a3, List.getElem?_append_left (by omega)]
  have hmq : Mq H0.length it (H0.length + 3) (H0.length + 3) ((o ++ [c]).drop o.length) (G ++ [.cells true false 1 [[i64 c]], .cells true false 1 [[.lsl (H0.length + 1) 0 1]]]) := by
    have ed : (o ++ [c]).drop o.length = [c] := by simp
    rw [ed]
    refine ⟨⟨by omega, by omega, by simp [gl]⟩, ?_, H0.length + 1, 0, [[i64 c]], by omega, by omega, .inl (by omega), ?_, ?_, by simp, by simp⟩
    · rw [List.getElem?_append_left (by omega), go _ (by omega) (by omega) (by omega)]; simp
    · rw [List.getElem?_append_right (by omega), gl, show H0.length + 2 - (H0.length + 1) = 1 by omega]; rfl
    · rw [List.getElem?_append_right (by omega), gl, Nat.sub_self]; rfl
  have hround := fun {p o1 h1 fr1 H K} hs1 hm1 B E hq1 hK hX => k106l (H0 := H0) (N0 := H0.length) (it := it) (ih := ih) (ifr := ifr) (ir := ir) (ot := ot) (nl := nl) (o0 := o ++ [c]) (p := p) (o := o1) (h := h1) (fr := fr1) (H := H) (B := B) (E := E) hl hp hw rfl hi hs1 hm1 hq1 K hK hX
  have hrun : ∀ {sl : List (Nat × AV)}, look sl 2 = .loc H0.length 0 0 → look sl 4 = .loc (H0.length + 2) 0 0 → T none Try.prog muts 96 H0.length (.loop c106l1) ⟨sl, G ++ [.cells true false 1 [[i64 c]], .cells true false 1 [[.lsl (H0.length + 1) 0 1]]]⟩
      (blockK 0 (leaveA [] (fun _ H => ∃ o' h' fr', PcF w ph (c + 1) o' h' fr' ∧ Mf H0 it ih ifr ir ot nl w ph o' h' fr' H))) := fun {sl} s2 s4 => by
    refine T_loop_only [2, 4] (fun m s => ∃ p o1 h1 fr1, m = ph.length - p ∧ Sp w ph (o ++ [c]) p o1 h1 fr1 ∧ Mf H0 it ih ifr ir ot nl w ph o1 h1 fr1 s.heap ∧ (∃ B E, Mq H0.length it B E (o1.drop p) s.heap) ∧ s.slots = SLq106 H0.length) (ph.length - o.length) ⟨_, _, _, _, rfl, hsp, hmf, ⟨_, _, hmq⟩, ?_⟩ ?_
    · simp [St.only, get_mk, s2, s4]
    rintro m ⟨s, H⟩ ⟨p, o1, h1, fr1, rfl, hs1, hm1, ⟨B, E, hq1⟩, rfl⟩
    refine hround hs1 hm1 B E hq1 ?_ ?_
    · intro hpo o2 h2 fr2 τ hs2 hm2 hq2 hsl
      have h3 := hs1.fo.len
      exact ⟨ph.length - (p + 1), by omega, p + 1, o2, h2, fr2, rfl, hs2, hm2, hq2, hsl⟩
    · rintro hle ⟨s', H'⟩ rfl
      exact ⟨[], rfl, o1, h1, fr1, hs1.last hle hal hcm, hm1⟩
  replace hdd := PLift.up hdd
  replace hrun := PLift.up @hrun
  obtain ⟨u1, u2, u3, u4⟩ := cells_sub (X := []) (H := H0) rfl
  obtain ⟨v1, v2, v3, v4⟩ := cells_sub (X := []) (H := G) (N := H0.length + 1) gl
  clear hround hmq hmf gh gf gr go hG hin mo mt mh mf mr hi hlt hsp hal hcm hs hp
  rw [c106_cut]
  repeat' (first
    | ((with_reducible refine T_calm ?_ ?_); rfl)
    | with_reducible first
      | refine T_seq ?_
      | refine T_reg ?_
      | refine T_draw ?_
      | refine T_skip ?_
      | refine T_exit ?_
      | refine T_block ?_
      | refine T_cond_t rfl ?_
      | refine T_cond_f rfl ?_
      | refine wdW_cons rfl ?_
      | ((first | refine T_cond rfl (fun hc => ?_) (fun hc => ?_) | refine wguard_split (fun hc => ?_) (fun hc => ?_) | refine wguardX_split (fun hc => ?_) (fun hc => ?_)) <;> have hd := hc <;> (try simp (disch := omega) only [wrapI] at hd) <;> have hs := hd <;> (try simp only [Bool.not_eq_true', Bool.not_eq_false', Bool.and_eq_true, Bool.and_eq_false_iff, Bool.or_eq_true, Bool.or_eq_false_iff, decide_eq_true_eq, decide_eq_false_iff_not, beq_iff_eq, bne_iff_ne, beq_eq_false_iff_ne, bne_eq_false_iff_eq, Bool.not_true, Bool.not_false, gt_iff_lt, ge_iff_le, Int.not_lt, Int.not_le, ne_eq, Decidable.not_not] at hd) <;> (try simp at hs))
      | refine T_ret ?_
      | refine wif_intro ?_ (fun hc => ?_)
      | refine And.intro ?_ ?_
      | intro hc
    | simp (maxSteps := 4000000) only [wops_nil, wops_cons, wstep_none, wrun_box, wop, aop, ev, look, put_some, writes, ores_some, thenK, AV.parts, isOne, List.map_cons, List.map_nil, List.length_cons, List.length_nil, List.getElem?_cons_zero, List.set_cons_zero, List.replicate_zero, List.replicate_succ, List.zipIdx_cons, List.zipIdx_nil, List.all_cons, List.all_nil, if_true, if_false, Nat.reduceAdd, Nat.add_zero, Nat.zero_add, reduceCtorEq, Bool.and_true, eq_self, true_and, and_self, List.all_cons, *]
    | simp (disch := omega) only [getD_ints, wrapI]
    | omega)
  refine T_onlyW (S := ⟨[(1, i64 c), (2, .loc H0.length 0 0)], H0 ++ [Blk.cells true false 1 [[.loc it 0 0]]]⟩) [1, 2] (by simp [St.only, get_mk, look]) (hdd.down _ fun τ hτ => ?_)
  refine T_onlyW [1, 2] hτ ?_
  clear hdd
  repeat' (first
    | ((with_reducible refine T_calm ?_ ?_); rfl)
    | with_reducible first
      | refine T_seq ?_
      | refine T_reg ?_
      | refine T_draw ?_
      | refine T_skip ?_
      | refine T_exit ?_
      | refine T_block ?_
      | refine T_cond_t rfl ?_
      | refine T_cond_f rfl ?_
      | refine wdW_cons rfl ?_
      | ((first | refine T_cond rfl (fun hc => ?_) (fun hc => ?_) | refine wguard_split (fun hc => ?_) (fun hc => ?_) | refine wguardX_split (fun hc => ?_) (fun hc => ?_)) <;> have hd := hc <;> (try simp (disch := omega) only [wrapI] at hd) <;> have hs := hd <;> (try simp only [Bool.not_eq_true', Bool.not_eq_false', Bool.and_eq_true, Bool.and_eq_false_iff, Bool.or_eq_true, Bool.or_eq_false_iff, decide_eq_true_eq, decide_eq_false_iff_not, beq_iff_eq, bne_iff_ne, beq_eq_false_iff_ne, bne_eq_false_iff_eq, Bool.not_true, Bool.not_false, gt_iff_lt, ge_iff_le, Int.not_lt, Int.not_le, ne_eq, Decidable.not_not] at hd) <;> (try simp at hs))
      | refine T_ret ?_
      | refine wif_intro ?_ (fun hc => ?_)
      | refine And.intro ?_ ?_
      | intro hc
    | simp (maxSteps := 4000000) only [wops_nil, wops_cons, wstep_none, wrun_mv, wrun_store, wrun_alloc, wrun_bslice, wop, aop, ev, look, put_some, put_none, writes, ores_some, thenK, hget, fillA, putCells, AV.parts, isOne, List.flatten_cons, List.flatten_nil, rowsOf, List.map_cons, List.map_nil, List.length_cons, List.length_nil, List.getElem?_cons_zero, List.getElem?_cons_succ, List.set_cons_zero, List.set_cons_succ, List.take_succ_cons, List.take_zero, List.take_nil, List.drop_succ_cons, List.drop_nil, List.nil_append, List.append_nil, List.append_assoc, List.replicate_zero, List.replicate_succ, List.getD_cons_zero, List.all_cons, List.all_nil, Option.getD_some, if_true, if_false, Nat.reduceEqDiff, Nat.reduceLT, Nat.add_zero, Nat.zero_add, Nat.mul_one, Nat.le_refl, Bool.and_true, eq_self, true_and, and_self, List.all_cons, *]
    | simp (disch := omega) only [getD_ints, wrapI]
    | omega)
  exact hrun.down (by simp [look]) (by simp [look])
end Go.Abs
