import Derived.Test.YtdedhipkncagjaaK514x
import Derived.Test.YtdedhipkncagjaaK515
set_option linter.all false
set_option linter.unusedVariables false
set_option linter.unusedSimpArgs false
set_option linter.unusedSectionVars false
namespace Go.Abs
open Go.Proofs
/-! TopNeverDigs: a round, whole -/
structure LM (H : List Blk) (nil : Bool) (l : List Sk) (n3 : Bool) (s : List Ss) (b : ByteArray) (hs ws : List Int) (S : List Ss) (WL : List (List Int)) (sv wv : AV) : Prop where
  h0 : ∃ o, H[0]? = some (xB4 o nil l n3 s b)
  h1 : ∃ o m ia ib oa ob, H[1]? = some (.cells o m 2 [[.lsl ia 0 hs.length, .lsl ib 0 hs.length]]) ∧ H[ia]? = some (iB oa (lwL ws ws hs.length)) ∧ H[ib]? = some (iB ob (hwL hs ws hs.length))
  sv : (S = [] ∧ sv = .sl true 0 []) ∨ ∃ is o, H[is]? = some (.cells o false 3 (ssR S)) ∧ sv = .lsl is 0 S.length
  wv : (WL = [] ∧ wv = .sl true 0 []) ∨ ∃ iw o E, H[iw]? = some (.cells o false 1 E) ∧ wv = .lsl iw 0 WL.length ∧ RowsR H E WL
theorem LM.ext {H H' : List Blk} {nil n3 : Bool} {l : List Sk} {s S : List Ss} {b : ByteArray} {hs ws : List Int} {WL : List (List Int)} {sv wv : AV} (h : LM H nil l n3 s b hs ws S WL sv wv) (hx : Ext H H') : LM H' nil l n3 s b hs ws S WL sv wv := by
  obtain ⟨⟨o, a0⟩, ⟨o1, m, ia, ib, oa, ob, a1, a2, a3⟩, a4, a5⟩ := h
  refine ⟨hx.cell a0, ?_, ?_, ?_⟩
  · obtain ⟨p, b1⟩ := hx.cell a1
    obtain ⟨q, b2⟩ := hx.cell a2
    obtain ⟨r, b3⟩ := hx.cell a3
    exact ⟨p, m, ia, ib, q, r, b1, b2, b3⟩
  · rcases a4 with a4 | ⟨is, o, h1, h2⟩
    · exact .inl a4
    · obtain ⟨p, b1⟩ := hx.cell h1
      exact .inr ⟨is, p, b1, h2⟩
  · rcases a5 with a5 | ⟨iw, o, E, h1, h2, h3⟩
    · exact .inl a5
    · obtain ⟨p, b1⟩ := hx.cell h1
      exact .inr ⟨iw, p, E, b1, h2, h3.ext hx⟩
abbrev SLs (n1 n2 : Bool) (hs ws : List Int) (sv wv : AV) (i : Nat) : List (Nat × AV) := [(1, ints n1 hs), (2, ints n2 ws), (3, .loc 0 0 0), (8, .loc 1 0 0), (10, sv), (11, wv), (12, i64 i)]
structure Inv (nil : Bool) (l : List Sk) (n3 : Bool) (s : List Ss) (b : ByteArray) (hs ws : List Int) (S : List Ss) (sv wv : AV) (i : Nat) (H : List Blk) : Prop where
  m : LM H nil l n3 s b hs ws S (WLof l b S) sv wv
  a : Acc l hs ws (hwL hs ws hs.length) S
  n : S.length ≤ i
  z : ∀ k, k < S.length → (S.getD k ss0).mi.size < 1000000
theorem snoc_z {S : List Ss} {x : Ss} (h : ∀ k, k < S.length → (S.getD k ss0).mi.size < 1000000) (hx : x.mi.size < 1000000) : ∀ k, k < (S ++ [x]).length → ((S ++ [x]).getD k ss0).mi.size < 1000000 := fun k hk => by
  rw [List.getD_eq_getElem?_getD]
  by_cases h1 : k < S.length
  · rw [List.getElem?_append_left h1, ← List.getD_eq_getElem?_getD]; exact h k h1
  · have : k = S.length := by simp at hk; omega
    subst this
    simp [hx]
theorem k4round {n1 n2 n3 nil : Bool} {l : List Sk} {s S : List Ss} {b : ByteArray} {hs ws : List Int} {i : Nat} {sv wv : AV} {H : List Blk} {K : Exit → St → Prop} {bb : Nat} (hV : StV l nil 2 (skR l)) (hl : l.length < 1000000) (hr : Rt l hs ws) (hbz : b.size < 1000000)
    (hI : Inv nil l n3 s b hs ws S sv wv i H) (hi9 : i < s.length) (hs9 : s.length ≤ 100)
    (hN : ∀ (τ : St) S' sv' wv', Inv nil l n3 s b hs ws S' sv' wv' (i + 1) τ.heap → (τ.only [1, 2, 3, 8, 10, 11, 12]).slots = SLs n1 n2 hs ws sv' wv' i → K .normal τ ∧ K (.exit 5) τ)
    (hR : ∀ τ : St, τ.get 6 = bl true → K .ret τ) :
    T none Try.prog muts 217 bb (c4r4 (c4r5 c4r6)) ⟨SLs n1 n2 hs ws sv wv i, H⟩ K := by
  have hmem := hI.m
  obtain ⟨⟨o, a0⟩, ⟨o1, m1, ia, ib, oa, ob, a1, a2, a3⟩, a4, a5⟩ := hmem
  by_cases hlong : 30 < (s.getD i ss0).mi.size ∨ 30 < (s.getD i ss0).st.size
  · exact k4long a0 hi9 (by omega) hlong hR
  have hsz : ¬30 < (s.getD i ss0).mi.size ∧ ¬30 < (s.getD i ss0).st.size := by
    constructor
    · intro h; exact hlong (.inl h)
    · intro h; exact hlong (.inr h)
  clear hlong
  have hlo : (lwL ws ws hs.length).length = hs.length := fL_len _ _
  have hhi : (hwL hs ws hs.length).length = hs.length := fL_len _ _
  have hF := (twE_ok hr.t).1.l
  have hA : AdB S (s.getD i ss0) := ⟨by have := hI.n; omega, hI.z, by omega⟩
  have hz2 := snoc_z hI.z (x := s.getD i ss0) (by omega)
  have hext : ∀ τ : St, Ext H τ.heap → Inv nil l n3 s b hs ws S sv wv (i + 1) τ.heap := fun τ hx => ⟨hI.m.ext hx, hI.a, by have := hI.n; omega, hI.z⟩
  -- what the first half leads to when it refuses
  have her : ∀ E : Int, E ≠ 0 → Fn Try.prog 17 [sts nil l, dmV false (lwL ws ws hs.length) false (hwL hs ws hs.length), .sl false 3 (ssR S), ssV (s.getD i ss0)] (.tup [.sl true 0 [], i64 E]) [] → T none Try.prog muts 217 bb (c4r4 (c4r5 c4r6)) ⟨SLs n1 n2 hs ws sv wv i, H⟩ K := by
    intro E hE h17
    rcases a4 with ⟨rfl, rfl⟩ | ⟨is, oS, h2, rfl⟩
    · exact k4sAer a0 a1 a2 a3 hlo hhi hi9 (by omega) hsz hE h17 fun τ hx hτ => (hN τ _ _ _ (hext τ hx) hτ).2
    · exact k4sBer a0 a1 a2 a3 hlo hhi hi9 (by omega) h2 (by have := hI.n; omega) hsz hE h17 fun τ hx hτ => (hN τ _ _ _ (hext τ hx) hτ).2
  by_cases h0 : adE l (lwL ws ws hs.length) (hwL hs ws hs.length) S (s.getD i ss0) = 0
  case neg => exact her _ h0 (k17e hV hl (by omega) (by omega) hA h0)
  cases hok : okB (hwL hs ws hs.length) (wrL l (S ++ [s.getD i ss0]) (s.getD i ss0).mi) (l.getD 0 sk0).wr.length with
  | false => exact her 26 (by omega) (k17o hV (by omega) (by omega) hA h0 hok)
  | true =>
    have h17 := k17 (n1 := false) (n2 := false) hV (by omega) (by omega) hA h0 hok
    have hacc := hI.a.snoc hr h0 hok
    obtain ⟨z1, _, _, z4⟩ := adE_zero h0
    have hS := sE_ok z1
    have hn := hr.w 0 hS.pos
    have zx := zE_last z4
    have hone : ∀ k, k < [s.getD i ss0].length → ([s.getD i ss0].getD k ss0).mi.size < 1000000 := fun k hk => by
      have : k = 0 := by simpa using hk
      subst this
      show (s.getD i ss0).mi.size < _
      omega
    have hnn := hI.n
    -- the rest of the round, whatever the list is
    have rest : ∀ (H' : List Blk) (iy : Nat) (o' : Bool) (sv0 : AV), Ext H H' → H'[H.length]? = some (.cells o' false 3 [[tx (s.getD i ss0).mi, tx (s.getD i ss0).st, i64 (s.getD i ss0).mn]]) → H'[iy]? = some (.cells false false 3 (ssR (S ++ [s.getD i ss0]))) →
        T none Try.prog muts 217 bb c4r6 ⟨SLm n1 n2 hs ws H.length sv0 wv i (.lsl iy 0 (S.length + 1)), H'⟩ K := by
      intro H' iy o' sv0 hx hone9 hy
      obtain ⟨q0, c0⟩ := hx.cell a0
      have hlm := hI.m.ext hx
      by_cases hb : mrE b = 0
      · have hwe : weE l [s.getD i ss0] b = 0 := by unfold weE; rw [if_neg (fun h => h z1), if_neg (fun h => h zx)]; exact hb
        have h18 := k18 (n2 := false) hV hl (s := [s.getD i ss0]) (by simp) hone hbz hwe
        rw [hn] at h18
        have hwl : (wrL l [s.getD i ss0] b).length = hs.length := by rw [← hn]; exact fL_len _ _
        have fin : ∀ (τ : St) (v : AV) (iw : Nat) (E : List (List AV)), Ext H' τ.heap → RowsR H' E (WLof l b S) → Rds 1 τ.heap v (ints false (wrL l [s.getD i ss0] b)) → τ.heap[iw]? = some (.cells true false 1 ([v] :: E)) → (τ.only [1, 2, 3, 8, 10, 11, 12]).slots = SLs n1 n2 hs ws (.lsl iy 0 (S.length + 1)) (.lsl iw 0 ((WLof l b S).length + 1)) i → K .normal τ := by
          intro τ v iw E hx2 hE hv hw hτ
          have hm2 := hlm.ext hx2
          obtain ⟨q1, d1⟩ := hx2.cell hy
          refine (hN τ (S ++ [s.getD i ss0]) _ _ ⟨⟨hm2.h0, hm2.h1, .inr ⟨iy, q1, d1, ?_⟩, .inr ⟨iw, true, _, hw, ?_, ?_⟩⟩, hacc, by simp; omega, hz2⟩ hτ).1
          · simp
          · rw [WLof_snoc hb]; rfl
          · rw [WLof_snoc hb]; exact (hE.ext hx2).cons hv
        rcases hlm.wv with ⟨w1, w2⟩ | ⟨iw, ow, E, w1, w2, w3⟩
        · subst w2
          refine k4wearA (x := s.getD i ss0) c0 hone9 hwl h18 fun τ v iw hx2 hv hw hτ => fin τ v iw [] hx2 (by rw [w1]; exact RowsR.nil _) hv hw ?_
          rw [w1]; exact hτ
        · subst w2
          refine k4wearB (x := s.getD i ss0) c0 hone9 hwl w1 w3.1 ?_ h18 fun τ v iw hx2 hv hw hτ => fin τ v iw E hx2 w3 hv hw ?_
          · have : (WLof l b S).length = S.length := by simp [WLof, hb]
            omega
          · rw [Nat.add_comm (WLof l b S).length 1]; exact hτ
      · have hwe : weE l [s.getD i ss0] b = mrE b := by unfold weE; rw [if_neg (fun h => h z1), if_neg (fun h => h zx)]
        have h18 := k18e (n2 := false) hV hl (s := [s.getD i ss0]) (by simp) hone hbz (by rw [hwe]; exact hb)
        rw [hwe] at h18
        refine k4wearE (x := s.getD i ss0) c0 hone9 hb h18 fun τ hx2 hτ => ?_
        have hm2 := hlm.ext hx2
        obtain ⟨q1, d1⟩ := hx2.cell hy
        refine (hN τ (S ++ [s.getD i ss0]) _ _ ⟨⟨hm2.h0, hm2.h1, .inr ⟨iy, q1, d1, ?_⟩, ?_⟩, hacc, by simp; omega, hz2⟩ hτ).1
        · simp
        · rw [WLof_bad hb]
          have := hm2.wv
          rw [WLof_bad hb] at this
          exact this
    rcases a4 with ⟨rfl, rfl⟩ | ⟨is, oS, h2, rfl⟩
    · exact k4sAok a0 a1 a2 a3 hlo hhi hi9 (by omega) hsz h17 fun H' iy o' hx hone9 hy => k4lenA hy (rest H' iy o' _ hx hone9 hy)
    · refine k4sBok a0 a1 a2 a3 hlo hhi hi9 (by omega) h2 (by omega) hsz h17 fun H' iy o' hx hone9 hy => ?_
      obtain ⟨q2, c2⟩ := hx.cell h2
      exact k4lenB hy c2 (by omega) (rest H' iy o' _ hx hone9 hy)
end Go.Abs
