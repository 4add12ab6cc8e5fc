import Derived.Test.YtpfmamngjefohaaK9
import Derived.Test.YtpfmamngjefohaaK316x
import Derived.Test.YtpfmamngjefohaaK331x
import Derived.Test.YtpfmamngjefohaaK378x
set_option linter.all false
set_option linter.unusedVariables false
set_option linter.unusedSimpArgs false
set_option linter.unusedSectionVars false
namespace Go.Abs
open Go.Proofs
/-! GrindSessions -/
theorem skc_sAt (l : List Sk) (b : ByteArray) : sAt (skc l) b = sAt l b := by
  unfold sAt
  rw [skc_len]
  congr 1
  funext j
  rw [(skc_get l j).2]
theorem skc_zE (l : List Sk) (s : List Ss) : zE (skc l) s = zE l s := by
  have : zEr (skc l) s = zEr l s := by funext k; unfold zEr; rw [skc_sAt]
  unfold zE; rw [this]
theorem skc_weE (l : List Sk) (s : List Ss) (b : ByteArray) : weE (skc l) s b = weE l s b := by unfold weE; rw [skc_sE, skc_zE]
theorem skc_wOf (l : List Sk) (b : ByteArray) : wOf (skc l) b = wOf l b := by funext z; unfold wOf; rw [skc_sAt, (skc_get l _).1]
theorem skc_wz (l : List Sk) (s : List Ss) (b : ByteArray) : ∀ k z, wz (skc l) s b k z = wz l s b k z
  | 0, _ => rfl
  | k + 1, z => by simp only [wz]; rw [skc_wz l s b k z, skc_wOf]
theorem skc_wrL (l : List Sk) (s : List Ss) (b : ByteArray) : wrL (skc l) s b = wrL l s b := by
  unfold wrL
  rw [(skc_get l 0).1]
  exact fL_congr fun z _ => skc_wz l s b s.length z
theorem g30 (nil : Bool) (s : List Ss) (hl : s.length < 1000000) : Gv 1 Try.prog 30 [sss nil s] [sss false s] :=
  Gv.of_fn 1 (k30 nil s hl) [.lsl 0 0 s.length] rfl (by rw [List.map_cons, List.map_nil]; exact congrArg (fun x => [x]) (rds_row (d := 0) (H := [.cells true false 3 (ssR s)]) (o := true) rfl (plainR_ss s) (ssR_len s)).1) (by simp [plainL, plain, plainR_ss])
theorem gv_ints2 {g : FuncId} {args : List AV} {xs : List Int} {n : Nat} {c : Int} (h : Fn Try.prog g args (.tup [.lsl 0 0 n, i64 c]) [iC xs]) (hn : xs.length = n) : Gv 1 Try.prog g args [ints false xs, i64 c] :=
  Gv.of_fn 1 h [.lsl 0 0 n, i64 c] rfl (by rw [List.map_cons, List.map_cons, List.map_nil]; exact congrArg (fun x => [x, i64 c]) (rfy_iB (H := [iC xs]) rfl hn)) (by simp [plainL, plain])
end Go.Abs
namespace Go.Abs
open Go.Proofs
/-! CheckPlan of the reference -/
end Go.Abs
namespace Go.Abs
open Go.Proofs
/-! WearBy -/
def outR (W : List Int) (den : Int) (k : Nat) : List (List AV) := (List.range k).map fun z => [i64 (W.getD z 0 / den), i64 (ceil (W.getD z 0) den)]
structure I37 (H0 : List Blk) (W : List Int) (den : Int) (k : Nat) (H : List Blk) : Prop where
  n : H.length = H0.length + 2 * k
  s : ∀ i, i < H0.length → H[i]? = H0[i]?
  t : k ≠ 0 → H[H0.length + 2 * k - 1]? = some (.cells true false 2 (outR W den k))
theorem I37.fin {H0 F : List Blk} {W : List Int} {den : Int} {k : Nat} (hF : F.length = H0.length + 2 * k) (hs : ∀ i, i < H0.length → F[i]? = H0[i]?) (a : Blk) : I37 H0 W den (k + 1) (F ++ [a, .cells true false 2 (outR W den (k + 1))]) := by
  refine ⟨by simp [hF]; omega, fun i hi => ?_, fun _ => ?_⟩
  · rw [List.getElem?_append_left (by omega)]; exact hs i hi
  · rw [show H0.length + 2 * (k + 1) - 1 = F.length + 1 by omega, List.getElem?_append_right (by omega), Nat.add_sub_cancel_left]; rfl
end Go.Abs
namespace Go.Abs
open Go.Proofs
/-! WearBy of both sides -/
end Go.Abs
namespace Go.Abs
open Go.Proofs
/-! GrindPlanChecks -/
theorem gv_dm (n1 n2 : Bool) (lo hi : List Int) (hlo : lo.length < 1000000) (hhi : hi.length < 1000000) : Gv 2 Try.prog 23 [dmV n1 lo n2 hi] [dmV false lo false hi] :=
  Gv.of_fn 2 (k23 n1 n2 lo hi hlo hhi) [.agg [.lsl 0 0 lo.length, .lsl 1 0 hi.length]] rfl (by
    show [AV.agg [rfy _ 1 (.lsl 0 0 lo.length), rfy _ 1 (.lsl 1 0 hi.length)]] = _
    rw [rfy_iB (H := [iC lo, iC hi]) (id := 0) rfl rfl, rfy_iB (H := [iC lo, iC hi]) (id := 1) rfl rfl]) (by simp [plainL, plain])
end Go.Abs
namespace Go.Abs
open Go.Proofs
/-! AddSession of the reference -/
end Go.Abs
namespace Go.Abs
open Go.Proofs
/-! GrindAdds: AddSession of both sides -/
abbrev dyR (n1 : Bool) (lo : List Int) (n2 : Bool) (hi : List Int) (n3 : Bool) (s : List Ss) (x : Ss) : List AV := [ints n1 lo, ints n2 hi, sss n3 s, tx x.mi, tx x.st, i64 x.mn]
abbrev dyV (n1 : Bool) (lo : List Int) (n2 : Bool) (hi : List Int) (n3 : Bool) (s : List Ss) (x : Ss) : AV := .agg (dyR n1 lo n2 hi n3 s x)
theorem wcallX_S {s : List (Nat × AV)} {h : List Blk} {K : St → Prop} {g : FuncId} {args args' : List AV} {e : Option Nat} {q : List Ss} {n : Nat} {c : Int} (hf : Fn Try.prog g args' (.tup [.lsl 0 0 n, i64 c]) [.cells false false 3 (ssR q)]) (he : rfyL (hget h) args = args') (hp : plainL args' = true)
    (hk : ∀ id H', Ext h H' → H'[id]? = some (.cells false false 3 (ssR q)) → K (St.put ⟨s, H'⟩ e (.tup [.lsl id 0 n, i64 c]))) : wcallX Try.prog false (.lit (.func (.func g) #[] #[])) args e ⟨s, h⟩ K := by
  refine wcallX_fn hf he hp ?_
  refine hk (0 + h.length) _ (Ext.call _ _ _) ?_
  rw [Nat.zero_add, List.getElem?_append_right (by rw [frzLen]; exact Nat.le_refl _), frzLen, Nat.sub_self]
  show some (renB _ (.cells false false 3 (ssR q))) = _
  simp only [renB, renR_ss]
theorem rL4 {d1 d2 d3 d4 : Nat} {H : List Blk} {v1 v2 v3 v4 w1 w2 w3 w4 : AV} (h1 : Rds d1 H v1 w1) (h2 : Rds d2 H v2 w2) (h3 : Rds d3 H v3 w3) (h4 : Rds d4 H v4 w4) (e1 : d1 ≤ 6) (e2 : d2 ≤ 6) (e3 : d3 ≤ 6) (e4 : d4 ≤ 6) : rfyL (hget H) [v1, v2, v3, v4] = [w1, w2, w3, w4] := by
  have a := rL3 h1 h2 h3 e1 e2 e3
  have b := rL1 h4 e4
  unfold rfyL at a b ⊢
  simp only [List.map_cons, List.map_nil, List.cons.injEq, and_true] at a b ⊢
  exact ⟨a.1, a.2.1, a.2.2, b⟩
end Go.Abs
namespace Go.Abs
open Go.Proofs
/-! GrindAdds: LeftFor of both sides -/
theorem Ext.set_resv {H : List Blk} {N : Nat} (h : H[N]? = some .resv) (b : Blk) : Ext H (H.set N b) := fun id o n sz els hc => by
  by_cases e : N = id
  · subst e; rw [h] at hc; simp at hc
  · exact ⟨o, by rw [List.getElem?_set_ne e]; exact hc⟩
theorem freeze1_resv {H : List Blk} {N : Nat} (h : H[N]? = some .resv) (id : Nat) : (freeze1 H id)[N]? = some .resv := by
  unfold freeze1
  split
  · rename_i n' s' e' h1
    by_cases hij : id = N
    · subst hij; rw [h] at h1; simp at h1
    · rw [List.getElem?_set_ne hij]; exact h
  · exact h
theorem freeze_resv {N : Nat} : ∀ (ids : List Nat) (H : List Blk), H[N]? = some .resv → (freeze H ids)[N]? = some .resv
  | [], _, h => h
  | id :: r, H, h => freeze_resv r _ (freeze1_resv h id)
theorem call_resv {H : List Blk} {N : Nat} (h : H[N]? = some .resv) (ids : List Nat) (X : List Blk) : (freeze H ids ++ X)[N]? = some .resv := by
  have h1 := freeze_resv ids H h
  rw [List.getElem?_append_left (List.getElem?_eq_some_iff.1 h1).1]; exact h1
section
variable {P : Program} {s : List (Nat × AV)} {h : List Blk} {K : St → Prop} {g : FuncId} {args args' : List AV} {e : Option Nat} {d : Nat}
theorem wcallX_F1 {w : AV} (hf : Gv d P g args' [w]) (he : rfyL (hget h) args = args') (hp : plainL args' = true) (hx : plain w = true) (hw : rfy (hget []) d w = w)
    (hk : ∀ v H', Ext h H' → (∀ N : Nat, h[N]? = some .resv → H'[N]? = some .resv) → Rds d H' v w → K (St.put ⟨s, H'⟩ e v)) : wcallX P false (.lit (.func (.func g) #[] #[])) args e ⟨s, h⟩ K :=
  wcallX_g1 hf he hp hx hw fun v _ hv => hk v _ (Ext.call _ _ _) (fun _ hN => call_resv hN _ _) (hv _ (frzLen _ _))
theorem wcallX_D {n m : Nat} {c : Value} {xs ys : List Int} (hf : Fn P g args' (.tup [.agg [.lsl 0 0 n, .lsl 1 0 m], .lit c]) [iC xs, iC ys]) (he : rfyL (hget h) args = args') (hp : plainL args' = true)
    (hk : ∀ id jd H', Ext h H' → (∀ N : Nat, h[N]? = some .resv → H'[N]? = some .resv) → H'[id]? = some (iC xs) → H'[jd]? = some (iC ys) → K (St.put ⟨s, H'⟩ e (.tup [.agg [.lsl id 0 n, .lsl jd 0 m], .lit c]))) : wcallX P false (.lit (.func (.func g) #[] #[])) args e ⟨s, h⟩ K := by
  refine wcallX_fn hf he hp ?_
  refine hk (0 + h.length) (1 + h.length) _ (Ext.call _ _ _) (fun _ hN => call_resv hN _ _) ?_ ?_
  · rw [Nat.zero_add, List.getElem?_append_right (by rw [frzLen]; exact Nat.le_refl _), frzLen, Nat.sub_self]
    show some (renB _ (iC xs)) = _
    simp only [renB, renR_ints]
  · rw [List.getElem?_append_right (by rw [frzLen]; omega), frzLen, Nat.add_sub_cancel]
    show some (renB _ (iC ys)) = _
    simp only [renB, renR_ints]
end
theorem resv_lids {H : List Blk} {N : Nat} (hN : H[N]? = some .resv) : ∀ (d : Nat) (v : AV), plain (rfy (hget H) d v) = true → ¬N ∈ lids (hget H) d v
  | 0, _, _ => by simp [lids]
  | d + 1, .lsl id i len, h => by
    unfold rfy at h
    unfold lids
    cases hc : hget H id with
    | cells o n sz els =>
      rw [hc] at h
      dsimp only at h ⊢
      by_cases hl : len ≤ els.length - i
      · rw [if_pos hl] at h
        simp only [plain] at h
        intro hm
        rcases List.mem_cons.1 hm with rfl | hm
        · rw [hget_some' hN] at hc; simp at hc
        · obtain ⟨r, hr, hm⟩ := List.mem_flatMap.1 hm
          obtain ⟨a, ha, hm⟩ := List.mem_flatMap.1 hm
          exact resv_lids hN d a (plainL_mem (plainR_mem h _ (List.mem_map_of_mem hr)) _ (List.mem_map_of_mem ha)) hm
      · rw [if_neg hl] at h; simp [plain] at h
    | dead => rw [hc] at h; simp [plain] at h
    | resv => rw [hc] at h; simp [plain] at h
    | obj o => rw [hc] at h; simp [plain] at h
  | d + 1, .agg cs, h => by
    simp only [rfy, plain] at h
    unfold lids
    intro hm
    obtain ⟨a, ha, hm⟩ := List.mem_flatMap.1 hm
    exact resv_lids hN d a (plainL_mem h _ (List.mem_map_of_mem ha)) hm
  | d + 1, .lit v, h => by simp [lids]
  | d + 1, .sl a b c, h => by simp [lids]
  | d + 1, .emp, h => by simp [lids]
  | d + 1, .adr a b c e, h => by simp [lids]
  | d + 1, .tup a, h => by simp [lids]
  | d + 1, .loc a b c, h => by simp [lids]
  | d + 1, .clo a b c, h => by simp [lids]
  | d + 1, .mp a, h => by simp [lids]
  | d + 1, .top, h => by simp [lids]
  | d + 1, .top1, h => by simp [lids]
theorem Rds.resv {d N : Nat} {H : List Blk} {v w : AV} (h : Rds d H v w) (hd : d ≤ 6) (hN : H[N]? = some .resv) : ¬N ∈ lids (hget H) 6 v := by
  obtain ⟨h1, h2⟩ := h.to hd
  exact resv_lids hN 6 v (by rw [h1]; exact h2)
end Go.Abs
namespace Go.Abs
open Go.Proofs
/-! GrindSessions: all cases -/
theorem lgB_bd {l : List Sk} (h : lgB l = true) : l.length ≤ 15 ∧ ∀ k, k < l.length → (l.getD k sk0).nm.size ≤ 30 ∧ (l.getD k sk0).wr.length ≤ 43 := by
  unfold lgB at h
  simp only [Bool.and_eq_true, Bool.or_eq_true, decide_eq_true_eq] at h
  refine ⟨by omega, fun k hk => ?_⟩
  have := all_getSk.1 h.2 k hk
  unfold lgS at this
  simp only [Bool.and_eq_true, Bool.or_eq_true, decide_eq_true_eq] at this
  omega
theorem fwB_bd {s : List Ss} (h : fwB s = true) : s.length ≤ 203 ∧ ∀ k, k < s.length → (s.getD k ss0).mi.size ≤ 30 ∧ (s.getD k ss0).st.size ≤ 30 := by
  unfold fwB at h
  simp only [Bool.and_eq_true, Bool.or_eq_true, decide_eq_true_eq] at h
  refine ⟨by omega, fun k hk => ?_⟩
  have := all_getSs.1 h.1 k hk
  unfold fwS at this
  simp only [Bool.and_eq_true, decide_eq_true_eq] at this
  exact this
end Go.Abs
namespace Go.Abs
open Go.Proofs
/-! GrindAdds: LeftFor, the three cases -/
end Go.Abs
namespace Go.Abs
open Go.Proofs
/-! GrindAdds: LeftFor, right arguments -/
end Go.Abs
namespace Go.Abs
open Go.Proofs
/-! GrindAdds: the guards -/
end Go.Abs
namespace Go.Abs
open Go.Proofs
/-! GrindPlanChecks: all cases -/
theorem skc_wr (l : List Sk) (k : Nat) : ((skc l).getD k sk0).wr = (l.getD k sk0).wr := (skc_get l k).1
end Go.Abs
namespace Go.Abs
open Go.Proofs
/-! GrindAdds: all cases -/
theorem skc_adE (l : List Sk) (lo hi : List Int) (s : List Ss) (x : Ss) : adE (skc l) lo hi s x = adE l lo hi s x := by unfold adE; rw [skc_sE, skc_wr, skc_zE, skc_zE]
theorem skc_lfE (l : List Sk) (lo hi : List Int) (s : List Ss) (b : ByteArray) : lfE (skc l) lo hi s b = lfE l lo hi s b := by unfold lfE; rw [skc_sE, skc_wr, skc_zE]
end Go.Abs
