import Derived.Test.YtpfmamngjefohaaK9
import Derived.Test.YtpfmamngjefohaaK315x
import Derived.Test.YtpfmamngjefohaaK330x
set_option linter.all false
set_option linter.unusedVariables false
set_option linter.unusedSimpArgs false
set_option linter.unusedSectionVars false
namespace Go.Abs
open Go.Proofs
/-! the wear of a plan -/
/-- right minutes -/
structure POk (l : List Sk) (mi : List Int) (den : Int) : Prop where
  len : mi.length = l.length
  den : 1 ≤ den ∧ den ≤ 10000000
  mn : ∀ k, k < mi.length → 0 ≤ mi.getD k 0 ∧ mi.getD k 0 ≤ 1000000000
end Go.Abs
namespace Go.Abs
open Go.Proofs
/-! wear -/
end Go.Abs
namespace Go.Abs
open Go.Proofs
/-! CheckPlan -/
structure DOk (n : Nat) (lo hi : List Int) : Prop where
  l1 : lo.length = n
  l2 : hi.length = n
  r1 : ∀ z, z < n → 0 ≤ lo.getD z 0 ∧ lo.getD z 0 ≤ 10000
  r2 : ∀ z, z < n → 0 ≤ hi.getD z 0 ∧ hi.getD z 0 ≤ 10000
  le : ∀ z, z < n → lo.getD z 0 ≤ hi.getD z 0
theorem dmE_ok {n : Nat} {lo hi : List Int} (h : dmE n lo hi = 0) : DOk n lo hi := by
  unfold dmE at h
  split at h
  · simp at h
  rename_i h1
  have each : ∀ z, z < n → (0 ≤ lo.getD z 0 ∧ lo.getD z 0 ≤ 10000) ∧ (0 ≤ hi.getD z 0 ∧ hi.getD z 0 ≤ 10000) ∧ lo.getD z 0 ≤ hi.getD z 0 := fun z hz => by
    have := fe_all h z hz
    unfold dEr at this
    split at this
    · simp at this
    rename_i g1
    split at this
    · simp at this
    rename_i g2
    unfold inD at g1
    simp only [Bool.not_eq_false, Bool.and_eq_true, decide_eq_true_eq] at g1
    simp only [decide_eq_true_eq] at g2
    omega
  simp only [Bool.or_eq_true, bne_iff_ne, not_or, Decidable.not_not] at h1
  exact ⟨by omega, by omega, fun z hz => (each z hz).1, fun z hz => (each z hz).2.1, fun z hz => (each z hz).2.2⟩
end Go.Abs
namespace Go.Abs
open Go.Proofs
/-! CheckPlan of the reference -/
end Go.Abs
namespace Go.Abs
open Go.Proofs
/-! WearBy -/
def outR (W : List Int) (den : Int) (k : Nat) : List (List AV) := (List.range k).map fun z => [i64 (W.getD z 0 / den), i64 (ceil (W.getD z 0) den)]
structure I37 (H0 : List Blk) (W : List Int) (den : Int) (k : Nat) (H : List Blk) : Prop where
  n : H.length = H0.length + 2 * k
  s : ∀ i, i < H0.length → H[i]? = H0[i]?
  t : k ≠ 0 → H[H0.length + 2 * k - 1]? = some (.cells true false 2 (outR W den k))
theorem I37.fin {H0 F : List Blk} {W : List Int} {den : Int} {k : Nat} (hF : F.length = H0.length + 2 * k) (hs : ∀ i, i < H0.length → F[i]? = H0[i]?) (a : Blk) : I37 H0 W den (k + 1) (F ++ [a, .cells true false 2 (outR W den (k + 1))]) := by
  refine ⟨by simp [hF]; omega, fun i hi => ?_, fun _ => ?_⟩
  · rw [List.getElem?_append_left (by omega)]; exact hs i hi
  · rw [show H0.length + 2 * (k + 1) - 1 = F.length + 1 by omega, List.getElem?_append_right (by omega), Nat.add_sub_cancel_left]; rfl
end Go.Abs
namespace Go.Abs
open Go.Proofs
/-! WearOf -/
end Go.Abs
namespace Go.Abs
open Go.Proofs
/-! GrindSessions -/
theorem skc_sAt (l : List Sk) (b : ByteArray) : sAt (skc l) b = sAt l b := by
  unfold sAt
  rw [skc_len]
  congr 1
  funext j
  rw [(skc_get l j).2]
theorem skc_zE (l : List Sk) (s : List Ss) : zE (skc l) s = zE l s := by
  have : zEr (skc l) s = zEr l s := by funext k; unfold zEr; rw [skc_sAt]
  unfold zE; rw [this]
theorem skc_wOf (l : List Sk) (b : ByteArray) : wOf (skc l) b = wOf l b := by funext z; unfold wOf; rw [skc_sAt, (skc_get l _).1]
theorem skc_wz (l : List Sk) (s : List Ss) (b : ByteArray) : ∀ k z, wz (skc l) s b k z = wz l s b k z
  | 0, _ => rfl
  | k + 1, z => by simp only [wz]; rw [skc_wz l s b k z, skc_wOf]
theorem skc_wrL (l : List Sk) (s : List Ss) (b : ByteArray) : wrL (skc l) s b = wrL l s b := by
  unfold wrL
  rw [(skc_get l 0).1]
  exact fL_congr fun z _ => skc_wz l s b s.length z
theorem g30 (nil : Bool) (s : List Ss) (hl : s.length < 1000000) : Gv 1 Try.prog 30 [sss nil s] [sss false s] :=
  Gv.of_fn 1 (k30 nil s hl) [.lsl 0 0 s.length] rfl (by rw [List.map_cons, List.map_nil]; exact congrArg (fun x => [x]) (rds_row (d := 0) (H := [.cells true false 3 (ssR s)]) (o := true) rfl (plainR_ss s) (ssR_len s)).1) (by simp [plainL, plain, plainR_ss])
end Go.Abs
namespace Go.Abs
open Go.Proofs
/-! GrindSessions: all cases -/
theorem lgB_bd {l : List Sk} (h : lgB l = true) : l.length ≤ 15 ∧ ∀ k, k < l.length → (l.getD k sk0).nm.size ≤ 30 ∧ (l.getD k sk0).wr.length ≤ 43 := by
  unfold lgB at h
  simp only [Bool.and_eq_true, Bool.or_eq_true, decide_eq_true_eq] at h
  refine ⟨by omega, fun k hk => ?_⟩
  have := all_getSk.1 h.2 k hk
  unfold lgS at this
  simp only [Bool.and_eq_true, Bool.or_eq_true, decide_eq_true_eq] at this
  omega
theorem fwB_bd {s : List Ss} (h : fwB s = true) : s.length ≤ 203 ∧ ∀ k, k < s.length → (s.getD k ss0).mi.size ≤ 30 ∧ (s.getD k ss0).st.size ≤ 30 := by
  unfold fwB at h
  simp only [Bool.and_eq_true, Bool.or_eq_true, decide_eq_true_eq] at h
  refine ⟨by omega, fun k hk => ?_⟩
  have := all_getSs.1 h.1 k hk
  unfold fwS at this
  simp only [Bool.and_eq_true, decide_eq_true_eq] at this
  exact this
end Go.Abs
namespace Go.Abs
open Go.Proofs
/-! WearBy of both sides -/
end Go.Abs
namespace Go.Abs
open Go.Proofs
/-! GrindPlanChecks -/
theorem gv_dm (n1 n2 : Bool) (lo hi : List Int) (hlo : lo.length < 1000000) (hhi : hi.length < 1000000) : Gv 2 Try.prog 23 [dmV n1 lo n2 hi] [dmV false lo false hi] :=
  Gv.of_fn 2 (k23 n1 n2 lo hi hlo hhi) [.agg [.lsl 0 0 lo.length, .lsl 1 0 hi.length]] rfl (by
    show [AV.agg [rfy _ 1 (.lsl 0 0 lo.length), rfy _ 1 (.lsl 1 0 hi.length)]] = _
    rw [rfy_iB (H := [iC lo, iC hi]) (id := 0) rfl rfl, rfy_iB (H := [iC lo, iC hi]) (id := 1) rfl rfl]) (by simp [plainL, plain])
end Go.Abs
namespace Go.Abs
open Go.Proofs
/-! GrindPlanChecks: all cases -/
theorem skc_wr (l : List Sk) (k : Nat) : ((skc l).getD k sk0).wr = (l.getD k sk0).wr := (skc_get l k).1
end Go.Abs
