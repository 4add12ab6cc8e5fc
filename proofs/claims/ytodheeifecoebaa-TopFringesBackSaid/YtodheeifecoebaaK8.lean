import Derived.Test.YtodheeifecoebaaK7x
import Derived.Test.YtodheeifecoebaaK22x
import Derived.Test.YtodheeifecoebaaK210
import Derived.Test.YtodheeifecoebaaK288x
set_option linter.all false
set_option linter.unusedVariables false
set_option linter.unusedSimpArgs false
set_option linter.unusedSectionVars false
namespace Go.Abs
open Go.Proofs
theorem IterOk.weaken {P : Program} {gf : FuncId} {first cap : List AV} {n : Nat} {E E' : Nat → List Blk → List AV → Prop} {B B' : List Blk → Prop} (h : IterOk P gf first cap n E B) (hE : ∀ k H a, E k H a → E' k H a) (hB : ∀ H, B' H → B H) : IterOk P gf first cap n E' B' :=
  fun hl J Jx H h1 h2 h3 => h hl J Jx H (fun k H' hj => ⟨(h1 k H' hj).1, hB _ (h1 k H' hj).2⟩) (fun k H' a hk hj he => h2 k H' a hk hj (hE _ _ _ he)) h3
theorem key_inj {w w' c c' : Int} {nil nil' : Bool} {ph ph' : List Int} (h : w :: c :: (if nil then (1 : Int) else 0) :: ph = w' :: c' :: (if nil' then (1 : Int) else 0) :: ph') : w = w' ∧ c = c' ∧ nil = nil' ∧ ph = ph' := by
  simp only [List.cons.injEq] at h
  exact ⟨h.1, h.2.1, by cases nil <;> cases nil' <;> simp at h ⊢, h.2.2.2⟩
theorem itA_ok : ItOk Try.prog itA := by
  intro gf first cap H0 x hx
  obtain ⟨ic, ig, w, c, nil, ph, rfl, rfl, rfl, hg, hw, hc, hl, rfl⟩ := itA_iff hx
  refine ⟨(i146 ic ig w c nil ph hw hc hl _ rfl).weaken (fun _ _ _ h => h) (fun H hH => ?_), fun H hl0 r s h1 h2 => ?_⟩
  · obtain ⟨ic', ig', w', c', nil', ph', _, _, hcap, hg', _, _, _, he⟩ := itA_iff hH
    simp only [List.cons.injEq, AV.loc.injEq, and_true] at hcap
    obtain ⟨rfl, rfl⟩ := hcap
    obtain ⟨rfl, rfl, rfl, rfl⟩ := key_inj (Prod.mk.inj he).2
    exact gridOf_ok hg'
  · obtain ⟨ic', ig', w', c', nil', ph', _, _, hcap, hg', hw', hc', hl', he⟩ := itA_iff h2
    simp only [List.cons.injEq, AV.loc.injEq, and_true] at hcap
    obtain ⟨rfl, rfl⟩ := hcap
    obtain ⟨⟨o, n, h3⟩, o2, n2, h4⟩ := gridOf_ok hg'
    have keep : ∀ {i : Nat} {b : Blk}, (∀ o, b ≠ .obj o) → (H.set hl0 (.obj .lpx))[i]? = some b → H[i]? = some b := fun {i b} hb h => by
      by_cases hi : hl0 = i
      · subst hi
        rw [List.getElem?_set_self (by obtain ⟨hlt, _⟩ := List.getElem?_eq_some_iff.1 h1; exact hlt)] at h
        exact (hb _ (Option.some.inj h).symm).elim
      · rwa [List.getElem?_set_ne hi] at h
    rw [itA_of (gridOf_of ⟨⟨o, n, keep (by simp) h3⟩, o2, n2, keep (by simp) h4⟩) hw' hc' hl', he]
end Go.Abs
namespace Go.Abs
open Go.Proofs
end Go.Abs
namespace Go.Abs
open Go.Proofs
end Go.Abs
namespace Go.Abs
open Go.Proofs
/-! law 7: both searches find the same; calls of both -/
theorem rfyU (h : Nat → Blk) (d : Nat) (x : Value) : rfy h d (.lit x) = .lit x := by cases d <;> rfl
theorem pc_in {w : Int} {ph : List Int} {o : List Nat} {h : Nat → Int} (hs : Pc w ph ph.length o h) {c : Nat} : c ∈ o ↔ thN ph c = true := by
  obtain ⟨fr, fo⟩ := hs.fo
  exact ⟨fun hc => (fo.inn c hc).2, fun ht => hs.al c (thN_lt ht) ht⟩
/-- heights are the phases but for whole orders -/
theorem pc_mod {w : Int} {ph : List Int} {o : List Nat} {h : Nat → Int} (hs : Pc w ph ph.length o h) {c : Nat} (hc : c ∈ o) : (h c - ph.getD c 0) % 1000 = 0 := by
  obtain ⟨fr, fo⟩ := hs.fo
  have key : ∀ (i : Nat) (x : Nat), o[i]? = some x → (h x - ph.getD x 0) % 1000 = 0 := by
    intro i
    induction i using Nat.strongRecOn with
    | _ i ih =>
      intro x hx
      rcases fo.tr i x hx with ⟨_, h2, _⟩ | ⟨j, a, h1, h2, _, h4, h5⟩
      · rw [h2]; show (ph.getD x 0 - ph.getD x 0) % 1000 = 0; omega
      · have h6 := ih j h1 a h2
        have h7 := stepI_mod ph (a : Int) (x : Int)
        rw [Int.toNat_natCast, Int.toNat_natCast] at h7
        have h8 : stN ph a x = stepI ph (a : Int) (x : Int) := rfl
        rw [h5, h8]; omega
  obtain ⟨i, hi, hic⟩ := List.mem_iff_getElem.1 hc
  exact key i c (by rw [List.getElem?_eq_getElem hi, hic])
theorem pc_bd {w : Int} {ph : List Int} {n : Nat} {o : List Nat} {h : Nat → Int} (hs : Pc w ph n o h) (hl : ph.length ≤ 144) (c : Nat) : -100000 ≤ h c ∧ h c ≤ 100000 := by
  obtain ⟨fr, fo⟩ := hs.fo
  have h1 := fo.len
  have h2 := hs.bd c
  omega
theorem at_shiftU {F N : List Blk} {id : Nat} {b : Blk} (h : N[id]? = some b) : (F ++ N.map (renB (shiftρ F.length)))[id + F.length]? = some (renB (shiftρ F.length) b) := by
  rw [List.getElem?_append_right (by omega), Nat.add_sub_cancel, List.getElem?_map, h]; rfl
section
variable {P : Program} {s : List (Nat × AV)} {h : List Blk} {K : St → Prop} {g : FuncId} {args args' : List AV} {e : Option Nat} {w : Int} {ph : List Int}
theorem wcall_QU {Q : AV → List Blk → Prop} (hf : ACall P g args' [] Q) (he : rfyL (hget h) args = args') (hp : plainL args' = true)
    (hk : ∀ r N F, F.length = h.length → Ext h F → Q r N → K (St.put ⟨s, F ++ N.map (renB (shiftρ F.length))⟩ e (ren (shiftρ F.length) r))) : wcall P false (.lit (.func (.func g) #[] #[])) args e ⟨s, h⟩ K := by
  subst he
  unfold wcall
  simp only [target, List.map_nil, List.nil_append, List.append_nil, Bool.false_eq_true, if_false]
  refine ⟨hp, ACall.mono hf fun r N hrN => ?_⟩
  have := hk r N (freeze h (lidsL (hget h) args)) (frzLen _ _) (Ext.freeze _ _) hrN
  rw [frzLen] at this
  exact this
theorem wcall_42 (hf : ACall P g args' [] (Q42 w ph)) (he : rfyL (hget h) args = args') (hp : plainL args' = true)
    (h1 : ∀ o f id H', Ext h H' → Pc w ph ph.length o f → PotG (edN w ph) (stN ph) f → H'[id]? = some (.cells true false 1 ((mk ph.length f).map fun x => [i64 x])) → K (St.put ⟨s, H'⟩ e (.tup [.lsl id 0 ph.length, .sl true 0 [], i64 0])))
    (h2 : ∀ o f id (L : List Nat) H', Ext h H' → Pc w ph ph.length o f → ¬PotG (edN w ph) (stN ph) f → H'[id]? = some (.cells true false 1 ((czN L).map fun x => [i64 x])) → L.length ≤ ph.length → (chkLp w ph (czN L)).2 = 0 → K (St.put ⟨s, H'⟩ e (.tup [.sl true 0 [], .lsl id 0 L.length, i64 25]))) : wcall P false (.lit (.func (.func g) #[] #[])) args e ⟨s, h⟩ K := by
  refine wcall_QU hf he hp fun r N F hF hx hQ => ?_
  obtain ⟨o, f, hpc, ⟨hpot, id, rfl, hid⟩ | ⟨hno, id, L, rfl, hid, hl, hch⟩⟩ := hQ
  · have h3 := at_shiftU (F := F) hid
    simp only [renB, renR_ints] at h3
    exact h1 o f (id + F.length) _ (hx.trans (Ext.app _ _)) hpc hpot h3
  · have h3 := at_shiftU (F := F) hid
    simp only [renB, renR_ints] at h3
    exact h2 o f (id + F.length) L _ (hx.trans (Ext.app _ _)) hpc hno h3 hl hch
end
theorem rds_lsl {H : List Blk} {id n d : Nat} {own : Bool} {xs : List Int} (h : H[id]? = some (.cells own false 1 (xs.map fun x => [i64 x]))) (hl : xs.length = n) : Rds (d + 1) H (.lsl id 0 n) (ints false xs) := ⟨by
  unfold rfy
  rw [hget_some' h]
  dsimp only
  rw [if_pos (by simp; omega), List.drop_zero, List.take_of_length_le (by simp; omega), List.map_map]
  refine congrArg (AV.sl false 1) (List.map_congr_left fun x _ => ?_)
  simp only [Function.comp, List.map_cons, List.map_nil, rfyU], by simp [plain]⟩
end Go.Abs
