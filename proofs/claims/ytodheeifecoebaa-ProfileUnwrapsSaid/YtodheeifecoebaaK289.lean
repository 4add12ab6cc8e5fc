import Derived.Test.YtodheeifecoebaaK22x
import Derived.Test.YtodheeifecoebaaK24x
import Derived.Test.YtodheeifecoebaaK210
import Derived.Test.YtodheeifecoebaaK288x
import Derived.Test.YtodheeifecoebaaK8
set_option linter.all false
set_option linter.unusedVariables false
set_option linter.unusedSimpArgs false
set_option linter.unusedSectionVars false
namespace Go.Abs
open Go.Proofs
/-! law 7: both searches find the same; calls of both -/
theorem fr_okU {w : Int} {ph : List Int} (h : checkFr w ph = 0) : okPh ph ∧ 1 ≤ w ∧ w ≤ 1000000 := by
  unfold checkFr at h
  split at h
  · simp at h
  · rename_i hw
    split at h
    · simp at h
    · split at h
      · simp at h
      · rename_i hf
        refine ⟨fun k => ?_, by omega, by omega⟩
        have h1 := findB_nn badF ph 0 (by omega)
        rcases h1.2 with h2 | h2
        · by_cases hk : k < ph.length
          · have := h1.1.2 h2 (ph.getD k 0) (by simp [List.getD, hk])
            unfold badF at this
            simp at this
            simp only [List.getD_eq_getElem?_getD]
            omega
          · rw [List.getD_eq_getElem?_getD, List.getElem?_eq_none (by omega)]; simp
        · omega
theorem rfyU (h : Nat → Blk) (d : Nat) (x : Value) : rfy h d (.lit x) = .lit x := by cases d <;> rfl
theorem take_rfyU (h : Nat → Blk) (d : Nat) (xs : List Int) : List.take xs.length (List.map ((fun r => List.map (rfy h d) r) ∘ fun x => [i64 x]) xs) = List.map (fun x => [i64 x]) xs := by
  rw [List.take_of_length_le (by simp)]; exact List.map_congr_left fun x _ => by simp only [Function.comp, List.map_cons, List.map_nil, rfyU]
theorem flat_intsU (h : Nat → Blk) (d : Nat) (n : Nat) (xs : List Int) : (List.take n (List.map (fun x => [i64 x]) xs)).flatMap (fun r => r.flatMap (lids h d)) = [] := by
  rw [List.flatMap_eq_nil_iff]
  intro r hr
  obtain ⟨x, _, rfl⟩ := List.mem_map.1 (List.mem_of_mem_take hr)
  cases d <;> rfl
theorem fr_len {w : Int} {ph : List Int} (h : checkFr w ph = 0) : ph.length ≤ 144 := by
  unfold checkFr at h
  split at h
  · simp at h
  · split at h
    · simp at h
    · omega
theorem pc_in {w : Int} {ph : List Int} {o : List Nat} {h : Nat → Int} (hs : Pc w ph ph.length o h) {c : Nat} : c ∈ o ↔ thN ph c = true := by
  obtain ⟨fr, fo⟩ := hs.fo
  exact ⟨fun hc => (fo.inn c hc).2, fun ht => hs.al c (thN_lt ht) ht⟩
theorem pc_two {w : Int} {ph : List Int} {o o' : List Nat} {h h' : Nat → Int} (hs : Pc w ph ph.length o h) (hs' : Pc w ph ph.length o' h') (hp : PotG (edN w ph) (stN ph) h) : h' = h := by
  obtain ⟨fr, fo⟩ := hs.fo
  obtain ⟨fr', fo'⟩ := hs'.fo
  have hg := grid_gr w ph
  funext c
  by_cases hc : c ∈ o'
  · exact Fo.two hg.sym fo fo' (fun c _ ht => (pc_in hs).2 ht) hp c hc
  · rw [hs'.ze c hc, hs.ze c (fun h => hc ((pc_in hs').2 ((pc_in hs).1 h)))]
/-- heights are the phases but for whole orders -/
theorem pc_mod {w : Int} {ph : List Int} {o : List Nat} {h : Nat → Int} (hs : Pc w ph ph.length o h) {c : Nat} (hc : c ∈ o) : (h c - ph.getD c 0) % 1000 = 0 := by
  obtain ⟨fr, fo⟩ := hs.fo
  have key : ∀ (i : Nat) (x : Nat), o[i]? = some x → (h x - ph.getD x 0) % 1000 = 0 := by
    intro i
    induction i using Nat.strongRecOn with
    | _ i ih =>
      intro x hx
      rcases fo.tr i x hx with ⟨_, h2, _⟩ | ⟨j, a, h1, h2, _, h4, h5⟩
      · rw [h2]; show (ph.getD x 0 - ph.getD x 0) % 1000 = 0; omega
      · have h6 := ih j h1 a h2
        have h7 := stepI_mod ph (a : Int) (x : Int)
        rw [Int.toNat_natCast, Int.toNat_natCast] at h7
        have h8 : stN ph a x = stepI ph (a : Int) (x : Int) := rfl
        rw [h5, h8]; omega
  obtain ⟨i, hi, hic⟩ := List.mem_iff_getElem.1 hc
  exact key i c (by rw [List.getElem?_eq_getElem hi, hic])
theorem pc_phase {w : Int} {ph : List Int} {o : List Nat} {h : Nat → Int} (hp : okPh ph) (hs : Pc w ph ph.length o h) {c : Nat} (hc : c < ph.length) (h0 : 0 ≤ ph.getD c 0) : h c % 1000 = ph.getD c 0 := by
  have ht : thN ph c = true := by
    unfold thN thereB
    rw [Int.toNat_natCast]
    exact decide_eq_true ⟨by omega, by omega, by omega⟩
  have h1 := pc_mod hs ((pc_in hs).2 ht)
  have h2 := hp c
  omega
theorem pc_bd {w : Int} {ph : List Int} {n : Nat} {o : List Nat} {h : Nat → Int} (hs : Pc w ph n o h) (hl : ph.length ≤ 144) (c : Nat) : -100000 ≤ h c ∧ h c ≤ 100000 := by
  obtain ⟨fr, fo⟩ := hs.fo
  have h1 := fo.len
  have h2 := hs.bd c
  omega
theorem at_shiftU {F N : List Blk} {id : Nat} {b : Blk} (h : N[id]? = some b) : (F ++ N.map (renB (shiftρ F.length)))[id + F.length]? = some (renB (shiftρ F.length) b) := by
  rw [List.getElem?_append_right (by omega), Nat.add_sub_cancel, List.getElem?_map, h]; rfl
section
variable {P : Program} {s : List (Nat × AV)} {h : List Blk} {K : St → Prop} {g : FuncId} {args args' : List AV} {e : Option Nat} {w : Int} {ph : List Int}
theorem wcall_QU {Q : AV → List Blk → Prop} (hf : ACall P g args' [] Q) (he : rfyL (hget h) args = args') (hp : plainL args' = true)
    (hk : ∀ r N F, F.length = h.length → Ext h F → Q r N → K (St.put ⟨s, F ++ N.map (renB (shiftρ F.length))⟩ e (ren (shiftρ F.length) r))) : wcall P false (.lit (.func (.func g) #[] #[])) args e ⟨s, h⟩ K := by
  subst he
  unfold wcall
  simp only [target, List.map_nil, List.nil_append, List.append_nil, Bool.false_eq_true, if_false]
  refine ⟨hp, ACall.mono hf fun r N hrN => ?_⟩
  have := hk r N (freeze h (lidsL (hget h) args)) (frzLen _ _) (Ext.freeze _ _) hrN
  rw [frzLen] at this
  exact this
theorem wcall_45 (hf : ACall P g args' [] (Q45 w ph)) (he : rfyL (hget h) args = args') (hp : plainL args' = true)
    (h1 : ∀ o f id H', Ext h H' → Pc w ph ph.length o f → PotG (edN w ph) (stN ph) f → H'[id]? = some (.cells true false 1 ((mk ph.length f).map fun x => [i64 x])) → K (St.put ⟨s, H'⟩ e (.tup [.lsl id 0 ph.length, bl true])))
    (h2 : ∀ o f H', Ext h H' → Pc w ph ph.length o f → ¬PotG (edN w ph) (stN ph) f → K (St.put ⟨s, H'⟩ e (.tup [.sl true 0 [], bl false]))) : wcall P false (.lit (.func (.func g) #[] #[])) args e ⟨s, h⟩ K := by
  refine wcall_QU hf he hp fun r N F hF hx hQ => ?_
  obtain ⟨o, f, hpc, ⟨hpot, id, rfl, hid⟩ | ⟨hno, rfl⟩⟩ := hQ
  · have h3 := at_shiftU (F := F) hid
    simp only [renB, renR_ints] at h3
    exact h1 o f (id + F.length) _ (hx.trans (Ext.app _ _)) hpc hpot h3
  · exact h2 o f _ (hx.trans (Ext.app _ _)) hpc hno
theorem wcall_42 (hf : ACall P g args' [] (Q42 w ph)) (he : rfyL (hget h) args = args') (hp : plainL args' = true)
    (h1 : ∀ o f id H', Ext h H' → Pc w ph ph.length o f → PotG (edN w ph) (stN ph) f → H'[id]? = some (.cells true false 1 ((mk ph.length f).map fun x => [i64 x])) → K (St.put ⟨s, H'⟩ e (.tup [.lsl id 0 ph.length, .sl true 0 [], i64 0])))
    (h2 : ∀ o f id (L : List Nat) H', Ext h H' → Pc w ph ph.length o f → ¬PotG (edN w ph) (stN ph) f → H'[id]? = some (.cells true false 1 ((czN L).map fun x => [i64 x])) → L.length ≤ ph.length → (chkLp w ph (czN L)).2 = 0 → K (St.put ⟨s, H'⟩ e (.tup [.sl true 0 [], .lsl id 0 L.length, i64 25]))) : wcall P false (.lit (.func (.func g) #[] #[])) args e ⟨s, h⟩ K := by
  refine wcall_QU hf he hp fun r N F hF hx hQ => ?_
  obtain ⟨o, f, hpc, ⟨hpot, id, rfl, hid⟩ | ⟨hno, id, L, rfl, hid, hl, hch⟩⟩ := hQ
  · have h3 := at_shiftU (F := F) hid
    simp only [renB, renR_ints] at h3
    exact h1 o f (id + F.length) _ (hx.trans (Ext.app _ _)) hpc hpot h3
  · have h3 := at_shiftU (F := F) hid
    simp only [renB, renR_ints] at h3
    exact h2 o f (id + F.length) L _ (hx.trans (Ext.app _ _)) hpc hno h3 hl hch
end
theorem rds_lsl {H : List Blk} {id n d : Nat} {own : Bool} {xs : List Int} (h : H[id]? = some (.cells own false 1 (xs.map fun x => [i64 x]))) (hl : xs.length = n) : Rds (d + 1) H (.lsl id 0 n) (ints false xs) := ⟨by
  unfold rfy
  rw [hget_some' h]
  dsimp only
  rw [if_pos (by simp; omega), List.drop_zero, List.take_of_length_le (by simp; omega), List.map_map]
  refine congrArg (AV.sl false 1) (List.map_congr_left fun x _ => ?_)
  simp only [Function.comp, List.map_cons, List.map_nil, rfyU], by simp [plain]⟩
theorem g43 (w : Int) (nil : Bool) (ph : List Int) (hl : ph.length < 1000000) : Gv 3 Try.prog 43 [fmap w nil ph] [fmap w false ph] :=
  Gv.of_fn 3 (k43 w nil ph (by omega)) [.agg [i64 w, .lsl 0 0 ph.length]] rfl (by
    have h := (rds_lsl (H := [.cells true false 1 (ph.map fun x => [i64 x])]) (id := 0) (own := true) (d := 1) rfl rfl : Rds 2 _ _ (ints false ph)).1
    show [AV.agg [rfy _ 2 (i64 w), rfy _ 2 (.lsl 0 0 ph.length)]] = _
    rw [h, rfyU]) (by simp [plainL, plain])
theorem g28 (nl : Bool) (l : List Int) (hl : l.length < 1000000) : Gv 3 Try.prog 28 [ints nl l] [ints false l] :=
  Gv.of_fn 3 (k28 nl l (by omega)) [.lsl 0 0 l.length] rfl (by
    have h := (rds_lsl (H := [.cells true false 1 (l.map fun x => [i64 x])]) (id := 0) (own := true) (d := 2) rfl rfl : Rds 3 _ _ (ints false l)).1
    rw [List.map_cons, List.map_nil, h]) (by simp [plainL, plain])
end Go.Abs
