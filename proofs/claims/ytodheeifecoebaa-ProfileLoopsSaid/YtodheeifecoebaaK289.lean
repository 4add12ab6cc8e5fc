import Derived.Test.YtodheeifecoebaaK24x
import Derived.Test.YtodheeifecoebaaK210
import Derived.Test.YtodheeifecoebaaK288x
import Derived.Test.YtodheeifecoebaaK8
import Derived.Test.YtodheeifecoebaaK23x
set_option linter.all false
set_option linter.unusedVariables false
set_option linter.unusedSimpArgs false
set_option linter.unusedSectionVars false
namespace Go.Abs
open Go.Proofs
/-! law 7: both searches find the same; calls of both -/
theorem fr_okU {w : Int} {ph : List Int} (h : checkFr w ph = 0) : okPh ph ∧ 1 ≤ w ∧ w ≤ 1000000 := by
  unfold checkFr at h
  split at h
  · simp at h
  · rename_i hw
    split at h
    · simp at h
    · split at h
      · simp at h
      · rename_i hf
        refine ⟨fun k => ?_, by omega, by omega⟩
        have h1 := findB_nn badF ph 0 (by omega)
        rcases h1.2 with h2 | h2
        · by_cases hk : k < ph.length
          · have := h1.1.2 h2 (ph.getD k 0) (by simp [List.getD, hk])
            unfold badF at this
            simp at this
            simp only [List.getD_eq_getElem?_getD]
            omega
          · rw [List.getD_eq_getElem?_getD, List.getElem?_eq_none (by omega)]; simp
        · omega
theorem rfyU (h : Nat → Blk) (d : Nat) (x : Value) : rfy h d (.lit x) = .lit x := by cases d <;> rfl
theorem take_rfyU (h : Nat → Blk) (d : Nat) (xs : List Int) : List.take xs.length (List.map ((fun r => List.map (rfy h d) r) ∘ fun x => [i64 x]) xs) = List.map (fun x => [i64 x]) xs := by
  rw [List.take_of_length_le (by simp)]; exact List.map_congr_left fun x _ => by simp only [Function.comp, List.map_cons, List.map_nil, rfyU]
theorem flat_intsU (h : Nat → Blk) (d : Nat) (n : Nat) (xs : List Int) : (List.take n (List.map (fun x => [i64 x]) xs)).flatMap (fun r => r.flatMap (lids h d)) = [] := by
  rw [List.flatMap_eq_nil_iff]
  intro r hr
  obtain ⟨x, _, rfl⟩ := List.mem_map.1 (List.mem_of_mem_take hr)
  cases d <;> rfl
theorem fr_len {w : Int} {ph : List Int} (h : checkFr w ph = 0) : ph.length ≤ 144 := by
  unfold checkFr at h
  split at h
  · simp at h
  · split at h
    · simp at h
    · omega
theorem at_shiftU {F N : List Blk} {id : Nat} {b : Blk} (h : N[id]? = some b) : (F ++ N.map (renB (shiftρ F.length)))[id + F.length]? = some (renB (shiftρ F.length) b) := by
  rw [List.getElem?_append_right (by omega), Nat.add_sub_cancel, List.getElem?_map, h]; rfl
section
variable {P : Program} {s : List (Nat × AV)} {h : List Blk} {K : St → Prop} {g : FuncId} {args args' : List AV} {e : Option Nat} {w : Int} {ph : List Int}
theorem wcall_QU {Q : AV → List Blk → Prop} (hf : ACall P g args' [] Q) (he : rfyL (hget h) args = args') (hp : plainL args' = true)
    (hk : ∀ r N F, F.length = h.length → Ext h F → Q r N → K (St.put ⟨s, F ++ N.map (renB (shiftρ F.length))⟩ e (ren (shiftρ F.length) r))) : wcall P false (.lit (.func (.func g) #[] #[])) args e ⟨s, h⟩ K := by
  subst he
  unfold wcall
  simp only [target, List.map_nil, List.nil_append, List.append_nil, Bool.false_eq_true, if_false]
  refine ⟨hp, ACall.mono hf fun r N hrN => ?_⟩
  have := hk r N (freeze h (lidsL (hget h) args)) (frzLen _ _) (Ext.freeze _ _) hrN
  rw [frzLen] at this
  exact this
theorem wcall_42 (hf : ACall P g args' [] (Q42 w ph)) (he : rfyL (hget h) args = args') (hp : plainL args' = true)
    (h1 : ∀ o f id H', Ext h H' → Pc w ph ph.length o f → PotG (edN w ph) (stN ph) f → H'[id]? = some (.cells true false 1 ((mk ph.length f).map fun x => [i64 x])) → K (St.put ⟨s, H'⟩ e (.tup [.lsl id 0 ph.length, .sl true 0 [], i64 0])))
    (h2 : ∀ o f id (L : List Nat) H', Ext h H' → Pc w ph ph.length o f → ¬PotG (edN w ph) (stN ph) f → H'[id]? = some (.cells true false 1 ((czN L).map fun x => [i64 x])) → L.length ≤ ph.length → (chkLp w ph (czN L)).2 = 0 → K (St.put ⟨s, H'⟩ e (.tup [.sl true 0 [], .lsl id 0 L.length, i64 25]))) : wcall P false (.lit (.func (.func g) #[] #[])) args e ⟨s, h⟩ K := by
  refine wcall_QU hf he hp fun r N F hF hx hQ => ?_
  obtain ⟨o, f, hpc, ⟨hpot, id, rfl, hid⟩ | ⟨hno, id, L, rfl, hid, hl, hch⟩⟩ := hQ
  · have h3 := at_shiftU (F := F) hid
    simp only [renB, renR_ints] at h3
    exact h1 o f (id + F.length) _ (hx.trans (Ext.app _ _)) hpc hpot h3
  · have h3 := at_shiftU (F := F) hid
    simp only [renB, renR_ints] at h3
    exact h2 o f (id + F.length) L _ (hx.trans (Ext.app _ _)) hpc hno h3 hl hch
end
end Go.Abs
