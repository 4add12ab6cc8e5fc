import Derived.Test.YtookdheldelepaaGreatDoorAbsL
import Derived.Carry
import Derived.OpenShut
import Derived.ChangeSame
import Derived.ChangeSlices
import Derived.Below
import Derived.RowKit
set_option linter.all false
set_option linter.unusedVariables false
set_option linter.unusedSimpArgs false
set_option linter.unusedSectionVars false
/- from the machine's answer to a law's row, where package-level variables are read -/
namespace Go.Abs
open Go.ChangeShapes Go.WideShapes Go.RowKit
def loneG (W : World) : Ctx := ⟨[], [], W, fun b => b < 4⟩
theorem loneG_rel {W : World} (h4 : 4 ≤ W.heap.size) (hg : GlW W) : HeapRel (loneG W) :=
  ⟨rfl, fun _ _ _ _ _ h => by simp [loneG] at h, fun _ _ _ _ _ _ _ _ _ _ _ _ _ h => by simp [loneG] at h, fun b (h : b < 4) => Nat.lt_of_lt_of_le h h4, fun _ _ h => by simp [loneG] at h, fun _ _ _ _ _ _ _ _ _ _ h => by simp [loneG] at h, fun _ _ _ h => by simp [loneG] at h,
    fun p hp => ⟨by simp only [globs, List.mem_cons, List.not_mem_nil, or_false] at hp; rcases hp with rfl | rfl | rfl | rfl <;> (show (_ : Nat) < 4; decide), hg p hp⟩⟩
theorem loneG_own {W : World} {b : Nat} : ¬ (loneG W).own b := by
  rintro (⟨_, _, _, _, _, h, _⟩ | ⟨_, _, h, _⟩) <;> simp [loneG] at h
theorem law_callsG {P : Program} {g : FuncId} {args : List AV} {cargs : List Value} {W : World} (h : Fn P g args (.lit (.bool true)) []) (h4 : 4 ≤ W.heap.size) (hg : GlW W) (hc : ConcL (loneG W) args cargs) :
    Calls P g cargs.toArray W fun e W' => e = .returned (.bool true) ∧ Below W.heap.size W W' :=
  (h.2 (loneG W) cargs rfl (loneG_rel h4 hg) hc).mono fun e W' ⟨u, r, H', m', he, ⟨hr, _⟩, hs, _, hu⟩ => by
    subst hr
    simp only [Conc] at hu
    subst hu
    exact ⟨he, hs.os, hs.tape, hs.output, hs.size, fun k hk => hs.blk k hk loneG_own⟩

section
variable {H : Type} {enc : TypeId × Value → H} {P : Program} {W W' : World}
theorem trodAll_stays (hl : laidOutB P = true) (hb : Below W.heap.size W W') {sp : Nat → Bool} :
    ∀ {ts : List TypeId} {vs : List Value} {ds : List (DataW H)} {ps : List MemPlace}, DataW.TrodAll enc P W 0 (fun _ => true) true ts vs ds ps → (∀ t ∈ ts, P.readableRec t = true ∧ t < P.types.size) →
      (∀ x ∈ ps, x.block < W.heap.size) → (∀ x ∈ ps, sp x.block = true) → DataW.TrodAll enc P W' 0 sp true ts vs ds ps
  | [], _, _, _, h, _, _, _ => by
    obtain ⟨rfl, rfl, rfl⟩ := trodAll_nil h
    exact rfl
  | t :: ts, _, _, _, h, hr, hlt, hsp => by
    obtain ⟨v, vs1, d, ds1, a, b, rfl, rfl, rfl, h1, h2⟩ := trodAll_cons h
    refine ⟨a, b, WideElems.Trod_stays hl (hr t (by simp)).1 (hr t (by simp)).2 h1 (fun x hx => hb.same (hlt x (by simp [hx]))) (fun x hx => hsp x (by simp [hx])), ?_, rfl⟩
    exact trodAll_stays hl hb h2 (fun t ht => hr t (by simp [ht])) (fun x hx => hlt x (by simp [hx])) (fun x hx => hsp x (by simp [hx]))

theorem post_law {f : Func} {s : ChangeSpec} {t : TypeId} {args : Array Value} {ds gs : List (DataW H)} {before : List MemPlace}
    (hW : DataW.Whole enc P f.params.toList s.vars false W args.toList ds gs before) (hv : s.vars = []) (hfn : s.fn H (ds ++ gs) = { results := [.lit (.bool true)], args := ds })
    (hrt : f.resultTypes = #[t]) (ht : P.underlying t = some .bool) (hl : laidOutB P = true) (hr : ∀ t ∈ f.params.toList, P.readableRec t = true ∧ t < P.types.size) (hb : Below W.heap.size W W') :
    s.post enc P f false true false false W args (.bool true) W' := by
  have hlt := hW.lt
  have hold : ∀ p ∈ before, (fun b => decide (b < W.heap.size)) p.block = true := fun p hp => by simpa using hlt p hp
  have hW' := hW
  obtain ⟨p, q, hA, hV, hbe, hz, hn⟩ := hW'
  rw [hv] at hV
  obtain ⟨rfl, rfl⟩ := trodVars_none hV
  rw [List.append_nil] at hbe
  subst hbe
  have hres : ∀ (b : Nat) (sp : Nat → Bool) (hd : Bool), DataW.TrodAll enc P W' b sp hd f.resultTypes.toList ((Value.bool true).resultList f.resultTypes.size) (s.fn H (ds ++ [])).results [] := fun b sp hd => by
    rw [hrt, hfn]; exact trodAll_mk1 (shut_bool ht true)
  have hargs : ∀ sp : Nat → Bool, (∀ x ∈ before, sp x.block = true) → DataW.TrodAll enc P W' 0 sp true f.params.toList args.toList (s.fn H (ds ++ [])).args before := fun sp hsp => by
    rw [hfn]; exact trodAll_stays hl hb hA hr hlt hsp
  have hvars : ∀ sp : Nat → Bool, DataW.TrodVars enc P W' sp s.vars (s.fn H (ds ++ [])).vars [] := fun sp => by
    rw [hfn, hv]; exact rfl
  refine ⟨ds, [], before, [], before, [], hW, hres _ _ _, hargs _ hold, hvars _, hb.frame _, fun _ => ?_⟩
  refine ⟨ok_one hrt rfl (okWide_bool_mk ht true), _, _, ([] ++ before) ++ [], ⟨[] ++ before, [], trodAll_append (hargs _ (fun _ _ => rfl)) (hres _ _ _), hvars _, rfl, ?_, ?_⟩, ?_⟩
  · intro b off hp
    have hp' : MemPlace.cell b off ∈ before := by simpa using hp
    have := hb.frozen (p := ⟨b, off, none⟩) (hlt _ hp')
    rw [this]
    exact hz b off hp'
  · intro ha; simp at ha
  · intro x hp _
    simpa using hp
end

end Go.Abs
