import Derived.Test.YtookdheldelepaaGreatDoorPCmin
import Derived.Test.YtookdheldelepaaGreatDoorK6x
set_option linter.all false
set_option linter.unusedVariables false
set_option linter.unusedSimpArgs false
set_option linter.unusedSectionVars false
namespace Go.Abs
/-! READING: what a value of ours reads as, whatever its blocks; kept by all that only adds or freezes -/
theorem plainL_mem : ∀ {l : List AV}, plainL l = true → ∀ a ∈ l, plain a = true
  | [], _, _, h => by simp at h
  | x :: l, h, a, ha => by
    simp only [plainL, Bool.and_eq_true] at h
    rcases List.mem_cons.1 ha with rfl | ha
    · exact h.1
    · exact plainL_mem h.2 a ha
theorem plainR_mem : ∀ {l : List (List AV)}, plainR l = true → ∀ r ∈ l, plainL r = true
  | [], _, _, h => by simp at h
  | x :: l, h, a, ha => by
    simp only [plainR, Bool.and_eq_true] at h
    rcases List.mem_cons.1 ha with rfl | ha
    · exact h.1
    · exact plainR_mem h.2 a ha
theorem renL_map (ρ : Nat → Option Nat) : ∀ l : List AV, renL ρ l = l.map (ren ρ)
  | [] => rfl
  | a :: l => by simp [renL, renL_map ρ l]
theorem renR_map (ρ : Nat → Option Nat) : ∀ l : List (List AV), renR ρ l = l.map (renL ρ)
  | [] => rfl
  | a :: l => by simp [renR, renR_map ρ l]
def Ext (H H' : List Blk) : Prop := ∀ (id : Nat) (o n : Bool) (sz : Nat) (els : List (List AV)), H[id]? = some (.cells o n sz els) → ∃ o', H'[id]? = some (.cells o' n sz els)
theorem Ext.refl (H : List Blk) : Ext H H := fun _ o _ _ _ h => ⟨o, h⟩
theorem Ext.trans {A B C : List Blk} (h1 : Ext A B) (h2 : Ext B C) : Ext A C := fun id o n sz els h => by
  obtain ⟨o1, h300⟩ := h1 id o n sz els h
  exact h2 id o1 n sz els h300
theorem Ext.app (H X : List Blk) : Ext H (H ++ X) := fun id o n sz els h => ⟨o, by rw [List.getElem?_append_left (List.getElem?_eq_some_iff.1 h).1]; exact h⟩
theorem Ext.freeze1 (H : List Blk) (id : Nat) : Ext H (Go.Abs.freeze1 H id) := fun j own n s e h => by
  unfold Go.Abs.freeze1
  split
  · rename_i n' s' e' h1
    by_cases hij : id = j
    · subst hij
      rw [h] at h1
      simp only [Option.some.injEq, Blk.cells.injEq] at h1
      obtain ⟨rfl, rfl, rfl, rfl⟩ := h1
      exact ⟨false, List.getElem?_set_self (List.getElem?_eq_some_iff.1 h).1⟩
    · exact ⟨own, by rw [List.getElem?_set_ne hij]; exact h⟩
  · exact ⟨own, h⟩
theorem Ext.freeze : ∀ (ids : List Nat) (H : List Blk), Ext H (Go.Abs.freeze H ids)
  | [], H => Ext.refl H
  | id :: r, H => (Ext.freeze1 H id).trans (Ext.freeze r _)
theorem Ext.call (H X : List Blk) (ids : List Nat) : Ext H (Go.Abs.freeze H ids ++ X) := (Ext.freeze ids H).trans (Ext.app _ X)
theorem hget_some' {H : List Blk} {id : Nat} {b : Blk} (h : H[id]? = some b) : hget H id = b := by unfold hget; rw [h]; rfl
theorem hget_cells' {H : List Blk} {id : Nat} {o n : Bool} {sz : Nat} {els : List (List AV)} (h : hget H id = .cells o n sz els) : H[id]? = some (.cells o n sz els) := by
  unfold hget at h
  cases hc : H[id]? with
  | none => rw [hc] at h; simp at h
  | some b => rw [hc] at h; simp at h; rw [h]
theorem rfy_ext {H H' : List Blk} (hx : Ext H H') : ∀ (d : Nat) (v : AV), plain (rfy (hget H) d v) = true → rfy (hget H') d v = rfy (hget H) d v
  | 0, _, _ => rfl
  | d + 1, .lsl id i len, h => by
    unfold rfy at h ⊢
    cases hc : hget H id with
    | cells o n sz els =>
      obtain ⟨o', h'⟩ := hx id o n sz els (hget_cells' hc)
      rw [hget_some' h']
      rw [hc] at h
      dsimp only at h ⊢
      by_cases hl : len ≤ els.length - i
      · rw [if_pos hl] at h
        rw [if_pos hl, if_pos hl]
        simp only [plain] at h
        refine congrArg (AV.sl n sz) (List.map_congr_left fun r hr => List.map_congr_left fun a ha => rfy_ext hx d a ?_)
        exact plainL_mem (plainR_mem h _ (List.mem_map_of_mem hr)) _ (List.mem_map_of_mem ha)
      · rw [if_neg hl, if_neg hl]
    | dead => rw [hc] at h; simp [plain] at h
    | resv => rw [hc] at h; simp [plain] at h
    | obj o => rw [hc] at h; simp [plain] at h
  | d + 1, .agg cs, h => by
    simp only [rfy, plain] at h ⊢
    exact congrArg AV.agg (List.map_congr_left fun a ha => rfy_ext hx d a (plainL_mem h _ (List.mem_map_of_mem ha)))
  | _ + 1, .lit _, _ => rfl
  | _ + 1, .sl .., _ => rfl
  | _ + 1, .emp, _ => rfl
  | _ + 1, .err, _ => rfl
  | _ + 1, .adr .., _ => rfl
  | _ + 1, .tup _, _ => rfl
  | _ + 1, .loc .., _ => rfl
  | _ + 1, .clo .., _ => rfl
  | _ + 1, .mp _, _ => rfl
  | _ + 1, .top, _ => rfl
  | _ + 1, .top1, _ => rfl
theorem rfy_shift {F N : List Blk} : ∀ (d : Nat) (v : AV), plain (rfy (hget N) d v) = true → rfy (hget (F ++ N.map (renB (shiftρ F.length)))) d (ren (shiftρ F.length) v) = rfy (hget N) d v
  | 0, v, h => ren_plain _ v h
  | d + 1, .lsl id i len, h => by
    have e : ren (shiftρ F.length) (.lsl id i len) = .lsl (id + F.length) i len := rfl
    rw [e]
    unfold rfy at h ⊢
    cases hc : hget N id with
    | cells o n sz els =>
      have h1 := hget_cells' hc
      have h2 : (F ++ N.map (renB (shiftρ F.length)))[id + F.length]? = some (.cells o n sz (renR (shiftρ F.length) els)) := by
        rw [List.getElem?_append_right (by omega), Nat.add_sub_cancel, List.getElem?_map, h1]; rfl
      rw [hget_some' h2]
      rw [hc] at h
      dsimp only at h ⊢
      rw [renR_len]
      by_cases hl : len ≤ els.length - i
      · rw [if_pos hl] at h
        rw [if_pos hl, if_pos hl]
        simp only [plain] at h
        rw [renR_map, ← List.map_drop, ← List.map_take, List.map_map]
        refine congrArg (AV.sl n sz) (List.map_congr_left fun r hr => ?_)
        simp only [Function.comp]
        rw [renL_map, List.map_map]
        exact List.map_congr_left fun a ha => rfy_shift d a (plainL_mem (plainR_mem h _ (List.mem_map_of_mem hr)) _ (List.mem_map_of_mem ha))
      · rw [if_neg hl, if_neg hl]
    | dead => rw [hc] at h; simp [plain] at h
    | resv => rw [hc] at h; simp [plain] at h
    | obj o => rw [hc] at h; simp [plain] at h
  | d + 1, .agg cs, h => by
    have e : ren (shiftρ F.length) (.agg cs) = .agg (renL (shiftρ F.length) cs) := rfl
    rw [e, renL_map]
    simp only [rfy, plain, List.map_map] at h ⊢
    exact congrArg AV.agg (List.map_congr_left fun a ha => rfy_shift d a (plainL_mem h _ (List.mem_map_of_mem ha)))
  | d + 1, .lit v, h => rfl
  | d + 1, .sl a b c, h => by
    have h' : plain (.sl a b c) = true := h
    rw [ren_plain _ _ h']; rfl
  | d + 1, .emp, h => rfl
  | d + 1, .err, h => rfl
  | d + 1, .adr a b c e, h => by
    have h' : plain (.adr a b c e) = true := h
    rw [ren_plain _ _ h']; rfl
  | d + 1, .tup a, h => by
    have h' : plain (.tup a) = true := h
    rw [ren_plain _ _ h']; rfl
  | d + 1, .loc a b c, h => by simp [rfy, plain] at h
  | d + 1, .clo a b c, h => by
    have h' : plain (.clo a b c) = true := h
    rw [ren_plain _ _ h']; rfl
  | d + 1, .mp a, h => by simp [rfy, plain] at h
  | d + 1, .top, h => rfl
  | d + 1, .top1, h => rfl
/-- a value reads as that, so deep -/
def Rds (d : Nat) (H : List Blk) (v w : AV) : Prop := rfy (hget H) d v = w ∧ plain w = true
theorem rfy_up {h : Nat → Blk} : ∀ (d : Nat) (v : AV), plain (rfy h d v) = true → rfy h (d + 1) v = rfy h d v
  | 0, .agg cs, _ => by
    have e : cs.map (rfy h 0) = cs := (List.map_congr_left fun a _ => rfl).trans (List.map_id cs)
    show AV.agg (cs.map (rfy h 0)) = AV.agg cs
    rw [e]
  | 0, .lsl .., h => by simp [rfy, plain] at h
  | 0, .lit _, _ => rfl
  | 0, .sl .., _ => rfl
  | 0, .emp, _ => rfl
  | 0, .err, _ => rfl
  | 0, .adr .., _ => rfl
  | 0, .tup _, _ => rfl
  | 0, .loc .., _ => rfl
  | 0, .clo .., _ => rfl
  | 0, .mp _, _ => rfl
  | 0, .top, _ => rfl
  | 0, .top1, _ => rfl
  | d + 1, .lsl id i len, hp => by
    rw [rfy.eq_def h (d + 1)] at hp
    rw [rfy.eq_def h (d + 1 + 1), rfy.eq_def h (d + 1)]
    dsimp only at hp ⊢
    cases hc : h id with
    | cells o n sz els =>
      rw [hc] at hp
      dsimp only at hp ⊢
      by_cases hl : len ≤ els.length - i
      · rw [if_pos hl] at hp
        rw [if_pos hl, if_pos hl]
        simp only [plain] at hp
        refine congrArg (AV.sl n sz) (List.map_congr_left fun r hr => List.map_congr_left fun a ha => rfy_up d a ?_)
        exact plainL_mem (plainR_mem hp _ (List.mem_map_of_mem hr)) _ (List.mem_map_of_mem ha)
      · rw [if_neg hl, if_neg hl]
    | _ => rfl
  | d + 1, .agg cs, hp => by
    rw [rfy.eq_def h (d + 1)] at hp
    rw [rfy.eq_def h (d + 1 + 1), rfy.eq_def h (d + 1)]
    dsimp only at hp ⊢
    simp only [plain] at hp
    exact congrArg AV.agg (List.map_congr_left fun a ha => rfy_up d a (plainL_mem hp _ (List.mem_map_of_mem ha)))
  | _ + 1, .lit _, _ => rfl
  | _ + 1, .sl .., _ => rfl
  | _ + 1, .emp, _ => rfl
  | _ + 1, .err, _ => rfl
  | _ + 1, .adr .., _ => rfl
  | _ + 1, .tup _, _ => rfl
  | _ + 1, .loc .., _ => rfl
  | _ + 1, .clo .., _ => rfl
  | _ + 1, .mp _, _ => rfl
  | _ + 1, .top, _ => rfl
  | _ + 1, .top1, _ => rfl
section
variable {d : Nat} {H H' F N : List Blk} {v w : AV}
theorem Rds.up (h : Rds d H v w) : Rds (d + 1) H v w := ⟨by rw [rfy_up d v (by rw [h.1]; exact h.2), h.1], h.2⟩
theorem Rds.ups (h : Rds d H v w) : ∀ k, Rds (d + k) H v w
  | 0 => h
  | k + 1 => (h.ups k).up
theorem Rds.to (h : Rds d H v w) {e : Nat} (he : d ≤ e) : Rds e H v w := by
  have := h.ups (e - d)
  rwa [show d + (e - d) = e by omega] at this
theorem Rds.ext (h : Rds d H v w) (hx : Ext H H') : Rds d H' v w := by
  obtain ⟨h1, h2⟩ := h
  exact ⟨by rw [rfy_ext hx d v (by rw [h1]; exact h2), h1], h2⟩
theorem Rds.app (h : Rds d H v w) (X : List Blk) : Rds d (H ++ X) v w := h.ext (Ext.app H X)
theorem Rds.shift (h : Rds d N v w) : Rds d (F ++ N.map (renB (shiftρ F.length))) (ren (shiftρ F.length) v) w := by
  obtain ⟨h1, h2⟩ := h
  exact ⟨by rw [rfy_shift d v (by rw [h1]; exact h2), h1], h2⟩
theorem Rds.shift' {n : Nat} (h : Rds d N v w) (hn : n = F.length) : Rds d (F ++ N.map (renB (shiftρ n))) (ren (shiftρ n) v) w := by subst hn; exact h.shift
theorem Rds.lit {x : Value} (h : Rds d H v (.lit x)) : v = .lit x := by
  obtain ⟨h1, _⟩ := h
  cases d with
  | zero => exact h1
  | succ d =>
  cases v with
  | lsl id i len =>
    simp only [rfy] at h1
    split at h1
    · split at h1 <;> simp at h1
    · simp at h1
  | agg cs => simp [rfy] at h1
  | _ => exact h1
/-- a slice: as it stands, or in a block -/
theorem Rds.sl {nil : Bool} {sz : Nat} {W : List (List AV)} (h : Rds (d + 1) H v (.sl nil sz W)) :
    v = .sl nil sz W ∨ ∃ id i n o els, v = .lsl id i n ∧ H[id]? = some (.cells o nil sz els) ∧ n ≤ els.length - i ∧ W = ((els.drop i).take n).map fun r => r.map (rfy (hget H) d) := by
  obtain ⟨h1, _⟩ := h
  cases v with
  | lsl id i len =>
    simp only [rfy] at h1
    cases hc : hget H id with
    | cells o n s els =>
      rw [hc] at h1
      dsimp only at h1
      split at h1
      · rename_i hl
        simp only [AV.sl.injEq] at h1
        obtain ⟨rfl, rfl, rfl⟩ := h1
        exact .inr ⟨id, i, len, o, els, rfl, hget_cells' hc, hl, rfl⟩
      · simp at h1
    | _ => rw [hc] at h1; simp at h1
  | agg cs => simp [rfy] at h1
  | _ => exact .inl h1
theorem Rds.len {nil : Bool} {sz : Nat} {W : List (List AV)} (h : Rds d H v (.sl nil sz W)) : lenOf (hget H) v = some W.length := by
  rcases h.up.sl with rfl | ⟨id, i, n, o, els, rfl, h1, h2, rfl⟩
  · rfl
  · simp only [lenOf, hget_some' h1]
    rw [List.length_map, List.length_take, List.length_drop]
    congr 1; omega
/-- what is one cell -/
theorem Rds.one {nil : Bool} {sz : Nat} {W : List (List AV)} (h : Rds d H v (.sl nil sz W)) : isOne v = true := by
  rcases h.up.sl with rfl | ⟨id, i, n, o, els, rfl, h1, h2, rfl⟩ <;> rfl
end
/-- a call that yields what reads so -/
def Gv (d : Nat) (P : Program) (g : FuncId) (args ws : List AV) : Prop := ACall P g args [] fun r N => ∃ vs, r = tupOf vs ∧ vs.map (rfy (hget N) d) = ws ∧ plainL ws = true
def leaveG (d : Nat) (rs : List ARes) (ws : List AV) : Exit → St → Prop := leaveA rs fun r H => ∃ vs, r = tupOf vs ∧ vs.map (rfy (hget H) d) = ws ∧ plainL ws = true
theorem leave_g {d : Nat} {rs : List ARes} {σ : St} {ws : List AV} {e : Exit} (he : e = .normal ∨ e = .ret) (vs : List AV) (hv : resL σ rs = some vs) (hw : vs.map (rfy (hget σ.heap) d) = ws) (hp : plainL ws = true) : leaveG d rs ws e σ := by
  rcases he with rfl | rfl <;> exact ⟨vs, hv, vs, rfl, hw, hp⟩
@[congr] theorem leaveG_congr {d : Nat} {rs : List ARes} {ws : List AV} {e : Exit} {σ σ' : St} (h : σ = σ') : leaveG d rs ws e σ = leaveG d rs ws e σ' := by rw [h]
theorem gv_of {d : Nat} {P : Program} {muts : List FuncId} {g : FuncId} {n : Nat} {ac : ACode} {rs : List ARes} (h : envOf P muts g = some (n, ac, rs)) {args ws : List AV}
    (hT : T none P muts n 0 ac ⟨(args.zipIdx 0).map fun (x : AV × Nat) => (x.2, x.1), []⟩ (leaveG d rs ws)) : Gv d P g args ws := by
  exact envOf_all h hT
section
variable {P : Program} {s : List (Nat × AV)} {h : List Blk} {K : St → Prop} {g : FuncId} {args args' : List AV} {e : Option Nat} {d : Nat}
theorem frzLen : ∀ (ids : List Nat) (H : List Blk), (freeze H ids).length = H.length
  | [], _ => rfl
  | id :: r, H => by
    show (freeze (freeze1 H id) r).length = _
    rw [frzLen r]
    unfold freeze1; split <;> simp
theorem gv_out {r : AV} {N : List Blk} {ws : List AV} (n : Nat) (h : ∃ vs, r = tupOf vs ∧ vs.map (rfy (hget N) d) = ws ∧ plainL ws = true) :
    ∃ vs, ren (shiftρ n) r = tupOf vs ∧ vs.length = ws.length ∧ ∀ F : List Blk, F.length = n → ∀ i, i < ws.length → Rds d (F ++ N.map (renB (shiftρ n))) (vs.getD i .top) (ws.getD i .top) := by
  obtain ⟨vs, e1, e2, e300⟩ := h
  subst e1
  have hl : vs.length = ws.length := by rw [← e2]; simp
  refine ⟨vs.map (ren (shiftρ n)), ?_, by simp [hl], fun F hn i hi => ?_⟩
  · cases vs with
    | nil => rfl
    | cons a r => cases r with
      | nil => rfl
      | cons b r => simp [tupOf, ren, renL_map, renL]
  have h1 : rfy (hget N) d (vs.getD i .top) = ws.getD i .top := by
    rw [← e2]; simp [List.getD_eq_getElem?_getD, hl ▸ hi]
  have h2 : plain (ws.getD i .top) = true := plainL_mem e300 _ (by rw [List.getD_eq_getElem?_getD, List.getElem?_eq_getElem hi]; exact List.getElem_mem hi)
  have h300 : (vs.map (ren (shiftρ n))).getD i .top = ren (shiftρ n) (vs.getD i .top) := by
    simp [List.getD_eq_getElem?_getD, hl ▸ hi]
  rw [h300]
  exact Rds.shift' ⟨h1, h2⟩ hn.symm
theorem wcall_gv {ws : List AV} (hf : Gv d P g args' ws) (he : rfyL (hget h) args = args') (hp : plainL args' = true)
    (hk : ∀ vs X, vs.length = ws.length → (∀ F : List Blk, F.length = h.length → ∀ i, i < ws.length → Rds d (F ++ X) (vs.getD i .top) (ws.getD i .top)) → K (St.put ⟨s, freeze h (lidsL (hget h) args) ++ X⟩ e (tupOf vs))) : wcall P false (.lit (.func (.func g) #[] #[])) args e ⟨s, h⟩ K := by
  subst he
  unfold wcall
  simp only [target, List.map_nil, List.nil_append, List.append_nil, Bool.false_eq_true, if_false]
  refine ⟨hp, ACall.mono hf fun r N hrN => ?_⟩
  obtain ⟨vs, h1, h2, h300⟩ := gv_out h.length hrN
  rw [h1]
  exact hk vs _ h2 h300
theorem wcall_g3 {w1 w2 w3 : AV} (hf : Gv d P g args' [w1, w2, w3]) (he : rfyL (hget h) args = args') (hp : plainL args' = true)
    (hk : ∀ v1 v2 v3 X, (∀ F : List Blk, F.length = h.length → Rds d (F ++ X) v1 w1) → (∀ F : List Blk, F.length = h.length → Rds d (F ++ X) v2 w2) → (∀ F : List Blk, F.length = h.length → Rds d (F ++ X) v3 w3) → K (St.put ⟨s, freeze h (lidsL (hget h) args) ++ X⟩ e (.tup [v1, v2, v3]))) : wcall P false (.lit (.func (.func g) #[] #[])) args e ⟨s, h⟩ K := by
  refine wcall_gv hf he hp fun vs X hl hr => ?_
  match vs, hl with
  | [v1, v2, v3], _ => exact hk v1 v2 v3 X (fun F hF => hr F hF 0 (by simp)) (fun F hF => hr F hF 1 (by simp)) (fun F hF => hr F hF 2 (by simp))
end
end Go.Abs
