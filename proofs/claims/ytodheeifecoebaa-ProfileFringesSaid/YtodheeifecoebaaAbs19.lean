/- The abstract machine as a function: what a run with its numbers known comes to. -/
import Derived.Test.YtodheeifecoebaaAbsR
set_option linter.all false
set_option linter.unusedVariables false
set_option linter.unusedSimpArgs false
set_option linter.unusedSectionVars false
namespace Go.Abs
open Go.RowKit

def compatB (F G : Foot) : Bool :=
  F.wr.all (fun x => !G.wr.contains x && !G.rd.contains x) && G.wr.all (fun x => !F.rd.contains x) &&
  (match F.call with | some n => (G.rd ++ G.wr).all fun x => decide (x < n) | none => true) && (match G.call with | some n => (F.rd ++ F.wr).all fun x => decide (x < n) | none => true)
theorem compatB_ok {F G : Foot} (h : compatB F G = true) : compat F G := by
  simp only [compatB, Bool.and_eq_true, List.all_eq_true, Bool.not_eq_true'] at h
  obtain ⟨⟨⟨h1, h2⟩, h3⟩, h4⟩ := h
  refine ⟨fun x hx => ?_, fun x hx => ?_, fun n hn x hx => ?_, fun n hn x hx => ?_⟩
  · have := h1 x hx; simp at this; exact this
  · have := h2 x hx; simp at this; exact this
  · rw [hn] at h3; simp only [List.all_eq_true, decide_eq_true_eq, List.mem_append] at h3; exact h3 x hx
  · rw [hn] at h4; simp only [List.all_eq_true, decide_eq_true_eq, List.mem_append] at h4; exact h4 x hx

def envOf (P : Program) (muts : List FuncId) (g : FuncId) : Option (Nat × ACode × List ARes) := match P.funcs[g]? with
  | some fn => match fn.body with
    | some c => if fn.name == "runtime.NumGoroutine" then none else (trCode P muts fn.ntmps c).bind fun ac => (trRes P fn.results.toList).map fun rs => (fn.ntmps, ac, rs)
    | none => none
  | none => none

mutual
def refs : AV → List Nat
  | .loc id _ _ | .lsl id _ _ | .mp id => [id]
  | .agg cs | .tup cs => refsL cs
  | .clo _ f c => refsL f ++ refsL c
  | .sl _ _ els | .adr _ els _ _ => refsR els
  | _ => []
def refsL : List AV → List Nat
  | [] => []
  | a :: l => refs a ++ refsL l
def refsR : List (List AV) → List Nat
  | [] => []
  | r :: l => refsL r ++ refsR l
end
def refsB : Blk → List Nat
  | .cells _ _ _ els => refsR els
  | _ => []
/-- blocks that a result leads to -/
def reach (H : List Blk) : Nat → List Nat → List Nat → List Nat
  | 0, _, acc => acc
  | n + 1, ids, acc =>
    let new := (ids.filter fun i => !acc.contains i).eraseDups
    if new.isEmpty then acc else reach H n (new.flatMap fun i => refsB (hget H i)) (acc ++ new)

abbrev Caller := FuncId → List AV → List Blk → Option (AV × List Blk)

def rstep (call : Caller) (base : Nat) (o : AOper) (σ : St) : Option St :=
  match nres base o σ with
  | some x => some (after σ o.dst x)
  | none => if wanted o σ then match o.op with
    | .call raw f args => match target (ev σ.get f) with
      | some (g, _, _) =>
        if raw then (call g (argsOf σ f args) σ.heap).map fun x => St.put ⟨σ.slots, x.2⟩ o.dst x.1
        else if plainL (rfyL (hget σ.heap) (argsOf σ f args)) then (call g (rfyL (hget σ.heap) (argsOf σ f args)) []).map fun x => landed σ (lidsL (hget σ.heap) (argsOf σ f args)) o.dst x.1 x.2
        else none
      | none => none
    | _ => none
    else none
def rops (call : Caller) (base : Nat) : List AOper → St → Option St
  | [], σ => some σ
  | o :: r, σ => match rstep call base o σ with
    | some σ' => rops call base r σ'
    | none => none
def notRaw : AOp → Bool
  | .call raw _ _ => !raw
  | _ => true
def rdops (call : Caller) (base : Nat) (bef : List (List Nat)) : List (Nat × AOper) → List (Nat × Foot) → St → Option St
  | [], _, σ => some σ
  | (n, o) :: r, past, σ =>
    if notRaw o.op && past.all (fun p => (bef.getD n []).contains p.1 || (bef.getD p.1 []).contains n || compatB p.2 (foot base o σ)) then
      match rstep call base o σ with
      | some σ' => rdops call base bef r ((n, foot base o σ) :: past) σ'
      | none => none
    else none
def inOrder (σ : St) (n : Nat) : St := ⟨(List.range n).map fun t => (t, σ.get t), σ.heap⟩
def topSlot : List (Nat × AV) → Nat → Nat
  | [], n => n
  | (i, _) :: r, n => topSlot r (if n ≤ i then i + 1 else n)
def rfin (rs : List ARes) (b : Nat) : Exit × St → Option (AV × List Blk)
  | (e, σ) => match e with
    | .normal | .ret => (resL σ rs).bind fun vs =>
      let ids := reach σ.heap 50 ((refsL vs ++ (σ.heap.take b).flatMap refsB).filter fun i => decide (b ≤ i)) []
      if decide (b ≤ σ.heap.length) && ids.all (fun i => decide (b ≤ i) && decide (i < σ.heap.length)) && decide ids.Nodup then some (ren (keepρ b ids) (tupOf vs), (σ.keep b [] ids).heap) else none
    | _ => none
/-- calls whose worth is known otherwise -/
abbrev Prim := FuncId → List AV → Option AV
def noPrim : Prim := fun _ _ => none
def pick (prim : Prim) (g : FuncId) (args : List AV) : List Blk → Option (AV × List Blk)
  | [] => (prim g args).map fun v => (v, [])
  | _ => none
def PrimOk (P : Program) (prim : Prim) : Prop := ∀ g args v, prim g args = some v → ACall P g args [] fun r H => r = v ∧ H = []
theorem noPrim_ok (P : Program) : PrimOk P noPrim := fun _ _ _ h => by simp [noPrim] at h
/-- what an iterator hands to yield, whole numbers, by the blocks as they are -/

abbrev Iters := FuncId → List AV → List AV → List Blk → Option (List Int × List Int)
def noIters : Iters := fun _ _ _ _ => none
def isLpx (H : List Blk) (hl : Nat) : Bool := match H[hl]? with
  | some (.obj .lpx) => true
  | _ => false
theorem isLpx_iff {H : List Blk} {hl : Nat} : isLpx H hl = true ↔ H[hl]? = some (.obj .lpx) := by
  unfold isLpx
  split
  · rename_i h; simp [h]
  · rename_i h; simp; exact h
def rrounds (run : ACode → St → Option (Exit × St)) (chk : List Blk → Bool) (hl : Nat) (p : Nat) (asg body : ACode) (slots : List (Nat × AV)) : List Int → List Blk → Option (Exit × List Blk)
  | [], H => if chk H then some (.normal, H) else none
  | x :: r, H => if chk H && isLpx H hl then match asgRun asg ((p, .lit (.int .i64 x)) :: slots) with
      | some s1 => match run body ⟨s1, H⟩ with
        | some (.normal, τ) => if isLpx τ.heap hl then rrounds run chk hl p asg body slots r τ.heap else none
        | some (.ret, τ) => if isLpx τ.heap hl then some (.ret, τ.heap) else none
        | some (.exit i, τ) => if isLpx τ.heap hl then some (.exit i, τ.heap) else none
        | _ => none
      | none => none
    else none
def ItOk (P : Program) (it : Iters) : Prop := ∀ gf first cap H0 xs, it gf first cap H0 = some xs →
  IterOk P gf first cap xs.1.length (fun k _ args => ∃ x, xs.1[k]? = some x ∧ args = [.lit (.int .i64 x)]) (fun H => it gf first cap H = some xs) ∧
  ∀ H hl r s, H[hl]? = some (.obj (.lp r s)) → it gf first cap (H.set hl (.obj .lpx)) = some xs → it gf first cap H = some xs
theorem noIters_ok (P : Program) : ItOk P noIters := fun _ _ _ _ _ h => by simp [noIters] at h
def rcode (P : Program) (muts : List FuncId) (prim : Prim) (it : Iters) (top : Bool) : Nat → ACode → St → Option (Exit × St)
  | 0, _, _ => none
  | f + 1, c, σ =>
    let call : Caller := fun g args H => match pick prim g args H with
      | some r => some r
      | none => match envOf P muts g with
        | some (_, ac, rs) => match rcode P muts prim it true f ac ⟨(args.zipIdx 0).map fun (x : AV × Nat) => (x.2, x.1), H⟩ with
          | some r => rfin rs H.length r
          | none => none
        | none => none
    match c with
    | .skip => some (.normal, σ)
    | .ret => some (.ret, σ)
    | .exit i => some (.exit i, σ)
    | .reg n ops => match rops call σ.heap.length ops ⟨σ.slots, σ.heap ++ List.replicate n .resv⟩ with
      | some σ' => some (.normal, σ')
      | none => none
    | .dreg n ops bef => match rdops call σ.heap.length bef ops [] ⟨σ.slots, σ.heap ++ List.replicate n .resv⟩ with
      | some σ' => some (.normal, σ')
      | none => none
    | .seq p q => match rcode P muts prim it top f p σ with
      | some (.normal, σ') => rcode P muts prim it top f q σ'
      | r => r
    | .cond o p q => match ev σ.get o with
      | .lit (.bool true) => rcode P muts prim it top f p σ
      | .lit (.bool false) => rcode P muts prim it top f q σ
      | _ => none
    | .block id p => match rcode P muts prim it top f p σ with
      | some (.exit i, σ') => if i = id then some (.normal, σ') else some (.exit i, σ')
      | r => r
    | .range fo ps asg body => if top then match target (ev σ.get fo), ps with
        | some (gf, first, cap), [p] => match it gf first cap σ.heap with
          | some xs => match rrounds (rcode P muts prim it false f) (fun H => decide (it gf first cap H = some xs)) σ.heap.length p asg body σ.slots xs.1 (σ.heap ++ [.obj .lpx]) with
            | some (e, H) => some (e, ⟨σ.slots, H⟩)
            | none => none
          | none => none
        | _, _ => none
      else none
    | .loop p => match rcode P muts prim it top f p σ with
      | some (.normal, σ') => rcode P muts prim it top f (.loop p) (inOrder σ' (topSlot σ'.slots 0))
      | r => r

theorem look_top (t : Nat) : ∀ (l : List (Nat × AV)) (n : Nat), topSlot l n ≤ t → n ≤ t ∧ look l t = .top
  | [], n, h => ⟨h, rfl⟩
  | (i, v) :: r, n, h => by
    simp only [topSlot] at h
    obtain ⟨h1, h2⟩ := look_top t r _ h
    split at h1
    · exact ⟨by omega, by simp only [look]; rw [if_neg (by omega)]; exact h2⟩
    · exact ⟨h1, by simp only [look]; rw [if_neg (by omega)]; exact h2⟩
theorem inOrder_eqv (σ : St) : Eqv (inOrder σ (topSlot σ.slots 0)) σ := by
  refine ⟨rfl, fun t => ?_⟩
  show look ((List.range _).map fun t => (t, σ.get t)) t = _
  rw [look_map (fun t => σ.get t)]
  split
  · rfl
  · rename_i h
    rw [List.mem_range] at h
    exact (look_top t σ.slots 0 (by omega)).2.symm

section
variable {P : Program} {muts : List FuncId}
def CallOk (P : Program) (call : Caller) : Prop := ∀ g args H r H', call g args H = some (r, H') → ACall P g args H fun r' H'' => r' = r ∧ H'' = H'

theorem rstep_ok {call : Caller} (hc : CallOk P call) {base : Nat} {o : AOper} {σ σ' : St} {K : St → Prop} (h : rstep call base o σ = some σ') (hK : K σ') :
    wstep P base o σ K ∧ (notRaw o.op = true → wstepD P base o σ K) := by
  unfold rstep at h
  split at h
  · rename_i x hx
    obtain rfl := Option.some.inj h
    exact ⟨wstep_of (.inl ⟨x, hx, hK⟩), fun _ => .inl ⟨x, hx, hK⟩⟩
  · split at h
    · rename_i hw
      split at h
      · rename_i raw f args hop
        split at h
        · rename_i g first cap ht
          have ha : first ++ args.map (ev σ.get) ++ cap = argsOf σ f args := by unfold argsOf; rw [ht]
          split at h
          · rename_i hraw
            refine ⟨?_, fun hn => by rw [hop] at hn; simp [notRaw, hraw] at hn⟩
            rw [Option.map_eq_some_iff] at h
            obtain ⟨⟨r, H'⟩, h1, rfl⟩ := h
            have hr : wrun P base o σ K := by
              unfold wrun
              rw [hop]
              dsimp only
              unfold wcall
              rw [ht]
              dsimp only
              rw [if_pos hraw, ha]
              exact (hc _ _ _ _ _ h1).mono fun r' H'' ⟨e1, e2⟩ => by rw [e1, e2]; exact hK
            unfold wstep
            unfold wanted at hw
            cases hg : o.guard with
            | none => exact hr
            | some p =>
              obtain ⟨g', want⟩ := p
              rw [hg] at hw
              dsimp only at hw ⊢
              split at hw
              · rename_i b hb
                rw [hb]
                dsimp only
                rw [if_pos (by simpa using hw)]; exact hr
              · simp at hw
          · rename_i hraw
            split at h
            · rename_i hp
              rw [Option.map_eq_some_iff] at h
              obtain ⟨⟨r, new⟩, h1, rfl⟩ := h
              have hD : wstepD P base o σ K := .inr ⟨hw, f, args, by rw [hop]; simp at hraw; rw [hraw], g, first, cap, ht, hp, _, hc _ _ _ _ _ h1, ⟨r, new, rfl, rfl⟩, fun r' new' ⟨e1, e2⟩ => by rw [e1, e2]; exact hK⟩
              exact ⟨wstep_of hD, fun _ => hD⟩
            · simp at h
        · simp at h
      · simp at h
    · simp at h

theorem rops_ok {call : Caller} (hc : CallOk P call) {base : Nat} {K : St → Prop} : ∀ (l : List AOper) (σ σ' : St), rops call base l σ = some σ' → K σ' → wops P base l σ K
  | [], σ, σ', h, hK => by obtain rfl := Option.some.inj h; exact hK
  | o :: r, σ, σ', h, hK => by
    simp only [rops] at h
    split at h
    · rename_i τ hτ
      exact (rstep_ok hc hτ (rops_ok hc r τ σ' h hK)).1
    · simp at h
theorem rdops_ok {call : Caller} (hc : CallOk P call) {base : Nat} {bef : List (List Nat)} {K : St → Prop} : ∀ (l : List (Nat × AOper)) (past : List (Nat × Foot)) (σ σ' : St), rdops call base bef l past σ = some σ' → K σ' → wdops P base bef l past σ K
  | [], _, σ, σ', h, hK => by obtain rfl := Option.some.inj h; exact hK
  | (n, o) :: r, past, σ, σ', h, hK => by
    simp only [rdops] at h
    split at h
    · rename_i hcd
      split at h
      · rename_i τ hτ
        simp only [Bool.and_eq_true, List.all_eq_true, Bool.or_eq_true, List.contains_iff_mem] at hcd
        refine ⟨fun p hp h1 h2 => ?_, (rstep_ok hc hτ (rdops_ok hc r _ τ σ' h hK)).2 hcd.1⟩
        rcases hcd.2 p hp with (h3 | h3) | h3
        · exact (h1 h3).elim
        · exact (h2 h3).elim
        · exact compatB_ok h3
      · simp at h
    · simp at h

theorem envOf_ok {g : FuncId} {n : Nat} {ac : ACode} {rs : List ARes} (h : envOf P muts g = some (n, ac, rs)) {args : List AV} {H : List Blk} {Q : AV → List Blk → Prop}
    (hT : T none P muts n H.length ac ⟨(args.zipIdx 0).map fun (x : AV × Nat) => (x.2, x.1), H⟩ (leave H.length rs Q)) : ACall P g args H Q := by
  unfold envOf at h
  split at h
  · rename_i fn hf
    split at h
    · rename_i c hb
      split at h
      · simp at h
      · rename_i hnm
        simp only [Option.bind_eq_some_iff, Option.map_eq_some_iff, Prod.mk.injEq] at h
        obtain ⟨ac', hc, rs', hr, rfl, rfl, rfl⟩ := h
        exact acall_of (fun cargs w => callFunc_ok hf (by simp [hb]) (by simpa using hnm) cargs w) hf hb hr rfl hc hT
    · simp at h
  · simp at h

theorem envOf_all {g : FuncId} {n : Nat} {ac : ACode} {rs : List ARes} (h : envOf P muts g = some (n, ac, rs)) {args : List AV} {H : List Blk} {Q : AV → List Blk → Prop}
    (hT : T none P muts n H.length ac ⟨(args.zipIdx 0).map fun (x : AV × Nat) => (x.2, x.1), H⟩ (leaveA rs Q)) : ACall P g args H Q := by
  unfold envOf at h
  split at h
  · rename_i fn hf
    split at h
    · rename_i c hb
      split at h
      · simp at h
      · rename_i hnm
        simp only [Option.bind_eq_some_iff, Option.map_eq_some_iff, Prod.mk.injEq] at h
        obtain ⟨ac', hc, rs', hr, rfl, rfl, rfl⟩ := h
        exact acall_all (fun cargs w => callFunc_ok hf (by simp [hb]) (by simpa using hnm) cargs w) hf hb hr rfl hc hT
    · simp at h
  · simp at h

theorem rfin_ok {rs : List ARes} {b : Nat} {e : Exit} {σ : St} {r : AV} {H' : List Blk} (h : rfin rs b (e, σ) = some (r, H')) : leave b rs (fun r' H'' => r' = r ∧ H'' = H') e σ := by
  unfold rfin at h
  have hh : (resL σ rs).bind (fun vs =>
      let ids := reach σ.heap 50 ((refsL vs ++ (σ.heap.take b).flatMap refsB).filter fun i => decide (b ≤ i)) []
      if decide (b ≤ σ.heap.length) && ids.all (fun i => decide (b ≤ i) && decide (i < σ.heap.length)) && decide ids.Nodup then some (ren (keepρ b ids) (tupOf vs), (σ.keep b [] ids).heap) else none) = some (r, H') →
      ∃ vs ids, resL σ rs = some vs ∧ b ≤ σ.heap.length ∧ (∀ id ∈ ids, b ≤ id ∧ id < σ.heap.length) ∧ ids.Nodup ∧ (ren (keepρ b ids) (tupOf vs) = r ∧ (σ.keep b [] ids).heap = H') := by
    intro h
    rw [Option.bind_eq_some_iff] at h
    obtain ⟨vs, hvs, h⟩ := h
    dsimp only at h
    split at h
    · rename_i hcd
      simp only [Bool.and_eq_true, List.all_eq_true, decide_eq_true_eq] at hcd
      simp only [Option.some.injEq, Prod.mk.injEq] at h
      exact ⟨vs, _, hvs, hcd.1.1, hcd.1.2, hcd.2, h⟩
    · simp at h
  cases e with
  | normal => exact hh h
  | ret => exact hh h
  | _ => simp at h

theorem rcode_ok {prim : Prim} (hprim : PrimOk P prim) {it : Iters} (hit : ItOk P it) (f : Nat) : ∀ (top : Bool) (c : ACode) (σ : St) (e : Exit) (σ' : St), rcode P muts prim it top f c σ = some (e, σ') → ∀ (md : Option Nat) (N b : Nat) (K : Exit → St → Prop), (top = true → md = none) → K e σ' → T md P muts N b c σ K := by
  induction f using Nat.strongRecOn with
  | _ f IH =>
  cases f with
  | zero => intro top c σ e σ' h; simp [rcode] at h
  | succ f =>
    intro top c σ e σ' h md N b K htop hK
    have ih' := IH f (Nat.lt_succ_self f)
    have ih := fun c σ e σ' (h : rcode P muts prim it top f c σ = some (e, σ')) => fun md N b K hK (hm : top = true → md = none) => ih' top c σ e σ' h md N b K hm hK
    have hcall : CallOk P (fun g args H => match pick prim g args H with
      | some r => some r
      | none => match envOf P muts g with
        | some (_, ac, rs) => match rcode P muts prim it true f ac ⟨(args.zipIdx 0).map fun (x : AV × Nat) => (x.2, x.1), H⟩ with
          | some r => rfin rs H.length r
          | none => none
        | none => none) := by
      intro g args H r H' hr
      dsimp only at hr
      split at hr
      · rename_i x hx
        obtain rfl := Option.some.inj hr
        cases H with
        | nil =>
          simp only [pick, Option.map_eq_some_iff, Prod.mk.injEq] at hx
          obtain ⟨v, hv, rfl, rfl⟩ := hx
          exact hprim _ _ _ hv
        | cons B H => simp [pick] at hx
      split at hr
      · rename_i n ac rs henv
        split at hr
        · rename_i x hx
          obtain ⟨e', τ⟩ := x
          exact envOf_ok henv (ih' true _ _ _ _ hx none _ _ _ (fun _ => rfl) (rfin_ok hr))
        · simp at hr
      · simp at hr
    cases c with
    | skip => simp only [rcode, Option.some.injEq, Prod.mk.injEq] at h; obtain ⟨rfl, rfl⟩ := h; exact T_skip hK
    | ret => simp only [rcode, Option.some.injEq, Prod.mk.injEq] at h; obtain ⟨rfl, rfl⟩ := h; exact T_ret hK
    | exit i => simp only [rcode, Option.some.injEq, Prod.mk.injEq] at h; obtain ⟨rfl, rfl⟩ := h; exact T_exit hK
    | reg n ops =>
      simp only [rcode] at h
      split at h
      · rename_i τ hτ
        simp only [Option.some.injEq, Prod.mk.injEq] at h; obtain ⟨rfl, rfl⟩ := h
        exact T_reg (rops_ok hcall _ _ _ hτ hK)
      · simp at h
    | dreg n ops bef =>
      simp only [rcode] at h
      split at h
      · rename_i τ hτ
        simp only [Option.some.injEq, Prod.mk.injEq] at h; obtain ⟨rfl, rfl⟩ := h
        exact T_dreg (rdops_ok hcall _ _ _ _ hτ hK)
      · simp at h
    | seq p q =>
      simp only [rcode] at h
      refine T_seq ?_
      split at h
      · rename_i τ hτ
        exact ih _ _ _ _ hτ _ _ _ _ (show thenK _ K .normal τ from ih _ _ _ _ h _ _ _ _ hK htop) htop
      · rename_i hne
        refine ih _ _ _ _ h _ _ _ _ ?_ htop
        cases e with
        | normal => exact (hne _ h).elim
        | _ => exact hK
    | cond o p q =>
      simp only [rcode] at h
      split at h
      · rename_i hv
        exact T_cond hv (fun _ => ih _ _ _ _ h _ _ _ _ hK htop) (fun h => by simp at h)
      · rename_i hv
        exact T_cond hv (fun h => by simp at h) (fun _ => ih _ _ _ _ h _ _ _ _ hK htop)
      · simp at h
    | block id p =>
      simp only [rcode] at h
      refine T_block ?_
      split at h
      · rename_i i τ hτ
        refine ih _ _ _ _ hτ _ _ _ _ ?_ htop
        simp only [blockK]
        split at h
        · rename_i hi
          simp only [Option.some.injEq, Prod.mk.injEq] at h; obtain ⟨rfl, rfl⟩ := h
          rw [if_pos hi]; exact hK
        · rename_i hi
          simp only [Option.some.injEq, Prod.mk.injEq] at h; obtain ⟨rfl, rfl⟩ := h
          rw [if_neg hi]; exact hK
      · rename_i hne
        refine ih _ _ _ _ h _ _ _ _ ?_ htop
        cases e with
        | exit i => exact (hne _ _ h).elim
        | _ => exact hK
    | range fo ps asg body =>
      simp only [rcode] at h
      split at h
      · rename_i htp
        obtain rfl := htop htp
        split at h
        · rename_i gf first cap p htar
          split at h
          · rename_i xs hxs
            split at h
            · rename_i e0 H0 hrr
              simp only [Option.some.injEq, Prod.mk.injEq] at h
              obtain ⟨rfl, rfl⟩ := h
              obtain ⟨hio, hins⟩ := hit _ _ _ _ _ hxs
              refine T_range (n := xs.1.length) (fun k H => it gf first cap H = some xs ∧ rrounds (rcode P muts prim it false f) (fun H => decide (it gf first cap H = some xs)) σ.heap.length p asg body σ.slots (xs.1.drop k) H = some (e0, H0)) (fun e H => e = e0 ∧ H = H0) htar hio (fun k H h => h.1) (fun H r s h1 h2 => hins H _ r s h2 h1) (fun k H r s args h1 _ => h1) ?_ ?_ ?_ ?_
              · have hc0 : it gf first cap (σ.heap ++ [.obj .lpx]) = some xs := by
                  obtain ⟨xs, key⟩ := xs
                  cases xs with
                  | nil => simp only [rrounds] at hrr; split at hrr; rename_i hc; simpa using hc; simp at hrr
                  | cons x r => simp only [rrounds] at hrr; split at hrr; rename_i hc; simp only [Bool.and_eq_true, decide_eq_true_eq] at hc; exact hc.1; simp at hrr
                exact ⟨hc0, by simpa using hrr⟩
              · rintro k H args hk ⟨h1, h2⟩ hl ⟨x, hx, rfl⟩
                refine ⟨rfl, ?_⟩
                have hd : xs.1.drop k = x :: xs.1.drop (k + 1) := by
                  rw [List.drop_eq_getElem_cons hk]
                  rw [List.getElem?_eq_getElem hk] at hx
                  rw [Option.some.inj hx]
                rw [hd] at h2
                simp only [rrounds] at h2
                split at h2
                · split at h2
                  · rename_i s1 hs1
                    refine ⟨s1, by simpa using hs1, fun l => ?_⟩
                    split at h2
                    · rename_i τ hτ
                      split at h2
                      · rename_i hlx
                        refine ih' false _ _ _ _ hτ _ _ _ _ (by simp) ⟨isLpx_iff.1 hlx, ?_, h2⟩
                        cases hxd : xs.1.drop (k + 1) with
                        | nil => rw [hxd] at h2; simp only [rrounds] at h2; split at h2; rename_i hc; simpa using hc; simp at h2
                        | cons y r => rw [hxd] at h2; simp only [rrounds] at h2; split at h2; rename_i hc; simp only [Bool.and_eq_true, decide_eq_true_eq] at hc; exact hc.1; simp at h2
                      · simp at h2
                    · rename_i τ hτ
                      split at h2
                      · rename_i hlx
                        simp only [Option.some.injEq, Prod.mk.injEq] at h2
                        exact ih' false _ _ _ _ hτ _ _ _ _ (by simp) ⟨isLpx_iff.1 hlx, h2⟩
                      · simp at h2
                    · rename_i i τ hτ
                      split at h2
                      · rename_i hlx
                        simp only [Option.some.injEq, Prod.mk.injEq] at h2
                        exact ih' false _ _ _ _ hτ _ _ _ _ (by simp) ⟨isLpx_iff.1 hlx, h2⟩
                      · simp at h2
                    · simp at h2
                  · simp at h2
                · simp at h2
              · rintro H ⟨h1, h2⟩
                rw [List.drop_of_length_le (Nat.le_refl _)] at h2
                simp only [rrounds] at h2
                split at h2
                · simp only [Option.some.injEq, Prod.mk.injEq] at h2
                  obtain ⟨rfl, rfl⟩ := h2
                  exact hK
                · simp at h2
              · rintro e H ⟨rfl, rfl⟩
                exact hK
            · simp at h
          · simp at h
        · simp at h
      · simp at h
    | loop p =>
      refine T_loop (fun k s => k ≤ f + 1 ∧ ∃ e' s', rcode P muts prim it top k (.loop p) s = some (e', s') ∧ K e' s') (f + 1) ⟨Nat.le_refl _, e, σ', h, hK⟩ ?_
      rintro k s ⟨hk, e', s', h', hK'⟩
      cases k with
      | zero => simp [rcode] at h'
      | succ m =>
        have ihm := fun c σ e σ' (h : rcode P muts prim it top m c σ = some (e, σ')) => fun md N b K hK (hm : top = true → md = none) => IH m (by omega) top c σ e σ' h md N b K hm hK
        simp only [rcode] at h'
        split at h'
        · rename_i τ hτ
          refine ihm _ _ _ _ hτ _ _ _ _ ?_ htop
          show ∃ n', n' < m + 1 ∧ ∃ s'', Weak N b τ s'' ∧ _
          exact ⟨m, Nat.lt_succ_self m, inOrder τ (topSlot τ.slots 0), fun C0 C a _ hR => ⟨C, rfl, eqv_rel (inOrder_eqv τ) hR⟩, by omega, e', s', h', hK'⟩
        · rename_i hne
          refine ihm _ _ _ _ h' _ _ _ _ ?_ htop
          cases e' with
          | normal => exact (hne _ h').elim
          | _ => exact hK'

/-- a call, run -/
def rcall (P : Program) (muts : List FuncId) (prim : Prim) (it : Iters) (f : Nat) (g : FuncId) (args : List AV) (H : List Blk) : Option (AV × List Blk) :=
  match envOf P muts g with
  | some (_, ac, rs) => match rcode P muts prim it true f ac ⟨(args.zipIdx 0).map fun (x : AV × Nat) => (x.2, x.1), H⟩ with
    | some r => rfin rs H.length r
    | none => none
  | none => none
theorem rcall_ok {prim : Prim} (hprim : PrimOk P prim) {it : Iters} (hit : ItOk P it) {f : Nat} {g : FuncId} {args : List AV} {H H' : List Blk} {r : AV} (h : rcall P muts prim it f g args H = some (r, H')) : ACall P g args H fun r' H'' => r' = r ∧ H'' = H' := by
  unfold rcall at h
  split at h
  · rename_i n ac rs henv
    split at h
    · rename_i x hx
      obtain ⟨e', τ⟩ := x
      exact envOf_ok henv (rcode_ok hprim hit f true _ _ _ _ hx none _ _ _ (fun _ => rfl) (rfin_ok h))
    · simp at h
  · simp at h
end
end Go.Abs
