/- Operations that may change places. -/
import Derived.Test.YtodheeifecoebaaAbs13
set_option linter.all false
set_option linter.unusedVariables false
set_option linter.unusedSimpArgs false
set_option linter.unusedSectionVars false
namespace Go.Abs
open Go.RowKit

def opdT : Opd → List Nat
  | .tmp t => [t]
  | .val _ => []
def optT : Option Opd → List Nat
  | some x => opdT x
  | none => []
def opds : AOp → List Opd
  | .mv x | .neg x | .not x | .cvInt _ x | .cvStr x | .ext x _ | .fld _ _ _ x | .box _ x | .load _ _ x | .faddr _ x | .len x | .lenS x | .nilck x | .eqNil _ x => [x]
  | .mlook _ _ _ x k => [x, k]
  | .mset _ x k v => [x, k, v]
  | .pick c a b => [c, a, b]
  | .bin _ x y | .eqAgg _ _ x y | .eqBool _ x y | .store _ x y | .iaddrS _ x y | .iaddrA _ _ x y | .idxA _ _ _ x y | .idxS x y | .app _ _ x y | .mks _ _ _ x y | .copy x y => [x, y]
  | .build _ ps => ps.map (·.2.2)
  | .bslice _ _ _ ps => ps.map (·.2)
  | .alloc _ | .bad | .mkmap _ => []
  | .slc _ x lo hi => x :: (lo.toList ++ hi.toList)
  | .slc0 x h m => [x, h, m]
  | .slcS x lo hi => x :: (lo.toList ++ hi.toList)
  | .mkf _ f c => f ++ c
  | .minmax _ xs => xs
  | .call _ f args => f :: args

def topId : AV → List Nat
  | .loc id _ _ => [id]
  | .lsl id _ _ => [id]
  | .mp id => [id]
  | _ => []
def tops (s : Nat → AV) (op : AOp) : List Nat := (opds op).flatMap fun x => topId (ev s x)

inductive Kind where
  | S | R | A | W | P | C
  deriving DecidableEq
def kind : AOp → Kind
  | .eqNil .. | .faddr .. | .iaddrS .. | .iaddrA .. | .slc .. | .slc0 .. | .len .. | .nilck .. | .load .. | .mlook .. => .R
  | .alloc .. | .box .. | .bslice .. | .mks .. | .mkmap .. => .A
  | .store .. | .copy .. | .mset .. => .W
  | .app .. => .P
  | .call .. => .C
  | _ => .S

theorem aop_s {fr : Nat} {s s' : Nat → AV} {h : Nat → Blk} {op : AOp} (he : ∀ x ∈ opds op, ev s x = ev s' x) : aop fr s h op = aop fr s' h op := by
  have hm : ∀ {l : List Opd}, (∀ x ∈ l, ev s x = ev s' x) → l.map (ev s) = l.map (ev s') := fun h => List.map_congr_left h
  have ho : ∀ {o : Option Opd}, (∀ x ∈ o.toList, ev s x = ev s' x) → o.map (ev s) = o.map (ev s') := fun {o} h => by cases o <;> simp_all
  cases op with
  | build z ps =>
    simp only [aop]
    have : ps.map (fun (o, n, x) => (o, n, ev s x)) = ps.map (fun (o, n, x) => (o, n, ev s' x)) := List.map_congr_left fun p hp => by
      obtain ⟨o, n, x⟩ := p
      show (o, n, ev s x) = (o, n, ev s' x)
      rw [he x (by simp only [opds, List.mem_map]; exact ⟨_, hp, rfl⟩)]
    rw [this]
  | bslice sz len z ps =>
    simp only [aop]
    have : ps.map (fun (i, x) => (i * sz, sz, ev s x)) = ps.map (fun (i, x) => (i * sz, sz, ev s' x)) := List.map_congr_left fun p hp => by
      obtain ⟨i, x⟩ := p
      show (i * sz, sz, ev s x) = (i * sz, sz, ev s' x)
      rw [he x (by simp only [opds, List.mem_map]; exact ⟨_, hp, rfl⟩)]
    rw [this]
  | slc sz x lo hi =>
    simp only [opds, List.mem_cons, List.mem_append] at he
    simp only [aop, he x (.inl rfl), ho (o := lo) (fun y hy => he y (.inr (.inl hy))), ho (o := hi) (fun y hy => he y (.inr (.inr hy)))]
  | slcS x lo hi =>
    simp only [opds, List.mem_cons, List.mem_append] at he
    simp only [aop, he x (.inl rfl), ho (o := lo) (fun y hy => he y (.inr (.inl hy))), ho (o := hi) (fun y hy => he y (.inr (.inr hy)))]
  | mkf fn f c =>
    simp only [opds, List.mem_append] at he
    simp only [aop, hm (l := f) (fun y hy => he y (.inl hy)), hm (l := c) (fun y hy => he y (.inr hy))]
  | minmax m xs =>
    have := hm (l := xs) he
    simp only [aop]
    rw [this]
  | _ => simp only [opds, List.mem_cons, List.not_mem_nil, or_false, forall_eq_or_imp, forall_eq] at he; simp only [aop, he]

/-- two blocks that read alike -/
def Alike (x y : Blk) : Prop := x = y ∨ ∃ o o' n z e, x = .cells o n z e ∧ y = .cells o' n z e

theorem lenOf_h {h h' : Nat → Blk} {v : AV} (hh : ∀ id ∈ topId v, Alike (h id) (h' id)) : lenOf h v = lenOf h' v := by
  cases v <;> simp only [lenOf]
  rename_i id i len
  rcases hh id (by simp [topId]) with h1 | ⟨o, o', n, z, e, h1, h2⟩
  · rw [h1]
  · rw [h1, h2]
theorem elsOf_h {h h' : Nat → Blk} {v : AV} (hh : ∀ id ∈ topId v, h id = h' id) : elsOf h v = elsOf h' v := by
  cases v <;> simp only [elsOf]
  rename_i id i len
  rw [hh id (by simp [topId])]

theorem aop_h {fr : Nat} {s : Nat → AV} {h h' : Nat → Blk} {op : AOp} (hk : kind op = .S ∨ kind op = .A ∨ (kind op = .R ∧ ∀ id ∈ tops s op, Alike (h id) (h' id)) ∨ ((kind op = .W ∨ kind op = .P) ∧ ∀ id ∈ tops s op, h id = h' id)) :
    aop fr s h op = aop fr s h' op := by
  have get : ∀ {x : Opd} {id : Nat}, x ∈ opds op → id ∈ topId (ev s x) → id ∈ tops s op := fun hx hid => List.mem_flatMap.2 ⟨_, hx, hid⟩
  have rd : (∀ id ∈ tops s op, Alike (h id) (h' id)) → ∀ {x : Opd} {id i len : Nat}, x ∈ opds op → (ev s x = .loc id i len ∨ ev s x = .lsl id i len) → Alike (h id) (h' id) := fun hk x id i len hx hv => hk id (get hx (by rcases hv with hv | hv <;> simp [hv, topId]))
  have rw' : (∀ id ∈ tops s op, h id = h' id) → ∀ {x : Opd} {id i len : Nat}, x ∈ opds op → (ev s x = .loc id i len ∨ ev s x = .lsl id i len) → h id = h' id := fun hk x id i len hx hv => hk id (get hx (by rcases hv with hv | hv <;> simp [hv, topId]))
  cases op <;> simp only [kind] at hk <;> (try (simp only [aop]; done))
  all_goals simp only [reduceCtorEq, false_or, or_false, true_and, false_and, or_self, or_true] at hk
  case mlook kd ok z x y =>
    simp only [aop]
    cases hy : ev s y <;> (try rfl)
    cases hv : ev s x <;> (try rfl)
    rename_i id
    dsimp only
    rcases hk id (get (x := x) (by simp [opds]) (by simp [hv, topId])) with h1 | ⟨o, o', n, z, e, h1, h2⟩
    · rw [h1]
    · rw [h1, h2]
  case mset kd x y z =>
    simp only [aop]
    cases hy : ev s y <;> (try rfl)
    cases hz : ev s z <;> (try rfl)
    cases hv : ev s x <;> (try rfl)
    rename_i id
    dsimp only
    rw [hk id (get (x := x) (by simp [opds]) (by simp [hv, topId]))]
  case len x =>
    simp only [aop]
    rw [lenOf_h (h := h) (h' := h') fun id hid => hk id (get (x := x) (by simp [opds]) hid)]
  case app sz by_ x y =>
    simp only [aop]
    rw [elsOf_h (h := h) (h' := h') fun id hid => hk id (get (x := y) (by simp [opds]) hid)]
    split
    · split
      · cases hv : ev s x <;> (try rfl)
        · rename_i nl _ _; cases nl <;> rfl
        rename_i id i len
        dsimp only
        rw [rw' hk (x := x) (by simp [opds]) (.inr hv)]
      · rfl
    · rfl
  case store n x y =>
    simp only [aop]
    cases hv : ev s x <;> (try rfl)
    rename_i id i len
    dsimp only
    rw [rw' hk (x := x) (by simp [opds]) (.inl hv)]
  case copy x y =>
    simp only [aop]
    rw [elsOf_h (h := h) (h' := h') fun id hid => hk id (get (x := y) (by simp [opds]) hid)]
    cases hv : ev s x <;> (try rfl)
    rename_i id i len
    dsimp only
    rw [rw' hk (x := x) (by simp [opds]) (.inr hv)]
  case iaddrS sz x y =>
    simp only [aop]
    cases hy : ev s y <;> (try rfl)
    rename_i vy
    cases vy <;> (try rfl)
    cases hv : ev s x <;> (try rfl)
    rename_i id i len
    dsimp only
    rcases rd hk (x := x) (by simp [opds]) (.inr hv) with h1 | ⟨o, o', n, z, e, h1, h2⟩
    · rw [h1]
    · rw [h1, h2]
  case iaddrA ln sz x y =>
    simp only [aop]
    cases hy : ev s y <;> (try rfl)
    rename_i vy
    cases vy <;> (try rfl)
    dsimp only
    split
    · cases hv : ev s x <;> (try rfl)
      rename_i id i len
      dsimp only
      rcases rd hk (x := x) (by simp [opds]) (.inl hv) with h1 | ⟨o, o', n, z, e, h1, h2⟩
      · rw [h1]
      · rw [h1, h2]
    · rfl
  case slc0 x a b =>
    simp only [aop]
    split
    · cases hv : ev s x <;> (try rfl)
      rename_i id i len
      dsimp only
      rcases rd hk (x := x) (by simp [opds]) (.inr hv) with h1 | ⟨o, o', n, z, e, h1, h2⟩
      · rw [h1]
      · rw [h1, h2]
    · rfl
  case load n g x =>
    simp only [aop]
    cases hv : ev s x <;> (try rfl)
    rename_i id i len
    dsimp only
    rcases rd hk (x := x) (by simp [opds]) (.inl hv) with h1 | ⟨o, o', n, z, e, h1, h2⟩
    · rw [h1]
    · rw [h1, h2]
  case faddr n x =>
    simp only [aop]
    cases hv : ev s x <;> (try rfl)
    rename_i id i len
    dsimp only
    rcases rd hk (x := x) (by simp [opds]) (.inl hv) with h1 | ⟨o, o', n, z, e, h1, h2⟩
    · rw [h1]
    · rw [h1, h2]
  case eqNil n x =>
    simp only [aop]
    cases hv : ev s x <;> (try rfl)
    rename_i id i len
    dsimp only
    rcases rd hk (x := x) (by simp [opds]) (.inr hv) with h1 | ⟨o, o', n, z, e, h1, h2⟩
    · rw [h1]
    · rw [h1, h2]
  case slc n x lo hi =>
    simp only [aop]
    cases hv : ev s x <;> (try rfl)
    rename_i id i len
    dsimp only
    rcases rd hk (x := x) (by simp [opds]) (.inr hv) with h1 | ⟨o, o', n, z, e, h1, h2⟩
    · rw [h1]
    · rw [h1, h2]
  case nilck x =>
    simp only [aop]
    cases hv : ev s x <;> (try rfl)
    case lit u => cases u <;> (try rfl); rename_i f _ _; cases f <;> rfl
    case clo f _ _ => cases f <;> rfl
    rename_i id i len
    dsimp only
    rcases rd hk (x := x) (by simp [opds]) (.inl hv) with h1 | ⟨o, o', n, z, e, h1, h2⟩
    · rw [h1]
    · rw [h1, h2]

/-- where an operation writes -/
def wids (s : Nat → AV) (base : Nat) (o : AOper) : List Nat :=
  match kind o.op with
  | .A => [base + o.fr]
  | .W => tops s o.op
  | .P => (base + o.fr) :: tops s o.op
  | _ => []

theorem aop_ws {base : Nat} {s : Nat → AV} {h : Nat → Blk} {o : AOper} {v : AV} {ws : List (Nat × Blk)} (ha : aop (base + o.fr) s h o.op = some (v, ws)) : ∀ p ∈ ws, p.1 ∈ wids s base o := by
  obtain ⟨dst, op, guard, fr⟩ := o
  have get : ∀ {x : Opd} {id : Nat}, x ∈ opds op → id ∈ topId (ev s x) → id ∈ tops s op := fun hx hid => List.mem_flatMap.2 ⟨_, hx, hid⟩
  dsimp only at ha
  unfold wids
  dsimp only
  cases op <;> simp only [kind] <;> simp only [aop] at ha
  case store n x y =>
    cases hv : ev s x <;> rw [hv] at ha <;> (try (simp at ha; done))
    rename_i id i off
    dsimp only at ha
    repeat' split at ha
    all_goals first
      | (simp at ha; done)
      | (simp only [Option.some.injEq, Prod.mk.injEq] at ha
         obtain ⟨_, rfl⟩ := ha
         intro p hp
         simp only [List.mem_singleton] at hp
         subst hp
         exact get (x := x) (by simp [opds]) (by simp [hv, topId]))
  case copy x y =>
    cases hv : ev s x <;> rw [hv] at ha <;> (try (simp at ha; done))
    rename_i id i off
    dsimp only at ha
    repeat' split at ha
    all_goals first
      | (simp at ha; done)
      | (simp only [Option.some.injEq, Prod.mk.injEq] at ha
         obtain ⟨_, rfl⟩ := ha
         intro p hp
         simp only [List.mem_singleton] at hp
         subst hp
         exact get (x := x) (by simp [opds]) (by simp [hv, topId]))
  case mset kd x y z =>
    cases hy : ev s y <;> rw [hy] at ha <;> (try (simp at ha; done))
    cases hz : ev s z <;> rw [hz] at ha <;> (try (simp at ha; done))
    cases hv : ev s x <;> rw [hv] at ha <;> (try (simp at ha; done))
    rename_i id
    dsimp only at ha
    repeat' split at ha
    all_goals first
      | (simp at ha; done)
      | (simp only [Option.some.injEq, Prod.mk.injEq] at ha
         obtain ⟨_, rfl⟩ := ha
         intro p hp
         simp only [List.mem_singleton] at hp
         subst hp
         exact get (x := x) (by simp [opds]) (by simp [hv, topId]))
  case app sz by_ x y =>
    split at ha
    · split at ha
      · cases hv : ev s x <;> rw [hv] at ha <;> (try dsimp only at ha)
        all_goals repeat' split at ha
        all_goals first
          | (simp at ha; done)
          | (exfalso; simp_all; done)
          | (simp only [Option.some.injEq, Prod.mk.injEq] at ha
             obtain ⟨_, rfl⟩ := ha
             intro p hp
             simp only [List.mem_cons, List.not_mem_nil, or_false] at hp ⊢
             first
               | (left; rw [hp]; done)
               | (rcases hp with rfl | rfl
                  · exact .inr (get (x := x) (by simp [opds]) (by simp [hv, topId]))
                  · exact .inl rfl))
      · simp at ha
    · simp at ha
  case call raw f args => simp at ha
  case bad => simp at ha
  all_goals repeat' split at ha
  all_goals first
    | (simp at ha; done)
    | (simp only [Option.some.injEq, Prod.mk.injEq] at ha
       obtain ⟨_, rfl⟩ := ha
       intro p hp
       simp only [List.mem_cons, List.not_mem_nil, or_false] at hp ⊢
       try rw [hp])
    | (simp only [Option.map_eq_some_iff, Option.bind_eq_some_iff] at ha
       first
        | (obtain ⟨_, _, ha⟩ := ha
           simp only [Prod.mk.injEq] at ha
           obtain ⟨_, rfl⟩ := ha
           intro p hp; simp at hp)
        | (obtain ⟨_, _, ha⟩ := ha
           simp only [Option.some.injEq, Prod.mk.injEq] at ha
           obtain ⟨_, rfl⟩ := ha
           intro p hp; simp at hp)
        | (obtain ⟨_, _, _, _, ha⟩ := ha
           simp only [Prod.mk.injEq] at ha
           obtain ⟨_, rfl⟩ := ha
           intro p hp; simp at hp))
    | skip
end Go.Abs
