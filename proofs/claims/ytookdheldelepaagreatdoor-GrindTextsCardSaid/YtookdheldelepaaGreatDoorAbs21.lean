import Derived.Test.YtookdheldelepaaGreatDoorAbsE
set_option linter.all false
set_option linter.unusedVariables false
set_option linter.unusedSimpArgs false
set_option linter.unusedSectionVars false
/- The walk: one region after the other, by simp. -/
namespace Go.Abs
open Go.RowKit

/-- a condition that is to be shown, and is known behind -/
def wif (c A : Prop) : Prop := c ∧ (c → A)
theorem wif_intro {c A : Prop} (h1 : c) (h2 : c → A) : wif c A := ⟨h1, h2⟩
theorem wif_true (A : Prop) : wif True A = A := by simp [wif]
@[congr] theorem wif_congr {c c' A : Prop} (h : c = c') : wif c A = wif c' A := by rw [h]
/-- a result that is there -/
def ores {α : Type} (x : Option α) (K : α → Prop) : Prop := match x with
  | some p => K p
  | none => False
section ores
variable {α β : Type} {K : α → Prop}
theorem ores_some (p : α) : ores (some p) K = K p := rfl
theorem ores_none : ores (none : Option α) K = False := rfl
theorem ores_ite_none (c : Prop) [Decidable c] (x : Option α) : ores (if c then x else none) K = wif c (ores x K) := by
  by_cases h : c <;> simp [h, ores_none, wif]
theorem ores_none_ite (c : Prop) [Decidable c] (x : Option α) : ores (if c then none else x) K = wif (¬ c) (ores x K) := by
  by_cases h : c <;> simp [h, ores_none, wif]
theorem ores_map (f : β → α) (x : Option β) : ores (x.map f) K = ores x (fun y => K (f y)) := by cases x <;> rfl
theorem ores_bind (f : β → Option α) (x : Option β) : ores (x.bind f) K = ores x (fun y => ores (f y) K) := by cases x <;> rfl
end ores

/-! a step where the state is known -/
section eqs
variable {P : Program} {base : Nat} {K : St → Prop} {s : List (Nat × AV)} {h : List Blk}
theorem wops_nil : wops P base [] ⟨s, h⟩ K = K ⟨s, h⟩ := rfl
theorem wops_cons (o : AOper) (r : List AOper) : wops P base (o :: r) ⟨s, h⟩ K = wstep P base o ⟨s, h⟩ fun σ' => wops P base r σ' K := rfl
theorem wstep_none (d : Option Nat) (op : AOp) (fr : Nat) : wstep P base ⟨d, op, none, fr⟩ ⟨s, h⟩ K = wrun P base ⟨d, op, none, fr⟩ ⟨s, h⟩ K := rfl
/-- what is guarded -/
def wguard (P : Program) (base : Nat) (v : AV) (want : Bool) (o : AOper) (σ : St) (K : St → Prop) : Prop := match v with
  | .lit (.bool b) => if b = want then wrun P base o σ K else K (σ.put o.dst (.lit undef))
  | .lit (.tuple _) => K (σ.put o.dst (.lit undef))
  | _ => False
theorem wstep_some (d : Option Nat) (op : AOp) (g : Nat) (want : Bool) (fr : Nat) : wstep P base ⟨d, op, some (g, want), fr⟩ ⟨s, h⟩ K = wguard P base (look s g) want ⟨d, op, some (g, want), fr⟩ ⟨s, h⟩ K := rfl
theorem wguard_bool (b want : Bool) (o : AOper) : wguard P base (.lit (.bool b)) want o ⟨s, h⟩ K = ((b = want → wrun P base o ⟨s, h⟩ K) ∧ (b = !want → K (St.put ⟨s, h⟩ o.dst (.lit undef)))) := by
  cases b <;> cases want <;> simp [wguard]
theorem wguard_true (o : AOper) : wguard P base (.lit (.bool true)) true o ⟨s, h⟩ K = wrun P base o ⟨s, h⟩ K := by simp [wguard]
theorem wguard_ff (o : AOper) : wguard P base (.lit (.bool false)) false o ⟨s, h⟩ K = wrun P base o ⟨s, h⟩ K := by simp [wguard]
theorem wguard_tf (o : AOper) : wguard P base (.lit (.bool true)) false o ⟨s, h⟩ K = K (St.put ⟨s, h⟩ o.dst (.lit undef)) := by simp [wguard]
theorem wguard_undef (want : Bool) (o : AOper) : wguard P base (.lit undef) want o ⟨s, h⟩ K = K (St.put ⟨s, h⟩ o.dst (.lit undef)) := rfl
theorem wguard_ft (o : AOper) : wguard P base (.lit (.bool false)) true o ⟨s, h⟩ K = K (St.put ⟨s, h⟩ o.dst (.lit undef)) := by simp [wguard]
theorem wrun_call (d : Option Nat) (raw : Bool) (f : Opd) (args : List Opd) (g : Option (Nat × Bool)) (fr : Nat) : wrun P base ⟨d, .call raw f args, g, fr⟩ ⟨s, h⟩ K = wcall P raw (ev (look s) f) (args.map (ev (look s))) d ⟨s, h⟩ K := rfl
def wop (base : Nat) (d : Option Nat) (op : AOp) (fr : Nat) (s : List (Nat × AV)) (h : List Blk) (K : St → Prop) : Prop :=
  ores (aop (base + fr) (look s) (hget h) op) fun p => K (St.put ⟨s, writes h p.2⟩ d p.1)
theorem wrun_op (d : Option Nat) (op : AOp) (g : Option (Nat × Bool)) (fr : Nat) (hc : op.isCall = false) :
    wrun P base ⟨d, op, g, fr⟩ ⟨s, h⟩ K = ((op.makes = true → h[base + fr]? = some .resv) ∧ wop base d op fr s h K) := by
  have h1 : wrun P base ⟨d, op, g, fr⟩ ⟨s, h⟩ K = ((op.makes = true → h[base + fr]? = some .resv) ∧ match aop (base + fr) (look s) (hget h) op with
      | some (v, ws) => K (St.put ⟨s, writes h ws⟩ d v)
      | none => False) := by
    cases op <;> first | rfl | simp [AOp.isCall] at hc
  rw [h1]
  unfold wop
  congr 1
  cases aop (base + fr) (look s) (hget h) op with
  | none => rfl
  | some p => rfl
theorem put_some (d : Nat) (v : AV) : St.put ⟨s, h⟩ (some d) v = ⟨(d, v) :: s, h⟩ := rfl
theorem put_none (v : AV) : St.put ⟨s, h⟩ none v = ⟨s, h⟩ := rfl
theorem get_mk (t : Nat) : St.get ⟨s, h⟩ t = look s t := rfl
end eqs

section ops
variable {P : Program} {base : Nat} {K : St → Prop} {s : List (Nat × AV)} {h : List Blk} {d : Option Nat} {g : Option (Nat × Bool)} {fr : Nat}
theorem wrun_mv (x0 : Opd) : wrun P base ⟨d, .mv x0, g, fr⟩ ⟨s, h⟩ K = wop base d (.mv x0) fr s h K := (wrun_op _ _ _ _ rfl).trans (by simp [AOp.makes])
theorem wrun_pick (x0 x1 x2 : Opd) : wrun P base ⟨d, .pick x0 x1 x2, g, fr⟩ ⟨s, h⟩ K = wop base d (.pick x0 x1 x2) fr s h K := (wrun_op _ _ _ _ rfl).trans (by simp [AOp.makes])
theorem wrun_bin (x0 : BinOp) (x1 x2 : Opd) : wrun P base ⟨d, .bin x0 x1 x2, g, fr⟩ ⟨s, h⟩ K = wop base d (.bin x0 x1 x2) fr s h K := (wrun_op _ _ _ _ rfl).trans (by simp [AOp.makes])
theorem wrun_eqAgg (x0 : Bool) (x1 : List CK) (x2 x3 : Opd) : wrun P base ⟨d, .eqAgg x0 x1 x2 x3, g, fr⟩ ⟨s, h⟩ K = wop base d (.eqAgg x0 x1 x2 x3) fr s h K := (wrun_op _ _ _ _ rfl).trans (by simp [AOp.makes])
theorem wrun_neg (x0 : Opd) : wrun P base ⟨d, .neg x0, g, fr⟩ ⟨s, h⟩ K = wop base d (.neg x0) fr s h K := (wrun_op _ _ _ _ rfl).trans (by simp [AOp.makes])
theorem wrun_not (x0 : Opd) : wrun P base ⟨d, .not x0, g, fr⟩ ⟨s, h⟩ K = wop base d (.not x0) fr s h K := (wrun_op _ _ _ _ rfl).trans (by simp [AOp.makes])
theorem wrun_cvInt (x0 : IntKind) (x1 : Opd) : wrun P base ⟨d, .cvInt x0 x1, g, fr⟩ ⟨s, h⟩ K = wop base d (.cvInt x0 x1) fr s h K := (wrun_op _ _ _ _ rfl).trans (by simp [AOp.makes])
theorem wrun_cvB (x0 : Opd) : wrun P base ⟨d, .cvB x0, g, fr⟩ ⟨s, h⟩ K = wop base d (.cvB x0) fr s h K := (wrun_op _ _ _ _ rfl).trans (by simp [AOp.makes])
theorem wrun_cvS (x0 : Opd) : wrun P base ⟨d, .cvS x0, g, fr⟩ ⟨s, h⟩ K = wop base d (.cvS x0) fr s h K := (wrun_op _ _ _ _ rfl).trans (by simp [AOp.makes])
theorem wrun_eqErr (x0 : Bool) (x1 : Opd) : wrun P base ⟨d, .eqErr x0 x1, g, fr⟩ ⟨s, h⟩ K = wop base d (.eqErr x0 x1) fr s h K := (wrun_op _ _ _ _ rfl).trans (by simp [AOp.makes])
theorem wrun_ext (x0 : Opd) (x1 : Nat) : wrun P base ⟨d, .ext x0 x1, g, fr⟩ ⟨s, h⟩ K = wop base d (.ext x0 x1) fr s h K := (wrun_op _ _ _ _ rfl).trans (by simp [AOp.makes])
theorem wrun_build (x0 : List AV) (x1 : List (Nat × Nat × Opd)) : wrun P base ⟨d, .build x0 x1, g, fr⟩ ⟨s, h⟩ K = wop base d (.build x0 x1) fr s h K := (wrun_op _ _ _ _ rfl).trans (by simp [AOp.makes])
theorem wrun_load (x0 : Nat) (x1 : Bool) (x2 : Opd) : wrun P base ⟨d, .load x0 x1 x2, g, fr⟩ ⟨s, h⟩ K = wop base d (.load x0 x1 x2) fr s h K := (wrun_op _ _ _ _ rfl).trans (by simp [AOp.makes])
theorem wrun_store (x0 : Nat) (x1 x2 : Opd) : wrun P base ⟨d, .store x0 x1 x2, g, fr⟩ ⟨s, h⟩ K = wop base d (.store x0 x1 x2) fr s h K := (wrun_op _ _ _ _ rfl).trans (by simp [AOp.makes])
theorem wrun_faddr (x0 : Nat) (x1 : Opd) : wrun P base ⟨d, .faddr x0 x1, g, fr⟩ ⟨s, h⟩ K = wop base d (.faddr x0 x1) fr s h K := (wrun_op _ _ _ _ rfl).trans (by simp [AOp.makes])
theorem wrun_iaddrS (x0 : Nat) (x1 x2 : Opd) : wrun P base ⟨d, .iaddrS x0 x1 x2, g, fr⟩ ⟨s, h⟩ K = wop base d (.iaddrS x0 x1 x2) fr s h K := (wrun_op _ _ _ _ rfl).trans (by simp [AOp.makes])
theorem wrun_idxS (x0 x1 : Opd) : wrun P base ⟨d, .idxS x0 x1, g, fr⟩ ⟨s, h⟩ K = wop base d (.idxS x0 x1) fr s h K := (wrun_op _ _ _ _ rfl).trans (by simp [AOp.makes])
theorem wrun_slc (x0 : Nat) (x1 : Opd) (x2 x3 : Option Opd) : wrun P base ⟨d, .slc x0 x1 x2 x3, g, fr⟩ ⟨s, h⟩ K = wop base d (.slc x0 x1 x2 x3) fr s h K := (wrun_op _ _ _ _ rfl).trans (by simp [AOp.makes])
theorem wrun_slcS (x0 : Opd) (x1 x2 : Option Opd) : wrun P base ⟨d, .slcS x0 x1 x2, g, fr⟩ ⟨s, h⟩ K = wop base d (.slcS x0 x1 x2) fr s h K := (wrun_op _ _ _ _ rfl).trans (by simp [AOp.makes])
theorem wrun_len (x0 : Opd) : wrun P base ⟨d, .len x0, g, fr⟩ ⟨s, h⟩ K = wop base d (.len x0) fr s h K := (wrun_op _ _ _ _ rfl).trans (by simp [AOp.makes])
theorem wrun_lenS (x0 : Opd) : wrun P base ⟨d, .lenS x0, g, fr⟩ ⟨s, h⟩ K = wop base d (.lenS x0) fr s h K := (wrun_op _ _ _ _ rfl).trans (by simp [AOp.makes])
theorem wrun_mkf (x0 : Fn) (x1 x2 : List Opd) : wrun P base ⟨d, .mkf x0 x1 x2, g, fr⟩ ⟨s, h⟩ K = wop base d (.mkf x0 x1 x2) fr s h K := (wrun_op _ _ _ _ rfl).trans (by simp [AOp.makes])
theorem wrun_mlook (x0 : KD) (x1 : Bool) (x2 : Value) (x3 x4 : Opd) : wrun P base ⟨d, .mlook x0 x1 x2 x3 x4, g, fr⟩ ⟨s, h⟩ K = wop base d (.mlook x0 x1 x2 x3 x4) fr s h K := (wrun_op _ _ _ _ rfl).trans (by simp [AOp.makes])
theorem wrun_mset (x0 : KD) (x1 x2 x3 : Opd) : wrun P base ⟨d, .mset x0 x1 x2 x3, g, fr⟩ ⟨s, h⟩ K = wop base d (.mset x0 x1 x2 x3) fr s h K := (wrun_op _ _ _ _ rfl).trans (by simp [AOp.makes])
theorem wrun_alloc (x0 : List AV) : wrun P base ⟨d, .alloc x0, g, fr⟩ ⟨s, h⟩ K = (h[base + fr]? = some .resv ∧ wop base d (.alloc x0) fr s h K) := (wrun_op _ _ _ _ rfl).trans (by simp [AOp.makes])
theorem wrun_box (x0 : Nat) (x1 : Opd) : wrun P base ⟨d, .box x0 x1, g, fr⟩ ⟨s, h⟩ K = (h[base + fr]? = some .resv ∧ wop base d (.box x0 x1) fr s h K) := (wrun_op _ _ _ _ rfl).trans (by simp [AOp.makes])
theorem wrun_bslice (x0 x1 : Nat) (x2 : List AV) (x3 : List (Nat × Opd)) : wrun P base ⟨d, .bslice x0 x1 x2 x3, g, fr⟩ ⟨s, h⟩ K = (h[base + fr]? = some .resv ∧ wop base d (.bslice x0 x1 x2 x3) fr s h K) := (wrun_op _ _ _ _ rfl).trans (by simp [AOp.makes])
theorem wrun_app (x0 x1 : Nat) (x2 x3 : Opd) : wrun P base ⟨d, .app x0 x1 x2 x3, g, fr⟩ ⟨s, h⟩ K = (h[base + fr]? = some .resv ∧ wop base d (.app x0 x1 x2 x3) fr s h K) := (wrun_op _ _ _ _ rfl).trans (by simp [AOp.makes])
theorem wrun_mkmap (x0 : KD) : wrun P base ⟨d, .mkmap x0, g, fr⟩ ⟨s, h⟩ K = (h[base + fr]? = some .resv ∧ wop base d (.mkmap x0) fr s h K) := (wrun_op _ _ _ _ rfl).trans (by simp [AOp.makes])
end ops

/-! simp looks at what is known alone, not at what stands behind -/
section congrs
variable {P : Program} {base : Nat} {K : St → Prop}
@[congr] theorem ores_congr {α : Type} {x x' : Option α} {K : α → Prop} (h : x = x') : ores x K = ores x' K := by rw [h]
@[congr] theorem wops_congr {l : List AOper} {σ σ' : St} {b b' : Nat} (h : σ = σ') (hb : b = b') : wops P b l σ K = wops P b' l σ' K := by rw [h, hb]
@[congr] theorem wstep_congr {o : AOper} {σ σ' : St} (h : σ = σ') : wstep P base o σ K = wstep P base o σ' K := by rw [h]
@[congr] theorem wrun_congr {o : AOper} {σ σ' : St} (h : σ = σ') : wrun P base o σ K = wrun P base o σ' K := by rw [h]
@[congr] theorem wguard_congr {v v' : AV} {want : Bool} {o : AOper} {σ σ' : St} (h : v = v') : wguard P base v want o σ K = wguard P base v' want o σ K := by rw [h]
@[congr] theorem wcall_congr {raw : Bool} {f f' : AV} {args args' : List AV} {d : Option Nat} {σ : St} (h1 : f = f') (h2 : args = args') : wcall P raw f args d σ K = wcall P raw f' args' d σ K := by rw [h1, h2]
@[congr] theorem T_congr {md : Option Nat} {muts : List FuncId} {N b : Nat} {ac : ACode} {σ σ' : St} {K : Exit → St → Prop} (h : σ = σ') : T md P muts N b ac σ K = T md P muts N b ac σ' K := by rw [h]
@[congr] theorem wop_congr {d : Option Nat} {op : AOp} {fr : Nat} {s s' : List (Nat × AV)} {h h' : List Blk} (h1 : s = s') (h2 : h = h') : wop base d op fr s h K = wop base d op fr s' h' K := by rw [h1, h2]
@[congr] theorem leave_congr {b : Nat} {rs : List ARes} {Q : AV → List Blk → Prop} {e : Exit} {σ σ' : St} (h : σ = σ') : leave b rs Q e σ = leave b rs Q e σ' := by rw [h]
end congrs

/-- a call with one worth -/
def Fn (P : Program) (g : FuncId) (args : List AV) (r : AV) (new : List Blk) : Prop := ACall P g args [] fun r' H' => r' = r ∧ H' = new
section calls
variable {P : Program} {s : List (Nat × AV)} {h : List Blk} {K : St → Prop}
theorem wcall_fn {g : FuncId} {args args' : List AV} {r : AV} {new : List Blk} {d : Option Nat} (hf : Fn P g args' r new) (he : rfyL (hget h) args = args') (hp : plainL args' = true)
    (hk : K (St.put ⟨s, freeze h (lidsL (hget h) args) ++ new.map (renB (shiftρ h.length))⟩ d (ren (shiftρ h.length) r))) : wcall P false (.lit (.func (.func g) #[] #[])) args d ⟨s, h⟩ K := by
  subst he
  unfold wcall
  simp only [target, List.map_nil, List.nil_append, List.append_nil, Bool.false_eq_true, if_false]
  exact ⟨hp, hf.mono fun r' new' ⟨e1, e2⟩ => by subst e1 e2; exact hk⟩
theorem wcall_raw {g : FuncId} {args : List AV} {d : Option Nat} (hf : ACall P g args h fun r H' => K (St.put ⟨s, H'⟩ d r)) : wcall P true (.lit (.func (.func g) #[] #[])) args d ⟨s, h⟩ K := by
  unfold wcall
  simp only [target, List.map_nil, List.nil_append, List.append_nil, if_true]
  exact hf
end calls

/-! values -/
abbrev i64 (n : Int) : AV := .lit (.int .i64 n)
abbrev bl (b : Bool) : AV := .lit (.bool b)
abbrev ints (nil : Bool) (xs : List Int) : AV := .sl nil 1 (xs.map fun x => [i64 x])

mutual
theorem ren_plain (ρ : Nat → Option Nat) : ∀ v : AV, plain v = true → ren ρ v = v
  | .lit _, _ => rfl
  | .emp, _ => rfl
  | .sl b sz els, h => by simp only [plain] at h; simp only [ren, renR_plain ρ els h]
  | .adr sz els i o, h => by simp only [plain] at h; simp only [ren, renR_plain ρ els h]
  | .agg cs, h => by simp only [plain] at h; simp only [ren, renL_plain ρ cs h]
  | .tup cs, h => by simp only [plain] at h; simp only [ren, renL_plain ρ cs h]
  | .clo fn f c, h => by simp only [plain, Bool.and_eq_true] at h; simp only [ren, renL_plain ρ f h.1, renL_plain ρ c h.2]
  | .loc .., h => by simp [plain] at h
  | .lsl .., h => by simp [plain] at h
  | .mp _, h => by simp [plain] at h
  | .top, h => by simp [plain] at h
  | .top1, h => by simp [plain] at h
  | .err, _ => rfl
theorem renL_plain (ρ : Nat → Option Nat) : ∀ l : List AV, plainL l = true → renL ρ l = l
  | [], _ => rfl
  | a :: l, h => by simp only [plainL, Bool.and_eq_true] at h; simp only [renL, ren_plain ρ a h.1, renL_plain ρ l h.2]
theorem renR_plain (ρ : Nat → Option Nat) : ∀ l : List (List AV), plainR l = true → renR ρ l = l
  | [], _ => rfl
  | r :: l, h => by simp only [plainR, Bool.and_eq_true] at h; simp only [renR, renL_plain ρ r h.1, renR_plain ρ l h.2]
end
theorem ofValue_int (k : IntKind) (n : Int) : ofValue (.int k n) = .lit (.int k n) := rfl
theorem ofValue_str (b : ByteArray) : ofValue (.string b) = .lit (.string b) := rfl
theorem getD_ints {xs : List Int} {k : Nat} (h : k < xs.length) : (xs.map fun x => [i64 x]).getD k [] = [i64 (xs.getD k 0)] := by
  simp [List.getD_eq_getElem?_getD, h]
theorem plainR_map {α : Type} (f : α → List AV) (hf : ∀ x, plainL (f x) = true) : ∀ l : List α, plainR (l.map f) = true
  | [] => rfl
  | a :: l => by simp only [List.map_cons, plainR, hf a, plainR_map f hf l, Bool.and_self]
@[simp] theorem plainR_ints (xs : List Int) : plainR (xs.map fun x => [i64 x]) = true := plainR_map _ (fun _ => rfl) xs
theorem renR_ints (ρ : Nat → Option Nat) (xs : List Int) : renR ρ (xs.map fun x => [i64 x]) = xs.map fun x => [i64 x] := renR_plain ρ _ (plainR_ints xs)
@[simp] theorem plain_ints (nil : Bool) (xs : List Int) : plain (ints nil xs) = true := plainR_ints xs

/-- what is left: results without blocks of ours -/
theorem leave_of {rs : List ARes} {σ : St} {Q : AV → List Blk → Prop} {e : Exit} (he : e = .normal ∨ e = .ret) (vs : List AV) (hv : resL σ rs = some vs) (hq : Q (ren (keepρ 0 []) (tupOf vs)) []) : leave 0 rs Q e σ := by
  have : ∃ vs ids, resL σ rs = some vs ∧ 0 ≤ σ.heap.length ∧ (∀ id ∈ ids, 0 ≤ id ∧ id < σ.heap.length) ∧ ids.Nodup ∧ Q (ren (keepρ 0 ids) (tupOf vs)) (σ.keep 0 [] ids).heap :=
    ⟨vs, [], hv, Nat.zero_le _, by simp, by simp, by simpa [St.keep] using hq⟩
  rcases he with rfl | rfl <;> exact this
theorem leaveA_of {rs : List ARes} {σ : St} {Q : AV → List Blk → Prop} {e : Exit} (he : e = .normal ∨ e = .ret) (vs : List AV) (hv : resL σ rs = some vs) (hq : Q (tupOf vs) σ.heap) : leaveA rs Q e σ := by
  rcases he with rfl | rfl <;> exact ⟨vs, hv, hq⟩
/-- with blocks -/
theorem leave_ids {rs : List ARes} {σ : St} {Q : AV → List Blk → Prop} {e : Exit} (he : e = .normal ∨ e = .ret) (vs : List AV) (ids : List Nat) (hv : resL σ rs = some vs) (hi : ∀ id ∈ ids, id < σ.heap.length) (hn : ids.Nodup)
    (hq : Q (ren (keepρ 0 ids) (tupOf vs)) (ids.map fun id => renB (keepρ 0 ids) (hget σ.heap id))) : leave 0 rs Q e σ := by
  have : ∃ vs ids, resL σ rs = some vs ∧ 0 ≤ σ.heap.length ∧ (∀ id ∈ ids, 0 ≤ id ∧ id < σ.heap.length) ∧ ids.Nodup ∧ Q (ren (keepρ 0 ids) (tupOf vs)) (σ.keep 0 [] ids).heap :=
    ⟨vs, ids, hv, Nat.zero_le _, fun id h => ⟨Nat.zero_le _, hi id h⟩, hn, by simpa [St.keep] using hq⟩
  rcases he with rfl | rfl <;> exact this
theorem fn_of {P : Program} {muts : List FuncId} {g : FuncId} {n : Nat} {ac : ACode} {rs : List ARes} (h : envOf P muts g = some (n, ac, rs)) {args : List AV} {r : AV} {new : List Blk}
    (hT : T none P muts n 0 ac ⟨(args.zipIdx 0).map fun (x : AV × Nat) => (x.2, x.1), []⟩ (leave 0 rs fun r' H' => r' = r ∧ H' = new)) : Fn P g args r new := envOf_ok h hT


/-! regions with a draw, walked in order -/
def chk (bef : List (List Nat)) (n : Nat) (past : List (Nat × Foot)) (F : Foot) : Bool :=
  past.all fun p => (bef.getD n []).contains p.1 || (bef.getD p.1 []).contains n || compatB p.2 F
def wcallX (P : Program) (raw : Bool) (f : AV) (args : List AV) (d : Option Nat) (σ : St) (K : St → Prop) : Prop := (raw = false →
  ∃ g first cap, target f = some (g, first, cap) ∧ plainL (rfyL (hget σ.heap) (first ++ args ++ cap)) = true ∧
    ∃ Q, ACall P g (rfyL (hget σ.heap) (first ++ args ++ cap)) [] Q ∧ (∃ r new, Q r new) ∧ ∀ r new, Q r new → K (landed σ (lidsL (hget σ.heap) (first ++ args ++ cap)) d r new)) ∧
  (raw = true → ∃ g first cap, target f = some (g, first, cap) ∧ ∃ Q, ACall P g (first ++ args ++ cap) σ.heap Q ∧ (∃ r H', Q r H') ∧ ∀ r H', Q r H' → K (St.put ⟨σ.slots, H'⟩ d r))
def wrunX (P : Program) (base : Nat) (o : AOper) (σ : St) (K : St → Prop) : Prop := match o.op with
  | .call raw f args => wcallX P raw (ev σ.get f) (args.map (ev σ.get)) o.dst σ K
  | _ => wrun P base o σ K
def wguardX (P : Program) (base : Nat) (v : AV) (want : Bool) (o : AOper) (σ : St) (K : St → Prop) : Prop := match v with
  | .lit (.bool b) => if b = want then wrunX P base o σ K else K (σ.put o.dst (.lit undef))
  | .lit (.tuple _) => K (σ.put o.dst (.lit undef))
  | _ => False
def wstepX (P : Program) (base : Nat) (o : AOper) (σ : St) (K : St → Prop) : Prop := match o.guard with
  | none => wrunX P base o σ K
  | some (g, want) => wguardX P base (σ.get g) want o σ K
def wdW (P : Program) (base : Nat) (bef : List (List Nat)) : List (Nat × AOper) → List (Nat × Foot) → St → (St → Prop) → Prop
  | [], _, σ, K => K σ
  | (n, o) :: r, past, σ, K => chk bef n past (foot base o σ) = true ∧ wstepX P base o σ fun σ' => wdW P base bef r ((n, foot base o σ) :: past) σ' K
section
variable {P : Program} {base : Nat}
theorem wrun_noncall {o : AOper} {σ : St} {K : St → Prop} (hc : o.op.isCall = false) (h : wrunX P base o σ K) : wrun P base o σ K := by
  unfold wrunX at h
  split at h
  · rename_i hop; rw [hop] at hc; simp [AOp.isCall] at hc
  · exact h
theorem wstepD_X {o : AOper} {σ : St} {K : St → Prop} (h : wstepX P base o σ K) : wstepD P base o σ K := by
  cases hc : o.op.isCall with
  | false =>
    refine wstepD_of hc ?_
    unfold wstepX at h
    unfold wstep
    cases hg : o.guard with
    | none => rw [hg] at h; exact wrun_noncall hc h
    | some p =>
      obtain ⟨g, want⟩ := p
      rw [hg] at h
      dsimp only at h ⊢
      unfold wguardX at h
      split at h
      · rename_i b hb
        rw [hb]
        dsimp only
        split at h
        · rename_i hbw; rw [if_pos hbw]; exact wrun_noncall hc h
        · rename_i hbw; rw [if_neg hbw]; exact h
      · rename_i xs hb; rw [hb]; exact h
      · exact h.elim
  | true =>
    have hop : ∃ raw f args, o.op = .call raw f args := by
      cases ho : o.op <;> rw [ho] at hc <;> first | (simp [AOp.isCall] at hc; done) | exact ⟨_, _, _, rfl⟩
    obtain ⟨raw, f, args, hop⟩ := hop
    have hx : wanted o σ = true → wrunX P base o σ K → wstepD P base o σ K := by
      intro hwt h
      unfold wrunX at h
      rw [hop] at h
      cases raw with
      | false =>
        obtain ⟨g, first, cap, ht, h1, Q, h2, h3, h4⟩ := h.1 rfl
        have e : argsOf σ f args = first ++ args.map (ev σ.get) ++ cap := by unfold argsOf; rw [ht]
        exact .inr (.inl ⟨hwt, f, args, hop, g, first, cap, ht, by rw [e]; exact h1, Q, by rw [e]; exact h2, h3, by rw [e]; exact h4⟩)
      | true =>
        obtain ⟨g, first, cap, ht, Q, h2, h3, h4⟩ := h.2 rfl
        have e : argsOf σ f args = first ++ args.map (ev σ.get) ++ cap := by unfold argsOf; rw [ht]
        exact .inr (.inr ⟨hwt, f, args, hop, g, first, cap, ht, Q, by rw [e]; exact h2, h3, h4⟩)
    unfold wstepX at h
    cases hg : o.guard with
    | none =>
      rw [hg] at h
      exact hx (by simp [wanted, hg]) h
    | some p =>
      obtain ⟨g, want⟩ := p
      rw [hg] at h
      dsimp only at h
      unfold wguardX at h
      split at h
      · rename_i b hb
        split at h
        · rename_i hbw
          exact hx (by simp [wanted, hg, hb, hbw]) h
        · rename_i hbw
          exact .inl ⟨(.lit undef, []), by simp [nres, hg, hb, hbw], h⟩
      · rename_i xs hb
        exact .inl ⟨(.lit undef, []), by simp [nres, hg, hb], h⟩
      · exact h.elim
theorem wdops_W {bef : List (List Nat)} {K : St → Prop} : ∀ (l : List (Nat × AOper)) (past : List (Nat × Foot)) (σ : St), wdW P base bef l past σ K → wdops P base bef l past σ K
  | [], _, _, h => h
  | (n, o) :: r, past, σ, ⟨h1, h2⟩ => by
    refine ⟨fun p hp hb1 hb2 => ?_, wstepD_mono (fun s hs => wdops_W r _ s hs) (wstepD_X h2)⟩
    simp only [chk, List.all_eq_true, Bool.or_eq_true, List.contains_iff_mem] at h1
    rcases h1 p hp with (h3 | h3) | h3
    · exact (hb1 h3).elim
    · exact (hb2 h3).elim
    · exact compatB_ok h3
theorem T_draw {muts : List FuncId} {N b : Nat} {σ : St} {K : Exit → St → Prop} {md : Option Nat} {n : Nat} {l : List (Nat × AOper)} {bef : List (List Nat)} (h : wdW P σ.heap.length bef l [] ⟨σ.slots, σ.heap ++ List.replicate n .resv⟩ (K .normal)) : T md P muts N b (.dreg n l bef) σ K :=
  T_dreg (wdops_W l [] _ h)
variable {K : St → Prop} {s : List (Nat × AV)} {h : List Blk}
theorem wdW_nil {bef : List (List Nat)} {past : List (Nat × Foot)} : wdW P base bef [] past ⟨s, h⟩ K = K ⟨s, h⟩ := rfl
theorem wdW_cons {bef : List (List Nat)} {past : List (Nat × Foot)} {n : Nat} {o : AOper} {r : List (Nat × AOper)} (hc : chk bef n past (foot base o ⟨s, h⟩) = true) (hk : wstepX P base o ⟨s, h⟩ fun σ' => wdW P base bef r ((n, foot base o ⟨s, h⟩) :: past) σ' K) : wdW P base bef ((n, o) :: r) past ⟨s, h⟩ K := ⟨hc, hk⟩
theorem wstepX_none (d : Option Nat) (op : AOp) (fr : Nat) : wstepX P base ⟨d, op, none, fr⟩ ⟨s, h⟩ K = wrunX P base ⟨d, op, none, fr⟩ ⟨s, h⟩ K := rfl
theorem wstepX_some (d : Option Nat) (op : AOp) (g : Nat) (want : Bool) (fr : Nat) : wstepX P base ⟨d, op, some (g, want), fr⟩ ⟨s, h⟩ K = wguardX P base (look s g) want ⟨d, op, some (g, want), fr⟩ ⟨s, h⟩ K := rfl
theorem wguardX_ff (o : AOper) : wguardX P base (.lit (.bool false)) false o ⟨s, h⟩ K = wrunX P base o ⟨s, h⟩ K := by simp [wguardX]
theorem wguardX_tf (o : AOper) : wguardX P base (.lit (.bool true)) false o ⟨s, h⟩ K = K (St.put ⟨s, h⟩ o.dst (.lit undef)) := by simp [wguardX]
theorem wguardX_split {b want : Bool} {o : AOper} (h1 : b = want → wrunX P base o ⟨s, h⟩ K) (h2 : b = (!want) → K (St.put ⟨s, h⟩ o.dst (.lit undef))) : wguardX P base (.lit (.bool b)) want o ⟨s, h⟩ K := by
  unfold wguardX
  dsimp only
  split
  · rename_i hb; exact h1 hb
  · rename_i hb; exact h2 (by cases b <;> cases want <;> simp_all)
theorem wrunX_call (d : Option Nat) (raw : Bool) (f : Opd) (args : List Opd) (g : Option (Nat × Bool)) (fr : Nat) : wrunX P base ⟨d, .call raw f args, g, fr⟩ ⟨s, h⟩ K = wcallX P raw (ev (look s) f) (args.map (ev (look s))) d ⟨s, h⟩ K := rfl
section opsX
variable {d : Option Nat} {g : Option (Nat × Bool)} {fr : Nat}
theorem wrunX_mv (x0 : Opd) : wrunX P base ⟨d, .mv x0, g, fr⟩ ⟨s, h⟩ K = wrun P base ⟨d, .mv x0, g, fr⟩ ⟨s, h⟩ K := rfl
theorem wrunX_pick (x0 x1 x2 : Opd) : wrunX P base ⟨d, .pick x0 x1 x2, g, fr⟩ ⟨s, h⟩ K = wrun P base ⟨d, .pick x0 x1 x2, g, fr⟩ ⟨s, h⟩ K := rfl
theorem wrunX_bin (x0 : BinOp) (x1 x2 : Opd) : wrunX P base ⟨d, .bin x0 x1 x2, g, fr⟩ ⟨s, h⟩ K = wrun P base ⟨d, .bin x0 x1 x2, g, fr⟩ ⟨s, h⟩ K := rfl
theorem wrunX_not (x0 : Opd) : wrunX P base ⟨d, .not x0, g, fr⟩ ⟨s, h⟩ K = wrun P base ⟨d, .not x0, g, fr⟩ ⟨s, h⟩ K := rfl
theorem wrunX_build (x0 : List AV) (x1 : List (Nat × Nat × Opd)) : wrunX P base ⟨d, .build x0 x1, g, fr⟩ ⟨s, h⟩ K = wrun P base ⟨d, .build x0 x1, g, fr⟩ ⟨s, h⟩ K := rfl
theorem wrunX_load (x0 : Nat) (x1 : Bool) (x2 : Opd) : wrunX P base ⟨d, .load x0 x1 x2, g, fr⟩ ⟨s, h⟩ K = wrun P base ⟨d, .load x0 x1 x2, g, fr⟩ ⟨s, h⟩ K := rfl
theorem wrunX_store (x0 : Nat) (x1 x2 : Opd) : wrunX P base ⟨d, .store x0 x1 x2, g, fr⟩ ⟨s, h⟩ K = wrun P base ⟨d, .store x0 x1 x2, g, fr⟩ ⟨s, h⟩ K := rfl
theorem wrunX_faddr (x0 : Nat) (x1 : Opd) : wrunX P base ⟨d, .faddr x0 x1, g, fr⟩ ⟨s, h⟩ K = wrun P base ⟨d, .faddr x0 x1, g, fr⟩ ⟨s, h⟩ K := rfl
theorem wrunX_iaddrS (x0 : Nat) (x1 x2 : Opd) : wrunX P base ⟨d, .iaddrS x0 x1 x2, g, fr⟩ ⟨s, h⟩ K = wrun P base ⟨d, .iaddrS x0 x1 x2, g, fr⟩ ⟨s, h⟩ K := rfl
theorem wrunX_slcS (x0 : Opd) (x1 x2 : Option Opd) : wrunX P base ⟨d, .slcS x0 x1 x2, g, fr⟩ ⟨s, h⟩ K = wrun P base ⟨d, .slcS x0 x1 x2, g, fr⟩ ⟨s, h⟩ K := rfl
theorem wrunX_len (x0 : Opd) : wrunX P base ⟨d, .len x0, g, fr⟩ ⟨s, h⟩ K = wrun P base ⟨d, .len x0, g, fr⟩ ⟨s, h⟩ K := rfl
theorem wrunX_bslice (x0 x1 : Nat) (x2 : List AV) (x3 : List (Nat × Opd)) : wrunX P base ⟨d, .bslice x0 x1 x2 x3, g, fr⟩ ⟨s, h⟩ K = wrun P base ⟨d, .bslice x0 x1 x2 x3, g, fr⟩ ⟨s, h⟩ K := rfl
end opsX
theorem wcallX_fn {g : FuncId} {args args' : List AV} {r : AV} {new : List Blk} {d : Option Nat} (hf : Fn P g args' r new) (he : rfyL (hget h) args = args') (hp : plainL args' = true)
    (hk : K (St.put ⟨s, freeze h (lidsL (hget h) args) ++ new.map (renB (shiftρ h.length))⟩ d (ren (shiftρ h.length) r))) : wcallX P false (.lit (.func (.func g) #[] #[])) args d ⟨s, h⟩ K := by
  subst he
  have e : ([] : List AV) ++ args ++ [] = args := by simp
  refine ⟨fun _ => ⟨g, [], [], rfl, by rw [e]; exact hp, fun r' H' => r' = r ∧ H' = new, by rw [e]; exact hf, ⟨r, new, rfl, rfl⟩, ?_⟩, fun h => by simp at h⟩
  rintro r' new' ⟨e1, e2⟩
  subst e1 e2
  rw [e]
  exact hk
@[congr] theorem wdW_congr {bef : List (List Nat)} {l : List (Nat × AOper)} {past : List (Nat × Foot)} {σ σ' : St} {b b' : Nat} (h : σ = σ') (hb : b = b') : wdW P b bef l past σ K = wdW P b' bef l past σ' K := by rw [h, hb]
@[congr] theorem wstepX_congr {o : AOper} {σ σ' : St} (h : σ = σ') : wstepX P base o σ K = wstepX P base o σ' K := by rw [h]
@[congr] theorem wrunX_congr {o : AOper} {σ σ' : St} (h : σ = σ') : wrunX P base o σ K = wrunX P base o σ' K := by rw [h]
@[congr] theorem wguardX_congr {v v' : AV} {want : Bool} {o : AOper} {σ : St} (h : v = v') : wguardX P base v want o σ K = wguardX P base v' want o σ K := by rw [h]
@[congr] theorem wcallX_congr {raw : Bool} {f f' : AV} {args args' : List AV} {d : Option Nat} {σ : St} (h1 : f = f') (h2 : args = args') : wcallX P raw f args d σ K = wcallX P raw f' args' d σ K := by rw [h1, h2]
end

/-! conditions that are known; loops -/
section
variable {P : Program} {muts : List FuncId} {N b : Nat} {σ : St} {K : Exit → St → Prop} {md : Option Nat}
theorem T_cond_t {o : Opd} {p q : ACode} (hv : ev σ.get o = .lit (.bool true)) (h1 : T md P muts N b p σ K) : T md P muts N b (.cond o p q) σ K := T_cond hv (fun _ => h1) (fun h => by simp at h)
theorem T_cond_f {o : Opd} {p q : ACode} (hv : ev σ.get o = .lit (.bool false)) (h1 : T md P muts N b q σ K) : T md P muts N b (.cond o p q) σ K := T_cond hv (fun h => by simp at h) (fun _ => h1)
/-- a loop that is counted: the slots that matter, as of the k-th round -/
theorem T_for {p : ACode} (ts : List Nat) (S : Nat → St) (m : Nat) (I : Nat → Prop) (k0 : Nat) (h0 : σ.only ts = S k0) (hI0 : I k0) (hk0 : k0 ≤ m)
    (h : ∀ k, k ≤ m → I k → T md P muts N b p (S k) (thenK (fun s' => (k < m ∧ I (k + 1)) ∧ s'.only ts = S (k + 1)) K)) : T md P muts N b (.loop p) σ K :=
  T_loop_only ts (fun n s => ∃ k, k ≤ m ∧ I k ∧ n = m - k ∧ s = S k) (m - k0) ⟨k0, hk0, hI0, rfl, h0⟩ fun n s ⟨k, hk, hI, hn, hs⟩ => by
    subst hs hn
    refine T_mono (h k hk hI) fun e s' hK => ?_
    cases e with
    | normal => obtain ⟨⟨h1, h2⟩, h3⟩ := hK; exact ⟨m - (k + 1), by omega, k + 1, h1, h2, rfl, h3⟩
    | _ => exact hK
/-- the same, where blocks are made: those that stay are named anew -/
theorem T_for_keep {p : ACode} (ts : List Nat) (S : Nat → St) (m : Nat) (I : Nat → Prop) (k0 : Nat) (h0 : ∃ ids : List Nat, b ≤ σ.heap.length ∧ (∀ id ∈ ids, b ≤ id ∧ id < σ.heap.length) ∧ ids.Nodup ∧ σ.keep b ts ids = S k0) (hI0 : I k0) (hk0 : k0 ≤ m)
    (h : ∀ k, k ≤ m → I k → T md P muts N b p (S k) (thenK (fun s' => (k < m ∧ I (k + 1)) ∧ ∃ ids : List Nat, b ≤ s'.heap.length ∧ (∀ id ∈ ids, b ≤ id ∧ id < s'.heap.length) ∧ ids.Nodup ∧ s'.keep b ts ids = S (k + 1)) K)) : T md P muts N b (.loop p) σ K := by
  obtain ⟨ids0, g1, g2, g3, g4⟩ := h0
  refine T_weak (weak_keep (ts := ts) g1 g2 g3) (T_loop (fun n s => ∃ k, k ≤ m ∧ I k ∧ n = m - k ∧ s = S k) (m - k0) ⟨k0, hk0, hI0, rfl, g4⟩ fun n s ⟨k, hk, hI, hn, hs⟩ => ?_)
  subst hs hn
  refine T_mono (h k hk hI) fun e s' hK => ?_
  cases e with
  | normal => obtain ⟨⟨h1, h2⟩, ids, h3, h4, h5, h6⟩ := hK; exact ⟨m - (k + 1), by omega, _, weak_keep (ts := ts) h3 h4 h5, k + 1, h1, h2, rfl, h6⟩
  | _ => exact hK
end

theorem wguard_split {P : Program} {base : Nat} {b want : Bool} {o : AOper} {s : List (Nat × AV)} {h : List Blk} {K : St → Prop} (h1 : b = want → wrun P base o ⟨s, h⟩ K) (h2 : b = (!want) → K (St.put ⟨s, h⟩ o.dst (.lit undef))) : wguard P base (.lit (.bool b)) want o ⟨s, h⟩ K := by
  rw [wguard_bool]; exact ⟨h1, h2⟩
end Go.Abs
