import Derived.Test.YtdedhipkncagjaaPCmin
import Derived.Laws.Strings
set_option linter.all false
set_option linter.unusedVariables false
set_option linter.unusedSimpArgs false
set_option linter.unusedSectionVars false
namespace Go.Abs
open Go.Proofs
/-! texts, names -/
abbrev tx (b : ByteArray) : AV := .lit (.string b)
abbrev u8 (n : Int) : AV := .lit (.int .u8 n)
def isLt (c : Int) : Bool := (decide (97 ≤ c) && decide (c ≤ 122)) || (decide (65 ≤ c) && decide (c ≤ 90))
def isDg (c : Int) : Bool := decide (48 ≤ c) && decide (c ≤ 57)
def okCh (c : Int) : Bool := isLt c || isDg c || decide (c = 45)
/-- the bytes of a text as numbers -/
def nums (b : ByteArray) : List Int := b.data.toList.map fun c => (c.toNat : Int)
def nmL : List Int → Bool
  | [] => false
  | c :: r => decide ((c :: r).length ≤ 12) && isLt c && (c :: r).all okCh
def nmB (b : ByteArray) : Bool := nmL (nums b)
end Go.Abs
namespace Go.Abs
open Go.Proofs
/-! the program's isName -/
end Go.Abs
namespace Go.Abs
open Go.Proofs
end Go.Abs
namespace Go.Abs
open Go.Proofs
/-! grits -/
structure Gr where
  nm : ByteArray
  dm : Int
  rt : Int
def gr0 : Gr := ⟨⟨#[]⟩, 0, 0⟩
/-- the first number of which something is true, or -1 -/
def fstP (p : Nat → Bool) (n : Nat) : Int := match (List.range n).find? p with
  | some k => k
  | none => -1
def eqT (a b : ByteArray) : Bool := a.data.toList == b.data.toList
end Go.Abs
namespace Go.Abs
open Go.Proofs
/-! grits: small functions -/
/-! Ceil, minutes -/
/-- rounded up -/
def ceil (n d : Int) : Int := -((-n) / d)
end Go.Abs
namespace Go.Abs
open Go.Proofs
/-! CheckGrits of the reference -/
end Go.Abs
namespace Go.Abs
open Go.Proofs
/-! names that are there already -/
theorem at_in {H : List Blk} {i : Nat} {b : Blk} (h : H[i]? = some b) (X : List Blk) : (H ++ X)[i]? = some b := by rw [List.getElem?_append_left (List.getElem?_eq_some_iff.1 h).1]; exact h
theorem cells_sub {H X : List Blk} {N : Nat} (hN : H.length = N) : (∀ Y, (H ++ Y)[N]? = Y[0]?) ∧ (∀ Y j, (H ++ Y)[N + j]? = Y[j]?) ∧ (∀ Y v, (H ++ Y).set N v = H ++ Y.set 0 v) ∧ (∀ Y j v, (H ++ Y).set (N + j) v = H ++ Y.set j v) := by
  subst hN
  refine ⟨fun Y => ?_, fun Y j => ?_, fun Y v => ?_, fun Y j v => ?_⟩
  · rw [List.getElem?_append_right (Nat.le_refl _), Nat.sub_self]
  · rw [List.getElem?_append_right (by omega), Nat.add_sub_cancel_left]
  · rw [List.set_append_right _ _ (Nat.le_refl _), Nat.sub_self]
  · rw [List.set_append_right _ _ (by omega), Nat.add_sub_cancel_left]
theorem T_forP {P : Program} {muts : List FuncId} {N b : Nat} {σ : St} {K : Exit → St → Prop} {md : Option Nat} {p : ACode} (ts : List Nat) (SL : Nat → List (Nat × AV)) (m : Nat) (I : Nat → List Blk → Prop) (k0 : Nat) (h0 : (σ.only ts).slots = SL k0) (hI0 : I k0 σ.heap) (hk0 : k0 ≤ m)
    (h : ∀ k H, k ≤ m → I k H → T md P muts N b p ⟨SL k, H⟩ (thenK (fun s' => k < m ∧ I (k + 1) s'.heap ∧ (s'.only ts).slots = SL (k + 1)) K)) : T md P muts N b (.loop p) σ K :=
  T_loop_only ts (fun n s => ∃ k H, k ≤ m ∧ I k H ∧ n = m - k ∧ s = ⟨SL k, H⟩) (m - k0) ⟨k0, σ.heap, hk0, hI0, rfl, by rw [← h0]; rfl⟩ fun n s ⟨k, H, hk, hI, hn, hs⟩ => by
    subst hs hn
    refine T_mono (h k H hk hI) fun e s' hK => ?_
    cases e with
    | normal => obtain ⟨h1, h2, h200⟩ := hK; exact ⟨m - (k + 1), by omega, k + 1, s'.heap, h1, h2, rfl, by rw [← h200]; rfl⟩
    | _ => exact hK
theorem T_onlyU {P : Program} {muts : List FuncId} {N b : Nat} {σ S : St} {K : Exit → St → Prop} {md : Option Nat} {ac : ACode} (ts : List Nat) (h : σ.only ts = S) (hT : T md P muts N b ac S K) : T md P muts N b ac σ K :=
  T_weak (weak_only ts) (by rw [h]; exact hT)
theorem T_thenR {P : Program} {muts : List FuncId} {N b : Nat} {σ : St} {K : Exit → St → Prop} {md : Option Nat} {ac : ACode} {A B : St → Prop} (h : T md P muts N b ac σ (thenK A K)) (hab : ∀ s, A s → B s) : T md P muts N b ac σ (thenK B K) :=
  T_mono h fun e s hs => by
    cases e with
    | normal => exact hab s hs
    | _ => exact hs
theorem eqT_iff {a b : ByteArray} : eqT a b = true ↔ a.data.toList = b.data.toList := by unfold eqT; simp
theorem mfind_mput (b b' : ByteArray) (v : Value) : ∀ es : List (Value × Value), mfind (.string b') (mput (.string b) v es) = if eqT b b' = true then some v else mfind (.string b') es
  | [] => by
    show (if keyEq (.string b) (.string b') then some v else none) = _
    have : keyEq (.string b) (.string b') = eqT b b' := rfl
    rw [this]; rfl
  | (a, u) :: r => by
    have ih := mfind_mput b b' v r
    have e0 : keyEq (.string b) (.string b') = eqT b b' := rfl
    unfold mput
    cases ha : keyEq a (.string b) with
    | false =>
      rw [if_neg (by simp)]
      unfold mfind
      rw [ih]
      cases ha' : keyEq a (.string b') with
      | false => simp
      | true =>
        rw [if_pos rfl, if_neg]
        · rw [if_pos rfl]
        · intro h
          cases a with
          | string a' =>
            have h1 : eqT a' b' = true := ha'
            have h2 : eqT a' b = false := ha
            rw [eqT_iff] at h1 h
            have h200 : eqT a' b = true := eqT_iff.2 (h1.trans h.symm)
            rw [h200] at h2; simp at h2
          | _ => simp [keyEq] at ha'
    | true =>
      rw [if_pos rfl]
      unfold mfind
      rw [e0]
      cases hb : eqT b b' with
      | true => simp
      | false =>
        simp only [Bool.false_eq_true, if_false]
        cases ha' : keyEq a (.string b') with
        | false => simp
        | true =>
          exfalso
          cases a with
          | string a' =>
            have h1 : eqT a' b' = true := ha'
            have h2 : eqT a' b = true := ha
            rw [eqT_iff] at h1 h2
            have h200 : eqT b b' = true := eqT_iff.2 (h2.symm.trans h1)
            rw [h200] at hb; simp at hb
          | _ => simp [keyEq] at ha'
/-- the map holds those of which p is true -/
def Seen (p : ByteArray → Prop) (es : List (Value × Value)) : Prop := ∀ b, (mfind (.string b) es = some (.bool true) ∧ p b) ∨ (mfind (.string b) es = none ∧ ¬p b)
theorem Seen.nil : Seen (fun _ => False) [] := fun b => .inr ⟨rfl, fun h => h⟩
theorem Seen.put {p q : ByteArray → Prop} {es : List (Value × Value)} (h : Seen p es) (b : ByteArray) (hq : ∀ b', q b' ↔ p b' ∨ eqT b b' = true) : Seen q (mput (.string b) (.bool true) es) := fun b' => by
  rw [mfind_mput]
  by_cases he : eqT b b' = true
  · rw [if_pos he]; exact .inl ⟨rfl, (hq b').2 (.inr he)⟩
  · rw [if_neg he]
    rcases h b' with ⟨h1, h2⟩ | ⟨h1, h2⟩
    · exact .inl ⟨h1, (hq b').2 (.inl h2)⟩
    · exact .inr ⟨h1, fun h200 => ((hq b').1 h200).elim h2 he⟩
end Go.Abs
namespace Go.Abs
open Go.Proofs
/-! the program's CheckGrits -/
structure J45 (l : List Gr) (k : Nat) (H : List Blk) : Prop where
  m : ∃ es, H[0]? = some (.obj (.smap .str es)) ∧ Seen (fun b => ∃ j, j < k ∧ eqT (l.getD j gr0).nm b = true) es
end Go.Abs
namespace Go.Abs
open Go.Proofs
end Go.Abs
namespace Go.Abs
open Go.Proofs
/-! StepMinutes; law 7 -/
end Go.Abs
namespace Go.Abs
open Go.Proofs
/-! sequences of grits -/
/-- the first error of so many -/
def fe (e : Nat → Int) : Nat → Int
  | 0 => 0
  | k + 1 => if fe e k ≠ 0 then fe e k else e k
theorem fe_stop {e : Nat → Int} {k : Nat} (h0 : fe e k = 0) (h : e k ≠ 0) : ∀ n, k < n → fe e n = e k := by
  intro n
  induction n with
  | zero => intro hn; omega
  | succ n ih =>
    intro hn
    rcases Nat.lt_succ_iff_lt_or_eq.1 hn with h1 | rfl
    · have := ih h1
      simp only [fe]
      rw [if_pos (by rw [this]; exact h), this]
    · simp only [fe]
      rw [if_neg (by rw [h0]; simp)]
theorem fe_next {e : Nat → Int} {k : Nat} (h0 : fe e k = 0) (h : e k = 0) : fe e (k + 1) = 0 := by
  simp only [fe]; rw [if_neg (by rw [h0]; simp), h]
theorem fe_all {e : Nat → Int} : ∀ {n : Nat}, fe e n = 0 → ∀ k, k < n → e k = 0
  | 0, _, k, hk => by omega
  | n + 1, h, k, hk => by
    simp only [fe] at h
    by_cases h0 : fe e n ≠ 0
    · rw [if_pos h0] at h; exact (h0 h).elim
    · rw [if_neg h0] at h
      rcases Nat.lt_succ_iff_lt_or_eq.1 hk with h1 | rfl
      · exact fe_all (by simpa using h0) k h1
      · exact h
theorem ceil_b {n d : Int} (hn : 0 ≤ n) (hd : 1 ≤ d) : 0 ≤ ceil n d ∧ ceil n d ≤ n := by
  unfold ceil
  have h1 := Int.mul_ediv_add_emod (-n) d
  have h2 := Int.emod_nonneg (-n) (show d ≠ 0 by omega)
  have h200 := Int.emod_lt_of_pos (-n) (show 0 < d by omega)
  have h201 : (-n) / d ≤ 0 := by
    rcases (by omega : (-n) / d ≤ 0 ∨ 1 ≤ (-n) / d) with h | h
    · exact h
    · have : d * 1 ≤ d * ((-n) / d) := Int.mul_le_mul_of_nonneg_left h (by omega)
      omega
  have h202 : -n ≤ (-n) / d := by
    have : d * ((-n) / d) ≤ 1 * ((-n) / d) := Int.mul_le_mul_of_nonpos_right hd h201
    rcases (by omega : -n ≤ (-n) / d ∨ (-n) / d ≤ -n - 1) with h | h
    · exact h
    · have h203 : d * ((-n) / d) ≤ d * (-n - 1) := Int.mul_le_mul_of_nonneg_left h (by omega)
      have h204 : d * (-n - 1) = d * (-n) - d := by rw [Int.mul_sub, Int.mul_one]
      have h205 : d * (-n) ≤ 1 * (-n) := Int.mul_le_mul_of_nonpos_right hd (by omega)
      omega
  omega
end Go.Abs
namespace Go.Abs
open Go.Proofs
/-! sequences compared -/
def cmpI (a b : Int) : Int := if a < b then -1 else if b < a then 1 else 0
def cme (p q : List Int) (k : Nat) : Int := cmpI (p.getD k 0) (q.getD k 0)
def cmpL (p q : List Int) : Int := fe (cme p q) p.length
end Go.Abs
namespace Go.Abs
open Go.Proofs
/-! CheckSequence of the reference -/
end Go.Abs
namespace Go.Abs
open Go.Proofs
/-! CheckSequence -/
end Go.Abs
namespace Go.Abs
open Go.Proofs
/-! GrindSequences -/
end Go.Abs
namespace Go.Abs
open Go.Proofs
/-! the best sequence -/
def GOk (l : List Gr) : Prop := ∀ k, k < l.length → (0 ≤ (l.getD k gr0).dm ∧ (l.getD k gr0).dm ≤ 1000000) ∧ 1 ≤ (l.getD k gr0).rt ∧ (l.getD k gr0).rt ≤ 100000
end Go.Abs
namespace Go.Abs
open Go.Proofs
/-! best: one round -/
/- a grit that is too coarse -/
end Go.Abs
namespace Go.Abs
open Go.Proofs
end Go.Abs
namespace Go.Abs
open Go.Proofs
end Go.Abs
namespace Go.Abs
open Go.Proofs
end Go.Abs
namespace Go.Abs
open Go.Proofs
/-! best -/
end Go.Abs
namespace Go.Abs
open Go.Proofs
/-! Shortest -/
end Go.Abs
namespace Go.Abs
open Go.Proofs
/-! Shortest, without the sequence -/
end Go.Abs
namespace Go.Abs
open Go.Proofs
/-! before of the reference; equal lists -/
theorem cmpI_lt {a b : Int} : decide (cmpI a b < 0) = decide (a < b) := by
  unfold cmpI
  by_cases h : a < b
  · rw [if_pos h]; simp [h]
  · rw [if_neg h]
    by_cases h2 : b < a
    · rw [if_pos h2]; simp [h]
    · rw [if_neg h2]; simp [h]
theorem cmpI_zero {a b : Int} : cmpI a b = 0 ↔ a = b := by
  unfold cmpI
  by_cases h : a < b
  · rw [if_pos h]; simp; omega
  · rw [if_neg h]
    by_cases h2 : b < a
    · rw [if_pos h2]; simp; omega
    · rw [if_neg h2]; simp; omega
end Go.Abs
namespace Go.Abs
open Go.Proofs
/-! not by rfl: simp takes a rule that holds by rfl twice, and a run of skipped operations then doubles its time with each -/
/-! a block may be frozen at any time -/
/-- blocks but for one are as they were, or frozen -/
structure Kp (id : Nat) (H H' : List Blk) : Prop where
  len : H.length ≤ H'.length
  cell : ∀ k n z els, k ≠ id → (∃ o, H[k]? = some (.cells o n z els)) → ∃ o, H'[k]? = some (.cells o n z els)
theorem Kp.refl (id : Nat) (H : List Blk) : Kp id H H := ⟨Nat.le_refl _, fun _ _ _ _ _ h => h⟩
theorem Kp.trans {id : Nat} {H H' H'' : List Blk} (h : Kp id H H') (h' : Kp id H' H'') : Kp id H H'' := ⟨Nat.le_trans h.len h'.len, fun k n z els hk hc => h'.cell k n z els hk (h.cell k n z els hk hc)⟩
theorem Kp.app (id : Nat) (H X : List Blk) : Kp id H (H ++ X) := ⟨by simp, fun k n z els _ ⟨o, h⟩ => ⟨o, by rw [List.getElem?_append_left (List.getElem?_eq_some_iff.1 h).1]; exact h⟩⟩
theorem Kp.set (id : Nat) (H : List Blk) (v : Blk) : Kp id H (H.set id v) := ⟨by simp, fun k n z els hk ⟨o, h⟩ => ⟨o, by rw [List.getElem?_set_ne (Ne.symm hk)]; exact h⟩⟩
end Go.Abs
namespace Go.Abs
open Go.Proofs
/-! try: the look at a sequence that is there -/
end Go.Abs
namespace Go.Abs
open Go.Proofs
/-! try: the look where there is one already -/
end Go.Abs
namespace Go.Abs
open Go.Proofs
/-! try: the look where there is one already -/
end Go.Abs
namespace Go.Abs
open Go.Proofs
/-! try: the look, all cases -/
end Go.Abs
namespace Go.Abs
open Go.Proofs
/-! try: one round -/
end Go.Abs
namespace Go.Abs
open Go.Proofs
/-! try -/
end Go.Abs
