import Derived.Test.YtodheeifecoebaaK7x
import Derived.Test.YtodheeifecoebaaK273x
set_option linter.all false
set_option linter.unusedVariables false
set_option linter.unusedSimpArgs false
set_option linter.unusedSectionVars false
namespace Go.Abs
open Go.Proofs
/-! spread: what it keeps (no program in sight) -/
/-- a search with its fathers: all cells below c are reached, and their neighbours -/
structure PcF (w : Int) (ph : List Int) (c : Nat) (o : List Nat) (h fr : Nat → Int) : Prop where
  fo : Fo ph.length (thN ph) (edN w ph) (stN ph) (Pf ph) o h fr
  bd : ∀ c, -(1000 + 500 * (o.length : Int)) ≤ h c ∧ h c ≤ 1000 + 500 * (o.length : Int)
  cl : Cl (edN w ph) o o.length
  al : ∀ b, b < c → thN ph b = true → b ∈ o
  ze : ∀ c, c ∉ o → h c = 0
theorem PcF.pc {w : Int} {ph : List Int} {c : Nat} {o : List Nat} {h fr : Nat → Int} (x : PcF w ph c o h fr) : Pc w ph c o h := ⟨⟨fr, x.fo⟩, x.bd, x.cl, x.al, x.ze⟩
/-- the neighbours of the first p cells are reached -/
structure Sp (w : Int) (ph : List Int) (o0 : List Nat) (p : Nat) (o : List Nat) (h fr : Nat → Int) : Prop where
  fo : Fo ph.length (thN ph) (edN w ph) (stN ph) (Pf ph) o h fr
  bd : ∀ c, -(1000 + 500 * (o.length : Int)) ≤ h c ∧ h c ≤ 1000 + 500 * (o.length : Int)
  pre : ∀ c, c ∈ o0 → c ∈ o
  cl : Cl (edN w ph) o p
  pl : p ≤ o.length
  ze : ∀ c, c ∉ o → h c = 0
/-- and those of the next cell that come first -/
structure Sq (w : Int) (ph : List Int) (o0 : List Nat) (p cell k : Nat) (o : List Nat) (h fr : Nat → Int) : Prop where
  sp : Sp w ph o0 p o h fr
  hc : o[p]? = some cell
  nb : ∀ j x, j < k → (tail146 w cell ph 0)[j]? = some x → x.toNat ∈ o
section
variable {w : Int} {ph : List Int} {o0 : List Nat} {p cell k : Nat} {o : List Nat} {h fr : Nat → Int}
theorem thN_lt {c : Nat} (h : thN ph c = true) : c < ph.length := by have := thereB_r h; omega
theorem tail_mem {x : Int} (hx : x ∈ tail146 w cell ph 0) (ht : thN ph cell = true) : ∃ b : Nat, x = b ∧ edN w ph cell b = true := by
  unfold tail146 at hx
  have h1 := (List.mem_filter.1 hx).2
  unfold nextB at h1
  simp only [Bool.and_eq_true] at h1
  have h2 := thereB_r h1.1
  refine ⟨x.toNat, by omega, ?_⟩
  unfold edN
  rw [show ((x.toNat : Nat) : Int) = x by omega]
  unfold thN at ht
  simp only [ht, h1.1, h1.2, Bool.and_self]
theorem tail_all {b : Nat} (he : edN w ph cell b = true) : (b : Int) ∈ tail146 w cell ph 0 := by
  unfold edN at he
  simp only [Bool.and_eq_true] at he
  unfold tail146
  refine List.mem_filter.2 ⟨?_, by unfold nextB; simp only [he.1.2, he.2, Bool.and_self]⟩
  have hb := he.2
  unfold besideB hi2 lo2 at hb
  simp only [Bool.or_eq_true, decide_eq_true_eq, Bool.and_eq_true] at hb
  unfold cands
  simp only [List.drop_zero, List.mem_cons, List.not_mem_nil, or_false]
  rcases hb with hb | ⟨hb, _⟩
  · split at hb <;> split at hb <;> omega
  · split at hb <;> split at hb <;> omega
theorem Sp.start (hs : Sp w ph o0 p o h fr) (hp : p < o.length) : Sq w ph o0 p (o.getD p 0) 0 o h fr :=
  ⟨hs, by rw [List.getD_eq_getElem?_getD, List.getElem?_eq_getElem hp]; rfl, fun j x hj => by omega⟩
theorem Sq.mem (hs : Sq w ph o0 p cell k o h fr) : cell ∈ o := List.mem_of_getElem? hs.hc
theorem Sq.lt (hs : Sq w ph o0 p cell k o h fr) : p < o.length := (List.getElem?_eq_some_iff.1 hs.hc).1
theorem Sq.th (hs : Sq w ph o0 p cell k o h fr) : thN ph cell = true := (hs.sp.fo.inn cell hs.mem).2
theorem Sq.next (hs : Sq w ph o0 p cell k o h fr) {x : Int} (hx : (tail146 w cell ph 0)[k]? = some x) : ∃ b : Nat, x = b ∧ edN w ph cell b = true ∧ b < ph.length := by
  obtain ⟨b, rfl, he⟩ := tail_mem (List.mem_of_getElem? hx) hs.th
  have hg := grid_gr w ph
  exact ⟨b, rfl, he, (hg.inn b cell (by rw [hg.sym]; exact he)).1⟩
theorem Sq.old (hs : Sq w ph o0 p cell k o h fr) {b : Nat} (hx : (tail146 w cell ph 0)[k]? = some (b : Int)) (hb : b ∈ o) : Sq w ph o0 p cell (k + 1) o h fr :=
  ⟨hs.sp, hs.hc, fun j x hj hjx => by
    rcases Nat.lt_succ_iff_lt_or_eq.1 hj with h | rfl
    · exact hs.nb j x h hjx
    · rw [hx] at hjx; cases hjx; simpa using hb⟩
theorem Sq.new (hs : Sq w ph o0 p cell k o h fr) {b : Nat} (hx : (tail146 w cell ph 0)[k]? = some (b : Int)) (hb : b ∉ o) :
    Sq w ph o0 p cell (k + 1) (o ++ [b]) (upd h b (h cell + stN ph cell b)) (upd fr b cell) := by
  obtain ⟨b', e, he, hbn⟩ := hs.next hx
  have : b = b' := by omega
  subst this
  have hg := grid_gr w ph
  have hin := hg.inn b cell (by rw [hg.sym]; exact he)
  have hpl := hs.lt
  obtain ⟨fo, bd, pre, cl, pl, ze⟩ := hs.sp
  have hl : (((o ++ [b]).length : Nat) : Int) = (o.length : Int) + 1 := by simp
  have hget : ∀ i, i < o.length → (o ++ [b])[i]? = o[i]? := fun i hi => List.getElem?_append_left hi
  refine ⟨⟨fo.add hb hin (.inr ⟨cell, hs.mem, rfl, he, rfl⟩), fun c => ?_, fun c hc => List.mem_append_left _ (pre c hc), fun i a c hi ha hac => ?_, by simp; omega, fun c hc => ?_⟩, ?_, fun j x hj hjx => ?_⟩
  · have hst := stepI_r ph (cell : Int) (b : Int)
    have h1 := bd cell
    have h2 := bd c
    have h3 : stN ph cell b = stepI ph cell b := rfl
    rw [hl, h3]
    unfold upd
    split
    · show _ ∧ _; omega
    · omega
  · rw [hget i (by omega)] at ha
    exact List.mem_append_left _ (cl i a c hi ha hac)
  · simp only [List.mem_append, List.mem_singleton, not_or] at hc
    rw [upd_ne _ hc.2]; exact ze c hc.1
  · rw [hget p hpl]; exact hs.hc
  · rcases Nat.lt_succ_iff_lt_or_eq.1 hj with h | rfl
    · exact List.mem_append_left _ (hs.nb j x h hjx)
    · rw [hx] at hjx; cases hjx; simp
theorem Sq.done (hs : Sq w ph o0 p cell (tail146 w cell ph 0).length o h fr) : Sp w ph o0 (p + 1) o h fr := by
  have hpl := hs.lt
  obtain ⟨fo, bd, pre, cl, pl, ze⟩ := hs.sp
  refine ⟨fo, bd, pre, fun i a b hi ha hab => ?_, by omega, ze⟩
  rcases Nat.lt_succ_iff_lt_or_eq.1 hi with h | rfl
  · exact cl i a b h ha hab
  · have : a = cell := by have := hs.hc; rw [ha] at this; exact Option.some.inj this
    subst this
    obtain ⟨j, hj, hjb⟩ := List.mem_iff_getElem.1 (tail_all hab)
    have := hs.nb j b hj (by rw [List.getElem?_eq_getElem hj, hjb])
    simpa using this
/-- the first cell of a region -/
theorem PcF.first {c : Nat} (hs : PcF w ph c o h fr) (hco : c ∉ o) (ht : thN ph c = true) (hb : 0 ≤ ph.getD c 0 ∧ ph.getD c 0 ≤ 1000) :
    Sp w ph (o ++ [c]) o.length (o ++ [c]) (upd h c (ph.getD c 0)) (upd fr c (-1)) := by
  have hl : (((o ++ [c]).length : Nat) : Int) = (o.length : Int) + 1 := by simp
  refine ⟨hs.fo.add hco ⟨thN_lt ht, ht⟩ (.inl ⟨rfl, rfl, hs.cl.root hs.al hco ht⟩), fun x => ?_, fun _ h => h, fun i a b hi ha hab => ?_, by simp, fun x hx => ?_⟩
  · have hbx := hs.bd x
    rw [hl]
    unfold upd
    split <;> omega
  · rw [List.getElem?_append_left hi] at ha
    exact List.mem_append_left _ (hs.cl i a b hi ha hab)
  · simp only [List.mem_append, List.mem_singleton, not_or] at hx
    rw [upd_ne _ hx.2]; exact hs.ze x hx.1
theorem Sp.last {c : Nat} (hs : Sp w ph o0 p o h fr) (hp : o.length ≤ p) (ha : ∀ b, b < c → thN ph b = true → b ∈ o0) (hc : c ∈ o0) : PcF w ph (c + 1) o h fr := by
  have e : p = o.length := Nat.le_antisymm hs.pl hp
  refine ⟨hs.fo, hs.bd, e ▸ hs.cl, fun b hb ht => hs.pre b ?_, hs.ze⟩
  rcases Nat.lt_succ_iff_lt_or_eq.1 hb with h | rfl
  · exact ha b h ht
  · exact hc
end
end Go.Abs
