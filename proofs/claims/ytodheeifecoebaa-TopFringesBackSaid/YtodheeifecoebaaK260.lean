set_option linter.all false
set_option linter.unusedVariables false
set_option linter.unusedSimpArgs false
set_option linter.unusedSectionVars false
namespace Go.Abs
/-! FORESTS: what a search over cells finds (no program in sight) -/
structure Gr (n : Nat) (th : Nat → Bool) (ed : Nat → Nat → Bool) (st : Nat → Nat → Int) : Prop where
  sym : ∀ a b, ed a b = ed b a
  anti : ∀ a b, ed a b = true → st b a = -st a b
  inn : ∀ a b, ed a b = true → a < n ∧ th a = true
inductive Cn (ed : Nat → Nat → Bool) : Nat → Nat → Prop where
  | refl (a : Nat) : Cn ed a a
  | step {a b c : Nat} : Cn ed a b → ed b c = true → Cn ed a c
theorem Cn.trans {ed : Nat → Nat → Bool} {a b c : Nat} (h1 : Cn ed a b) (h2 : Cn ed b c) : Cn ed a c := by
  induction h2 with
  | refl => exact h1
  | step _ h ih => exact ih.step h
theorem Cn.symm {ed : Nat → Nat → Bool} (hs : ∀ a b, ed a b = ed b a) {a b : Nat} (h : Cn ed a b) : Cn ed b a := by
  induction h with
  | refl => exact .refl _
  | step _ h ih => exact ((Cn.refl _).step (by rw [hs]; exact h)).trans ih
/-- the first cell of its region -/
def Rt (th : Nat → Bool) (ed : Nat → Nat → Bool) (c : Nat) : Prop := th c = true ∧ ∀ b, b < c → th b = true → ¬Cn ed b c
/-- cells in the order in which they were reached -/
structure Fo (n : Nat) (th : Nat → Bool) (ed : Nat → Nat → Bool) (st : Nat → Nat → Int) (ph : Nat → Int) (o : List Nat) (h fr : Nat → Int) : Prop where
  nd : o.Nodup
  inn : ∀ c ∈ o, c < n ∧ th c = true
  tr : ∀ (i : Nat) (c : Nat), o[i]? = some c → (fr c = -1 ∧ h c = ph c ∧ Rt th ed c) ∨ ∃ j a, j < i ∧ o[j]? = some a ∧ fr c = a ∧ ed a c = true ∧ h c = h a + st a c
def Cl (ed : Nat → Nat → Bool) (o : List Nat) (m : Nat) : Prop := ∀ (i a b : Nat), i < m → o[i]? = some a → ed a b = true → b ∈ o
def upd (f : Nat → Int) (c : Nat) (v : Int) : Nat → Int := fun x => if x = c then v else f x
theorem upd_self (f : Nat → Int) (c : Nat) (v : Int) : upd f c v c = v := by simp [upd]
theorem upd_ne {f : Nat → Int} {c x : Nat} (v : Int) (h : x ≠ c) : upd f c v x = f x := by simp [upd, h]
theorem nodupLe : ∀ (K : Nat) (l : List Nat), l.Nodup → (∀ v ∈ l, v < K) → l.length ≤ K
  | 0, l, _, h => by
    cases l with
    | nil => simp
    | cons a r => have := h a (by simp); omega
  | K + 1, l, hn, h => by
    have h1 := nodupLe K (l.erase K) (hn.erase K) (fun v hv => by
      have h2 := h v (List.mem_of_mem_erase hv)
      have h3 : v ≠ K := fun e => by subst e; exact (List.Nodup.not_mem_erase hn) hv
      omega)
    have h2 : l.length ≤ (l.erase K).length + 1 := by
      by_cases hK : K ∈ l
      · rw [List.length_erase_of_mem hK]; omega
      · rw [List.erase_of_not_mem hK]; omega
    omega
section
variable {n : Nat} {th : Nat → Bool} {ed : Nat → Nat → Bool} {st : Nat → Nat → Int} {ph : Nat → Int} {o : List Nat} {h fr : Nat → Int}
theorem Fo.nil : Fo n th ed st ph [] h fr := ⟨List.nodup_nil, fun c hc => by simp at hc, fun i c hc => by simp at hc⟩
theorem Fo.len (hf : Fo n th ed st ph o h fr) : o.length ≤ n := nodupLe n o hf.nd fun v hv => (hf.inn v hv).1
theorem Fo.add (hf : Fo n th ed st ph o h fr) {c : Nat} (hc : c ∉ o) (hn : c < n ∧ th c = true) {v f : Int}
    (hv : (f = -1 ∧ v = ph c ∧ Rt th ed c) ∨ ∃ a, a ∈ o ∧ f = a ∧ ed a c = true ∧ v = h a + st a c) : Fo n th ed st ph (o ++ [c]) (upd h c v) (upd fr c f) := by
  have hne : ∀ x, x ∈ o → x ≠ c := fun x hx e => hc (e ▸ hx)
  refine ⟨?_, fun x hx => ?_, fun i x hx => ?_⟩
  · rw [List.nodup_append]
    exact ⟨hf.nd, by simp, fun a ha b hb => by simp at hb; subst hb; exact hne a ha⟩
  · rcases List.mem_append.1 hx with hx | hx
    · exact hf.inn x hx
    · simp at hx; subst hx; exact hn
  · by_cases hi : i < o.length
    · rw [List.getElem?_append_left hi] at hx
      have hxo := List.mem_of_getElem? hx
      rcases hf.tr i x hx with ⟨h1, h2, h3⟩ | ⟨j, a, h1, h2, h3, h4, h5⟩
      · exact .inl ⟨by rw [upd_ne _ (hne x hxo)]; exact h1, by rw [upd_ne _ (hne x hxo)]; exact h2, h3⟩
      · have hao := List.mem_of_getElem? h2
        exact .inr ⟨j, a, h1, by rw [List.getElem?_append_left (by omega)]; exact h2, by rw [upd_ne _ (hne x hxo)]; exact h3, h4, by rw [upd_ne _ (hne x hxo), upd_ne _ (hne a hao)]; exact h5⟩
    · rw [List.getElem?_append_right (by omega)] at hx
      have hi0 : i - o.length = 0 := by
        cases hd : i - o.length with
        | zero => rfl
        | succ k => rw [hd] at hx; simp at hx
      rw [hi0] at hx
      simp at hx
      subst hx
      rcases hv with ⟨h1, h2, h3⟩ | ⟨a, h1, h2, h3, h4⟩
      · exact .inl ⟨by rw [upd_self]; exact h1, by rw [upd_self]; exact h2, h3⟩
      · obtain ⟨j, hj, hja⟩ := List.mem_iff_getElem.1 h1
        exact .inr ⟨j, a, by omega, by rw [List.getElem?_append_left hj, List.getElem?_eq_getElem hj, hja], by rw [upd_self]; exact h2, h3, by rw [upd_self, upd_ne _ (hne a h1)]; exact h4⟩
theorem Cl.mem (hcl : Cl ed o o.length) {a b : Nat} (ha : a ∈ o) (h : Cn ed a b) : b ∈ o := by
  induction h with
  | refl => exact ha
  | step _ h ih =>
    obtain ⟨i, hi, hia⟩ := List.mem_iff_getElem.1 ih
    exact hcl i _ _ hi (by rw [List.getElem?_eq_getElem hi, hia]) h
/-- a cell that is not reached in its turn is a first one -/
theorem Cl.root (hcl : Cl ed o o.length) {c : Nat} (hb : ∀ b, b < c → th b = true → b ∈ o) (hc : c ∉ o) (ht : th c = true) : Rt th ed c :=
  ⟨ht, fun b hbc htb hcn => hc (hcl.mem (hb b hbc htb) hcn)⟩
def PotG (ed : Nat → Nat → Bool) (st : Nat → Nat → Int) (h : Nat → Int) : Prop := ∀ a b, ed a b = true → h b - h a = st a b
/-- first cells are reached as such -/
theorem Fo.root (hf : Fo n th ed st ph o h fr) {c : Nat} (hc : c ∈ o) (hr : Rt th ed c) (hs : ∀ a b, ed a b = ed b a) : h c = ph c := by
  have key : ∀ (i : Nat) (x : Nat), o[i]? = some x → ∃ k r, k ≤ i ∧ o[k]? = some r ∧ Rt th ed r ∧ Cn ed r x := by
    intro i
    induction i using Nat.strongRecOn with
    | _ i ih =>
      intro x hx
      rcases hf.tr i x hx with ⟨h1, h2, h3⟩ | ⟨j, a, h1, h2, h3, h4, h5⟩
      · exact ⟨i, x, Nat.le_refl _, hx, h3, .refl _⟩
      · obtain ⟨k, r, h6, h7, h8, h9⟩ := ih j h1 a h2
        exact ⟨k, r, by omega, h7, h8, h9.step h4⟩
  obtain ⟨i, hi, hic⟩ := List.mem_iff_getElem.1 hc
  have hic' : o[i]? = some c := by rw [List.getElem?_eq_getElem hi, hic]
  rcases hf.tr i c hic' with ⟨_, h2, _⟩ | ⟨j, a, h1, h2, _, h4, _⟩
  · exact h2
  · obtain ⟨k, r, h6, h7, h8, h9⟩ := key j a h2
    have h10 := h9.step h4
    have hne : r ≠ c := fun e => by
      subst e
      have := (List.getElem_inj (h₀ := (List.getElem?_eq_some_iff.1 h7).1) (h₁ := hi) hf.nd).1 (by rw [hic]; exact (List.getElem?_eq_some_iff.1 h7).2)
      omega
    rcases Nat.lt_or_gt_of_ne hne with hlt | hgt
    · exact (hr.2 r hlt h8.1 h10).elim
    · exact (h8.2 c hgt hr.1 (h10.symm hs)).elim
/-- where the steps agree with heights, all heights are those -/
theorem Fo.same (hf : Fo n th ed st ph o h fr) {g : Nat → Int} (hp : PotG ed st g) (hg : ∀ c, c ∈ o → Rt th ed c → g c = ph c) : ∀ c, c ∈ o → h c = g c := by
  have key : ∀ (i : Nat) (x : Nat), o[i]? = some x → h x = g x := by
    intro i
    induction i using Nat.strongRecOn with
    | _ i ih =>
      intro x hx
      rcases hf.tr i x hx with ⟨_, h2, h3⟩ | ⟨j, a, h1, h2, _, h4, h5⟩
      · rw [h2, hg x (List.mem_of_getElem? hx) h3]
      · have := hp a x h4
        rw [h5, ih j h1 a h2]; omega
  intro c hc
  obtain ⟨i, hi, hic⟩ := List.mem_iff_getElem.1 hc
  exact key i c (by rw [List.getElem?_eq_getElem hi, hic])
/-- two searches: if one's heights agree with all steps they are the other's -/
theorem Fo.two {o' : List Nat} {h' fr' : Nat → Int} (hs : ∀ a b, ed a b = ed b a) (hf : Fo n th ed st ph o h fr) (hf' : Fo n th ed st ph o' h' fr') (hall : ∀ c, c < n → th c = true → c ∈ o) (hp : PotG ed st h) : ∀ c, c ∈ o' → h' c = h c :=
  hf'.same hp fun c hc hr => hf.root (hall c (hf'.inn c hc).1 (hf'.inn c hc).2) hr hs
end
end Go.Abs
