import Derived.Test.YtodheeifecoebaaPCmin
import Derived.Test.YtodheeifecoebaaK40x
import Derived.Shelf.RegionOpenPlain
import Derived.WalkKit
import Derived.Deep.LoopGhost
import Derived.Deep.RegionLaw
import Derived.Lib.Walk
import Derived.Lib.SliceRun
set_option linter.all false
set_option linter.unusedVariables false
set_option linter.unusedSimpArgs false
set_option linter.unusedSectionVars false
namespace Go.Abs
open Go.Shelf Go.RowKit Go.Lib Go.Proofs
/-! slices.Delete of readings, in the model itself -/
abbrev z4 : List Value := [.int .i64 0, .int .i64 0, .int .i64 0, .int .i64 0]
theorem run_clear4 (w : World) (ty : TypeId) (b o c : Nat) (hc : ∀ j, j < 4 → (w.cell? ⟨b, o + j, none⟩).isSome = true) (hf : ∀ j, j < 4 → w.frozen? ⟨b, o + j, none⟩ = false) :
    (Builtin.clear_ #[42] ty #[.slice (some ⟨b, o, none⟩) 1 c]).run Try.prog w = .ok (.tuple #[]) (w.setCells b o z4) := by
  have hzc : (Builtin.zeroCells (Value.agg #[.int .i64 0, .int .i64 0, .int .i64 0, .int .i64 0]).cells 1).toList = z4 := by
    first | (simp [Builtin.zeroCells, Value.cells]; done) | (unfold Builtin.zeroCells; decide) | (unfold Builtin.zeroCells; simp [Value.cells]; rfl)
  have hst := run_storeCells_cells (P := Try.prog) b o z4 0 w (by simpa using hc) (by simpa using hf) (by intro v hv; simp at hv; subst hv; rfl)
  simp only [Nat.add_zero] at hst
  simp [Builtin.clear_, run_underlying Try.underlying42, hzc, hst]
set_option maxHeartbeats 4000000 in
set_option maxRecDepth 1000000 in
theorem del130 (b off cap i j n : Nat) (vs : List Value) (w : World) (hl : vs.length = 4 * n) (hc : ∀ t u, vs[t]? = some u → w.cell? ⟨b, off + t, none⟩ = some u) (h1 : ∀ u ∈ vs, u.oneCell' = true) (hf : ∀ t, t < 4 * n → w.frozen? ⟨b, off + t, none⟩ = false) (hj : j = i + 1) (hi : i < n) (hcap : n ≤ cap) :
    Calls Try.prog 130 #[.slice (some ⟨b, off, none⟩) n cap, .int .i64 i, .int .i64 j] w fun e w' => e = .returned (.slice (some ⟨b, off, none⟩) (n - 1) cap) ∧ ∃ q, w' = ((w.drewN q).setCells b (off + i * 4) (vs.drop (4 * j))).setCells b (off + (n - 1) * 4) z4 := by
  obtain ⟨news, hnews⟩ : ∃ news, news = vs.drop (4 * j) := ⟨_, rfl⟩
  have hlen : news.length = (n - j) * 4 := by rw [hnews]; simp [hl]; omega
  obtain ⟨i0, hi0, hz1⟩ : ∃ i0, Try.prog.info? 106 = some i0 ∧ i0.size = 4 := by
    have h4 : (Try.prog.info? 106).map (·.size) = some 4 := by kernel_rfl
    cases h : Try.prog.info? 106 with
    | none => rw [h] at h4; simp at h4
    | some i0 => rw [h] at h4; exact ⟨i0, rfl, by simpa using h4⟩
  have hget : ∀ t u, news[t]? = some u → w.drew.cell? ⟨b, off + j * 4 + t, none⟩ = some u := by
    intro t u hu
    rw [hnews, List.getElem?_drop] at hu
    have := hc _ _ hu
    rw [show off + j * 4 + t = off + (4 * j + t) by omega]
    exact this
  obtain ⟨A, hA, hsrc⟩ : ∃ A : Addr, (if cap = j then some (⟨b, off, none⟩ : Addr) else some ⟨b, off + j * 4, none⟩) = some A ∧ Hid (∀ t u, news[t]? = some u → w.drew.cell? (A.add t) = some u) := by
    by_cases h : cap = j
    · refine ⟨⟨b, off, none⟩, by simp [h], fun t u hu => ?_⟩
      have h0 : news.length = 0 := by rw [hlen]; omega
      rw [List.length_eq_zero_iff.1 h0] at hu
      simp at hu
    · refine ⟨⟨b, off + j * 4, none⟩, by simp [h], fun t u hu => ?_⟩
      rw [Addr.add_lit]
      exact hget t u hu
  have s1 : Hid (news.length = (n - j) * 4) := hlen
  have s2 : Hid (∀ u ∈ news, u.oneCell' = true) := by
    intro u hu
    rw [hnews] at hu
    exact h1 u (List.mem_of_mem_drop hu)
  have hsome : ∀ t, t < 4 * n → (w.cell? ⟨b, off + t, none⟩).isSome = true := by
    intro t ht
    obtain ⟨u, hu⟩ : ∃ u, vs[t]? = some u := ⟨vs[t]'(by omega), List.getElem?_eq_getElem (by omega)⟩
    rw [hc t u hu]; rfl
  have s3 : Hid (∀ t, t < news.length → (w.drew.cell? ⟨b, off + i * 4 + t, none⟩).isSome = true ∧ w.drew.frozen? ⟨b, off + i * 4 + t, none⟩ = false) := by
    intro t ht
    rw [hlen] at ht
    rw [Nat.add_assoc]
    exact ⟨hsome (i * 4 + t) (by omega), hf (i * 4 + t) (by omega)⟩
  obtain ⟨W1, hW1⟩ : ∃ W1, W1 = w.drew.setCells b (off + i * 4) news := ⟨_, rfl⟩
  have hW : Hid (W1 = w.drew.setCells b (off + i * 4) news) := hW1
  have X : Aside (W1 = w.drew.setCells b (off + i * 4) news) := hW1
  have hcl : ∀ ty, (Builtin.clear_ #[42] ty #[.slice (some ⟨b, off + (i + (n - j)) * 4, none⟩) (n - (i + (n - j))) (cap - (i + (n - j)))]).run Try.prog W1 = .ok (.tuple #[]) (W1.setCells b (off + (i + (n - j)) * 4) z4) := by
    intro ty
    rw [show n - (i + (n - j)) = 1 by omega]
    refine run_clear4 W1 ty b _ _ (fun t ht => ?_) (fun t ht => ?_)
    · rw [hW1, Nat.add_assoc, World.cell?_setCells_out b _ _ _ _ (fun _ _ => ?_)]
      · exact hsome _ (by omega)
      · right; dsimp only; rw [hlen]; omega
    · rw [hW1, Nat.add_assoc, World.frozen?_setCells]
      exact hf _ (by omega)
  have hic : i ≤ cap := by omega
  have hjc : j ≤ cap := by omega
  have t22 := Try.underlying42
  have mixed : Try.prog.follows Departure.mixedOrders = true := by kernel_rfl
  have hij : ¬ i = j := by omega
  have hjn : j ≤ n := by omega
  have hlt : i < j := by omega
  have hjh : Hid (j = i + 1) := hj
  have hnh : Hid (news = vs.drop (4 * j)) := hnews
  have hsh : Hid (∀ t, t < 4 * n → (w.cell? ⟨b, off + t, none⟩).isSome = true) := hsome
  have hfh : Hid (∀ t, t < 4 * n → w.frozen? ⟨b, off + t, none⟩ = false) := hf
  clear hj
  clear hW1 hget hnews hlen hc h1 hf hsome hl
  go_enter Try.func130, Try.ntmps130
  go_wp2_with fail
  go_region_law_o (refine step_append_room rfl (.tmp 22) (.tmp 25) 42 rfl 106 i0 4 t22 hi0 hz1 b off i cap (by simp [Act.eval, Act.put]) A (n - j) (cap - j) news (by simp [Act.eval, Act.put]) s1.out hsrc.out s2.out (by omega) s3.out ?_; rw [← hW.out])
  go_wp2
  go_ret
  refine ⟨by rw [show n - 1 = i + (n - j) by have := hjh.out; omega]; rfl, 1, ?_⟩
  rw [X.out, hnh.out, show n - 1 = i + (n - j) by have := hjh.out; omega]
  rfl
end Go.Abs
namespace Go.Abs
open Go.Proofs
/-! slices.Delete upon a list of ours: one reading is left out, the last place is emptied -/
abbrev zrow : List AV := [i64 0, i64 0, i64 0, i64 0]
def rvals (r : Rd) : List Value := [.int .i64 r.a, .int .i64 r.b, .int .i64 r.lo, .int .i64 r.hi]
def lvals (L : List Rd) : List Value := L.flatMap rvals
theorem lvals_len (L : List Rd) : (lvals L).length = 4 * L.length := by
  induction L with
  | nil => rfl
  | cons r L ih => unfold lvals at *; simp [rvals, ih]; omega
theorem lvals_get {L : List Rd} {k q : Nat} (hk : k < L.length) (hq : q < 4) : (lvals L)[4 * k + q]? = (rvals (L.getD k rd0))[q]? := by
  induction L generalizing k with
  | nil => simp at hk
  | cons r L ih =>
    have e : lvals (r :: L) = rvals r ++ lvals L := rfl
    have hr : (rvals r).length = 4 := rfl
    rw [e]
    cases k with
    | zero => rw [List.getElem?_append_left (by omega)]; simp
    | succ k =>
      rw [List.getElem?_append_right (by omega), hr, show 4 * (k + 1) + q - 4 = 4 * k + q by omega, ih (by simpa using hk)]
      simp
theorem lvals_one {L : List Rd} : ∀ u ∈ lvals L, u.oneCell' = true := by
  intro u hu
  unfold lvals at hu
  obtain ⟨r, _, h⟩ := List.mem_flatMap.1 hu
  simp [rvals] at h
  rcases h with rfl | rfl | rfl | rfl <;> rfl
theorem erase_get {L : List Rd} {i k : Nat} (hk : k < L.length - 1) (hi : i < L.length) : (L.eraseIdx i).getD k rd0 = if k < i then L.getD k rd0 else L.getD (k + 1) rd0 := by
  simp only [List.getD_eq_getElem?_getD, List.getElem?_eraseIdx]
  split <;> rfl
theorem cellsAt_rd {C : Ctx} {b off : Nat} {r : Rd} : CellsAt C b off (rrow r) ↔ ∀ q v, (rvals r)[q]? = some v → C.w.cell? ⟨b, off + q, none⟩ = some v := by
  constructor
  · intro h q v hq
    obtain ⟨us, h1, h2, _, _⟩ := h.vals
    simp only [ConcL, Conc] at h1
    obtain ⟨u0, us0, rfl, rfl, u1, us1, rfl, rfl, u2, us2, rfl, rfl, u3, us3, rfl, rfl, rfl⟩ := h1
    exact h2 q v hq
  · intro h
    have h0 := h 0 _ rfl
    have h1 := h 1 _ rfl
    have h2 := h 2 _ rfl
    have h3 := h 3 _ rfl
    simp only [CellsAt, Conc]
    exact ⟨⟨_, h0, rfl, rfl, rfl⟩, ⟨_, h1, rfl, rfl, rfl⟩, ⟨_, h2, rfl, rfl, rfl⟩, ⟨_, h3, rfl, rfl, rfl⟩, trivial⟩
theorem Wrote.trans {w1 w2 w3 : World} {b : Nat} (h1 : Wrote w1 w2 b) (h2 : Wrote w2 w3 b) : Wrote w1 w3 b :=
  ⟨h2.os.trans h1.os, h2.tape.trans h1.tape, h2.output.trans h1.output, h2.size.trans h1.size, fun k hk => (h2.other k hk).trans (h1.other k hk), fun c e f h => by
    obtain ⟨c', h3, h4⟩ := h1.here c e f h
    obtain ⟨c2, h5, h6⟩ := h2.here _ _ _ h3
    exact ⟨c2, h5, h6.trans h4⟩⟩
theorem wrote_drewN (w : World) (q b : Nat) : Wrote w (w.drewN q) b := ⟨rfl, rfl, rfl, rfl, fun _ _ => rfl, fun c e f h => ⟨c, h, rfl⟩⟩
theorem a130 {H : List Blk} {id n i : Nat} {L : List Rd} (hH : H[id]? = some (.cells true false 4 (rows4 L))) (hn : L.length = n) (hi : i < n) (hb : n ≤ 1000000) :
    ACall Try.prog 130 [.lsl id 0 n, i64 i, i64 ((i + 1 : Nat) : Int)] H fun r H' => r = .lsl id 0 (n - 1) ∧ H' = H.set id (.cells true false 4 (rows4 (L.eraseIdx i) ++ [zrow])) := by
  have hf : Try.prog.funcs[130]? = some Try.f130 := Try.func130
  refine ⟨fun cargs w => callFunc_ok hf (by kernel_rfl) (by kernel_rfl) _ _, fun C cargs hC hR hl => ?_⟩
  subst hC
  simp only [ConcL, Conc, hH] at hl
  obtain ⟨u0, us, rfl, hx, u1, us1, rfl, rfl, u2, us2, rfl, rfl, rfl⟩ := hl
  rcases hx with ⟨h, _⟩ | ⟨_, h, _⟩ | ⟨_, b, base, cap, c, e, f, hm, hblk, rfl, h5, h6, h7⟩
  · simp at h
  · omega
  obtain ⟨hr0, c0, e0, hb0⟩ : RowsAt C b base 4 (rows4 L) ∧ ∃ c e, C.w.heap[b]? = some (.cells c e (0, 0)) := by
    rcases hR.blk id true false 4 _ hH with ⟨h, _⟩ | ⟨_, b', base', c, e, h1, _, h2, h3⟩
    · rw [hm] at h; simp at h
    · rw [hm] at h1; simp at h1; obtain ⟨rfl, rfl⟩ := h1; exact ⟨h3, c, e, h2⟩
  rw [Nat.zero_mul, Nat.add_zero]
  have hrow : ∀ k, k < n → ∀ q v, (rvals (L.getD k rd0))[q]? = some v → C.w.cell? ⟨b, base + k * 4 + q, none⟩ = some v := fun k hk q v hq => by
    have hk2 : (rows4 L)[k]? = some (rrow (L.getD k rd0)) := by simp [rows4, List.getD_eq_getElem?_getD, hn, hk]
    exact cellsAt_rd.1 (hr0.get hk2).2 q v hq
  have hvl := lvals_len L
  have hcells : ∀ t u, (lvals L)[t]? = some u → C.w.cell? ⟨b, base + t, none⟩ = some u := fun t u ht => by
    have htl := (List.getElem?_eq_some_iff.1 ht).1
    have e1 : t = 4 * (t / 4) + t % 4 := by omega
    rw [e1] at ht ⊢
    rw [lvals_get (by omega) (by omega)] at ht
    have := hrow (t / 4) (by omega) (t % 4) u ht
    rw [show base + (4 * (t / 4) + t % 4) = base + t / 4 * 4 + t % 4 by omega]
    exact this
  have hsome : ∀ t, t < 4 * n → (C.w.cell? ⟨b, base + t, none⟩).isSome = true := fun t ht => by
    rw [hcells t _ (List.getElem?_eq_getElem (by omega))]; rfl
  refine (del130 b base cap i (i + 1) n (lvals L) C.w (by omega) hcells lvals_one (fun t _ => frozen_of_block hb0) rfl hi (by omega)).mono fun ex w' ⟨he, q, hw'⟩ => ?_
  have hid := lt_of_get hH
  have hnl : ((lvals L).drop (4 * (i + 1))).length = 4 * (n - 1 - i) := by simp [hvl]; omega
  have hcD : ∀ x, (C.w.drewN q).cell? x = C.w.cell? x := fun x => rfl
  have hel : (L.eraseIdx i).length = n - 1 := by rw [List.length_eraseIdx]; split <;> omega
  have hlen' : (rows4 (L.eraseIdx i) ++ [zrow]).length = (rows4 L).length := by simp [rows4, hel]; omega
  have hW : Wrote C.w w' b := by
    rw [hw']
    exact ((wrote_drewN _ q b).trans (wrote_setCells _ b _ _)).trans (wrote_setCells _ b _ _)
  -- the cells afterwards
  have cA : ∀ k, k < n - 1 → ∀ p v, (rvals ((L.eraseIdx i).getD k rd0))[p]? = some v → w'.cell? ⟨b, base + k * 4 + p, none⟩ = some v := fun k hk p v hp => by
    have hp4 : p < 4 := (List.getElem?_eq_some_iff.1 hp).1
    rw [erase_get (by omega) (by omega)] at hp
    rw [hw', World.cell?_setCells_out b z4 _ _ _ (fun _ _ => .inl (by dsimp only; omega))]
    by_cases hki : k < i
    · rw [if_pos hki] at hp
      rw [World.cell?_setCells_out b _ _ _ _ (fun _ _ => .inl (by dsimp only; omega)), hcD]
      exact hrow k (by omega) p v hp
    · rw [if_neg hki] at hp
      have hj : 4 * (k - i) + p < ((lvals L).drop (4 * (i + 1))).length := by rw [hnl]; omega
      have h1 := World.cell?_setCells_in b ((lvals L).drop (4 * (i + 1))) (base + i * 4) (C.w.drewN q) (fun j hj2 => by
        rw [hcD, Nat.add_assoc]; exact hsome _ (by rw [hnl] at hj2; omega)) (4 * (k - i) + p) hj
      rw [show base + k * 4 + p = base + i * 4 + (4 * (k - i) + p) by omega, h1, ← List.getElem?_eq_getElem hj, List.getElem?_drop, show 4 * (i + 1) + (4 * (k - i) + p) = 4 * (k + 1) + p by omega, lvals_get (by omega) hp4]
      exact hp
  have cZ : ∀ p v, (rvals rd0)[p]? = some v → w'.cell? ⟨b, base + (n - 1) * 4 + p, none⟩ = some v := fun p v hp => by
    have hp4 : p < 4 := (List.getElem?_eq_some_iff.1 hp).1
    have h1 := World.cell?_setCells_in b z4 (base + (n - 1) * 4) ((C.w.drewN q).setCells b (base + i * 4) ((lvals L).drop (4 * (i + 1)))) (fun j hj2 => by
      simp only [List.length_cons, List.length_nil] at hj2
      rw [World.cell?_setCells_out b _ _ _ _ (fun _ _ => .inr (by rw [hnl]; dsimp only; omega)), hcD, Nat.add_assoc]
      exact hsome _ (by omega)) p (by simpa using hp4)
    rw [hw', h1, ← List.getElem?_eq_getElem (by simpa using hp4)]
    exact hp
  have hwr := write_ok hR hH hm hW (fr := id) (base' := base) (els' := rows4 (L.eraseIdx i) ++ [zrow]) (.inl ⟨rfl, hlen', rfl⟩) (fun C' hs hw => RowsAt.of fun k r hr => by
    have hkl := (List.getElem?_eq_some_iff.1 hr).1
    have hrl : (rows4 (L.eraseIdx i)).length = n - 1 := by rw [rows4_len, hel]
    by_cases hk : k < n - 1
    · rw [List.getElem?_append_left (by omega)] at hr
      have hr2 : r = rrow ((L.eraseIdx i).getD k rd0) := by
        have : (rows4 (L.eraseIdx i))[k]? = some (rrow ((L.eraseIdx i).getD k rd0)) := by simp [rows4, List.getD_eq_getElem?_getD, hel, hk]
        rw [this] at hr
        exact (Option.some.inj hr).symm
      subst hr2
      refine ⟨rfl, cellsAt_rd.2 fun p v hp => ?_⟩
      rw [hw]
      exact cA k hk p v hp
    · simp only [List.length_append, hrl, List.length_cons, List.length_nil] at hkl
      have hke : k = n - 1 := by omega
      subst hke
      rw [List.getElem?_append_right (by omega), hrl, Nat.sub_self] at hr
      obtain rfl := Option.some.inj hr
      refine ⟨rfl, (cellsAt_rd (r := rd0)).2 fun p v hp => ?_⟩
      rw [hw]
      exact cZ p v hp)
  have e1 : (C.H.set id .dead).set id (.cells true false 4 (rows4 (L.eraseIdx i) ++ [zrow])) = C.H.set id (.cells true false 4 (rows4 (L.eraseIdx i) ++ [zrow])) := by simp
  rw [e1] at hwr
  refine ⟨_, _, _, _, he, ⟨rfl, rfl⟩, hwr.1, hwr.2, ?_⟩
  simp only [Conc]
  rw [List.getElem?_set_self hid]
  dsimp only
  obtain ⟨c', hb1, hb2⟩ := hW.here _ _ _ hblk
  refine .inr (.inr ⟨rfl, b, base, cap, c', e, f, ?_, hb1, by simp, ?_, by omega, by rw [hb2]; omega⟩)
  · have hml : id < C.m.length := by rw [hR.len]; exact hid
    rw [List.getElem?_set_self hml]
  · simp [rows4_len, hel]
end Go.Abs
