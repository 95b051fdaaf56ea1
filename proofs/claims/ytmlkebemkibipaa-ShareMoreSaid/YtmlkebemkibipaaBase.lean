/- window.Base: the least of the parts that still count. Conditions: lengths within the form's reach. -/
import Derived.Test.YtmlkebemkibipaaWin2
import Derived.Test.YtmlkebemkibipaaSlMin
set_option linter.unusedVariables false
set_option linter.unusedSimpArgs false
namespace Go
theorem World.ownsAt.stored {w : World} {base : Nat} {e : TypeId} {g off n cap : Nat} {xs : List Value} (h : w.ownsAt base e (.slice (some ⟨g, off, none⟩) n cap) n xs) {j : Nat} (hj : j < n) (u : Value) :
    (w.setCell ⟨g, off + j, none⟩ u).ownsAt base e (.slice (some ⟨g, off, none⟩) n cap) n (xs.set j u) := by
  rcases h.2 with ⟨hv, _⟩ | ⟨g', off', cap', cur, hv, hb, hg, hc, hm, hs, ht⟩
  · cases hv
  · injection hv with h1 h2 h3
    injection h1 with h1
    injection h1 with h4 h5
    subst h4 h5 h3
    refine ⟨by rw [List.length_set]; exact h.1, .inr ⟨g, off, cap, cur.setIfInBounds (off + j) u, rfl, hb, ?_, hc, hm, by simpa using hs, ?_⟩⟩
    · simp [World.setCell, Array.getElem?_modify, hg]
    · rw [← ht]
      apply List.ext_getElem?
      intro k
      simp only [List.getElem?_take, List.getElem?_drop, Array.getElem?_toList, Array.getElem?_setIfInBounds, List.getElem?_set, List.length_take, List.length_drop, Array.length_toList]
      by_cases hk : k < n
      · simp only [if_pos hk]
        by_cases hkj : j = k
        · subst hkj
          rw [if_pos rfl, if_pos rfl, if_pos (by omega), if_pos (by omega)]
        · rw [if_neg (by omega), if_neg hkj]
      · simp only [if_neg hk]
        by_cases hkj : j = k
        · omega
        · rw [if_neg hkj]
theorem World.ownsAt.cellAt {w : World} {base : Nat} {e : TypeId} {g off n cap : Nat} {xs : List Value} (h : w.ownsAt base e (.slice (some ⟨g, off, none⟩) n cap) n xs) {k : Nat} {u : Value} (hk : xs[k]? = some u) : w.cell? ⟨g, off + k, none⟩ = some u := by
  have hn : 0 < n := by
    have := (List.getElem?_eq_some_iff.1 hk).1
    rw [h.1] at this
    omega
  obtain ⟨g', off', cap', hv, _, _, _, _, hc⟩ := h.form hn
  injection hv with h1 h2 h3
  injection h1 with h1
  injection h1 with h4 h5
  subst h4 h5
  exact hc k u hk
theorem World.ownsAt.frozenAt {w : World} {base : Nat} {e : TypeId} {g off n cap : Nat} {xs : List Value} (h : w.ownsAt base e (.slice (some ⟨g, off, none⟩) n cap) n xs) (k : Nat) : w.frozen? ⟨g, k, none⟩ = false := by
  rcases h.2 with ⟨hv, _⟩ | ⟨g', off', cap', cur, hv, hb, hg, hc, hm, hs, ht⟩
  · cases hv
  · injection hv with h1 h2 h3
    injection h1 with h1
    injection h1 with h4 h5
    subst h4 h5
    simp [World.frozen?, hg]
end Go
namespace Go.Tide
/-- P parts, each with its least one, when k have come. -/
structure Parts (x : Nat → Int) (part : Int) (k P : Nat) (f : Nat → Int) : Prop where
  many : ((P : Int) - 1) * part < k ∧ (k : Int) ≤ P * part
  some : ∀ p : Nat, p < P → ∃ i : Nat, part * p ≤ i ∧ (i : Int) < part * (p + 1) ∧ i < k ∧ f p = x i
  least : ∀ p i : Nat, p < P → part * p ≤ i → (i : Int) < part * (p + 1) → i < k → f p ≤ x i
theorem parts_zero (x : Nat → Int) {part : Int} (hp : 1 ≤ part) (f : Nat → Int) : Parts x part 0 0 f := by
  refine ⟨⟨by simp; omega, by simp⟩, fun p h => absurd h (by omega), fun p i h => absurd h (by omega)⟩
/-- The number with which the last part is told. -/
def setAt (f : Nat → Int) (j : Nat) (v : Int) (k : Nat) : Int := if k = j then v else f k
theorem cells_set (n j : Nat) (f : Nat → Int) (v : Int) (hj : j < n) : (cellsOf n f).set j (.int .i64 v) = cellsOf n (setAt f j v) := by
  apply List.ext_getElem?
  intro k
  rw [List.getElem?_set]
  by_cases hk : k < n
  · rw [cellsOf_get _ hk]
    by_cases hkj : j = k
    · subst hkj
      rw [if_pos rfl, if_pos (by rw [cellsOf_length]; exact hj), cellsOf_get _ hj]
      unfold setAt
      rw [if_pos rfl]
    · rw [if_neg hkj, cellsOf_get _ hk]
      unfold setAt
      rw [if_neg (Ne.symm hkj)]
  · by_cases hkj : j = k
    · omega
    · rw [if_neg hkj, List.getElem?_eq_none (by rw [cellsOf_length]; omega), List.getElem?_eq_none (by rw [cellsOf_length]; omega)]
theorem cells_snoc (n : Nat) (f : Nat → Int) (v : Int) : cellsOf n f ++ [.int .i64 v] = cellsOf (n + 1) (setAt f n v) := by
  have h : cellsOf n f = cellsOf n (setAt f n v) := cellsOf_congr fun k hk => by unfold setAt; rw [if_neg (by omega)]
  rw [cellsOf_succ, ← h]
  simp [setAt]
/-- How many parts there are. -/
theorem Parts.count {x : Nat → Int} {part : Int} {k P : Nat} {f : Nat → Int} (h : Parts x part (k + 1) P f) (hp : 1 ≤ part) : (P : Int) = (k : Int) / part + 1 := by
  have h1 := h.many
  have e1 : ((P : Int) - 1) * part ≤ k := by omega
  have e2 : (k : Int) < P * part := by omega
  have a1 : (P : Int) - 1 ≤ (k : Int) / part := (Int.le_ediv_iff_mul_le (by omega)).2 e1
  have a2 : (k : Int) / part < P := (Int.ediv_lt_iff_lt_mul (by omega)).2 e2
  omega
theorem parts_new {x : Nat → Int} {part : Int} {k P : Nat} {f : Nat → Int} (h : Parts x part k P f) (hp : 1 ≤ part) (hk : (k : Int) % part = 0) : Parts x part (k + 1) (P + 1) (setAt (setAt f P (x k)) P (x k)) := by
  have h1 := h.many
  have hkd : (k : Int) = P * part := by
    have hd := Int.mul_ediv_add_emod (k : Int) part
    rw [hk] at hd
    have a1 : (P : Int) - 1 < (k : Int) / part := by
      rw [← Int.not_le]
      intro hc
      have := Int.mul_le_mul_of_nonneg_left hc (show 0 ≤ part by omega)
      rw [Int.mul_comm part ((P : Int) - 1)] at this
      omega
    have a2 : (k : Int) / part ≤ P := by
      rw [← Int.not_lt]
      intro hc
      have := Int.mul_le_mul_of_nonneg_left (show (P : Int) + 1 ≤ (k : Int) / part by omega) (show 0 ≤ part by omega)
      rw [Int.mul_add, Int.mul_comm part (P : Int)] at this
      omega
    have : (k : Int) / part = P := by omega
    rw [this] at hd
    rw [Int.mul_comm]
    omega
  refine ⟨⟨?_, ?_⟩, fun p hpp => ?_, fun p i hpp l1 l2 l3 => ?_⟩
  · have : (((P + 1 : Nat) : Int) - 1) * part = P * part := by congr 1; omega
    omega
  · have : ((P + 1 : Nat) : Int) * part = P * part + part := by rw [Int.natCast_add, Int.add_mul]; omega
    omega
  · by_cases e : p = P
    · subst e
      refine ⟨k, by rw [Int.mul_comm]; omega, ?_, by omega, by simp [setAt]⟩
      rw [Int.mul_add, Int.mul_comm part]
      omega
    · obtain ⟨i, i1, i2, i3, i4⟩ := h.some p (by omega)
      exact ⟨i, i1, i2, by omega, by simp [setAt, e, i4]⟩
  · by_cases e : p = P
    · subst e
      have : i = k := by
        rw [Int.mul_comm] at l1
        omega
      subst this
      simp [setAt]
    · have hlt : i < k := by
        have := Int.mul_le_mul_of_nonneg_left (show ((p : Int) + 1) ≤ P by omega) (show 0 ≤ part by omega)
        rw [Int.mul_comm part (P : Int)] at this
        omega
      have := h.least p i (by omega) l1 l2 hlt
      simpa [setAt, e] using this
theorem parts_same {x : Nat → Int} {part : Int} {k P : Nat} {f : Nat → Int} (h : Parts x part k (P + 1) f) (hp : 1 ≤ part) (hk : (k : Int) % part ≠ 0) {v : Int} (hv : v = min (f P) (x k)) : Parts x part (k + 1) (P + 1) (setAt f P v) := by
  have h1 := h.many
  have hkd : (k : Int) < ((P + 1 : Nat) : Int) * part := by
    rcases Int.lt_or_eq_of_le h1.2 with hc | hc
    · exact hc
    · exfalso
      apply hk
      rw [hc]
      exact Int.mul_emod_left _ _
  have hP : (((P + 1 : Nat) : Int) - 1) * part = P * part := by congr 1; omega
  rw [hP] at h1
  have hP1 : ((P + 1 : Nat) : Int) * part = P * part + part := by rw [Int.natCast_add, Int.add_mul]; omega
  rw [hP1] at hkd
  have hPp : part * (P : Int) = P * part := Int.mul_comm _ _
  have hPq : part * ((P : Int) + 1) = P * part + part := by rw [Int.mul_add, Int.mul_comm]; omega
  refine ⟨⟨by rw [hP]; omega, by rw [hP1]; omega⟩, fun p hpp => ?_, fun p i hpp l1 l2 l3 => ?_⟩
  · by_cases e : p = P
    · subst e
      obtain ⟨i, i1, i2, i3, i4⟩ := h.some p (by omega)
      by_cases hc : f p ≤ x k
      · exact ⟨i, i1, i2, by omega, by simp [setAt]; omega⟩
      · exact ⟨k, by omega, by omega, by omega, by simp [setAt]; omega⟩
    · obtain ⟨i, i1, i2, i3, i4⟩ := h.some p (by omega)
      exact ⟨i, i1, i2, by omega, by simp [setAt, e, i4]⟩
  · by_cases e : p = P
    · subst e
      simp only [setAt, if_true]
      rcases Nat.lt_succ_iff_lt_or_eq.1 l3 with hl | rfl
      · have := h.least p i (by omega) l1 l2 hl
        omega
      · omega
    · have hlt : i < k := by
        have := Int.mul_le_mul_of_nonneg_left (show ((p : Int) + 1) ≤ P by omega) (show 0 ≤ part by omega)
        omega
      have := h.least p i (by omega) l1 l2 hlt
      simpa [setAt, e] using this
/-- The least of the parts that count is the base. -/
theorem Parts.base {x : Nat → Int} {part keep : Int} {k P lo : Nat} {f : Nat → Int} {m : Int} (h : Parts x part (k + 1) P f) (hp : 1 ≤ part) (hkp : 1 ≤ keep) (hlo : (lo : Int) = max 0 (P - keep)) (hm : IsMin (P - lo) (fun j => f (lo + j)) m) : m = baseOf x part keep k := by
  have hc := h.count hp
  refine BestIn.unique ord_lt (v := m) ?_ (baseOf_spec hp hkp k)
  have hll : part * (lo : Int) ≥ partLo part keep k := by
    unfold partLo
    exact Int.mul_le_mul_of_nonneg_left (by omega) (by omega)
  obtain ⟨⟨j, hj, hfj⟩, hle⟩ := hm
  refine ⟨?_, fun t t1 t2 => ?_⟩
  · obtain ⟨i, i1, i2, i3, i4⟩ := h.some (lo + j) (by omega)
    refine ⟨i, ?_, by omega, by rw [← i4]; exact hfj⟩
    have := Int.mul_le_mul_of_nonneg_left (show (lo : Int) ≤ ((lo + j : Nat) : Int) by omega) (show 0 ≤ part by omega)
    omega
  · rw [ltB_not]
    have d0 : 0 ≤ (t : Int) / part := Int.ediv_nonneg (by omega) (by omega)
    obtain ⟨p, hpt⟩ : ∃ p : Nat, (p : Int) = (t : Int) / part := ⟨((t : Int) / part).toNat, by omega⟩
    have d1 : (t : Int) / part ≤ (k : Int) / part := Int.ediv_le_ediv (by omega) (by omega)
    have d2 : (P : Int) - keep ≤ (t : Int) / part := by
      refine (Int.le_ediv_iff_mul_le (by omega)).2 ?_
      unfold partLo at t1
      rw [Int.mul_comm]
      have : (k : Int) / part + 1 - keep = P - keep := by omega
      rw [this] at t1
      exact t1
    have hpl : lo ≤ p := by omega
    have e1 := Int.mul_ediv_add_emod (t : Int) part
    have e2 := Int.emod_nonneg (t : Int) (show part ≠ 0 by omega)
    have e3 := Int.emod_lt_of_pos (t : Int) (show 0 < part by omega)
    rw [← hpt] at e1
    have h1 := h.least p t (by omega) (by omega) (by rw [Int.mul_add]; omega) (by omega)
    have h2 := hle (p - lo) (by omega)
    simp only [show lo + (p - lo) = p by omega] at h2
    omega
end Go.Tide
namespace Go.Proofs.Ytmlkebemkibipaa
open Go.RowKit Go.Tide
set_option linter.unusedVariables false
set_option linter.unusedSimpArgs false

theorem base_none (a : Option Addr) (n c : Nat) (part keep : Int) (hw : part < 1 ∨ keep < 1) (w : World) :
    Calls Try.prog 17 #[.slice a n c, .int .i64 part, .int .i64 keep] w fun e w' => e = .returned (.slice none 0 0) ∧ w = w' := by
  by_cases h1 : part < 1
  · have k1 : decide (part < 1) = true := by simpa using h1
    clear hw
    go_enter Try.func17, Try.ntmps17
    go_wp2
    go_ret
    exact ⟨rfl, rfl⟩
  · have h2 : keep < 1 := by omega
    have k1 : decide (part < 1) = false := by simpa using h1
    have k2 : decide (keep < 1) = true := by simpa using h2
    clear hw
    go_enter Try.func17, Try.ntmps17
    go_wp2
    go_ret
    exact ⟨rfl, rfl⟩

/-- What holds at each round's head of Base. -/
def Based (w : World) (x : Nat → Int) (part keep : Int) (k : Nat) (out parts : Value) (wr : World) : Prop :=
  (∃ P f, Parts x part k P f ∧ P ≤ k ∧ wr.ownsAt w.heap.size 3 parts P (cellsOf P f)) ∧
  wr.ownsAt w.heap.size 3 out k (cellsOf k (baseOf x part keep)) ∧ Below w.heap.size w wr ∧ Apart out parts

/-- Behind the parts' turn, ahead of the call of slices.Min. -/
structure BRdy (w W : World) (x : Nat → Int) (part keep : Int) (k : Nat) (out parts : Value) (P : Nat) (f : Nat → Int) : Prop where
  told : Parts x part (k + 1) P f
  le : P ≤ k + 1
  ownP : W.ownsAt w.heap.size 3 parts P (cellsOf P f)
  ownO : W.ownsAt w.heap.size 3 out k (cellsOf k (baseOf x part keep))
  below : Below w.heap.size w W
  apart : Apart out parts
theorem rdy_new {w wr w3 : World} {o : Obj} {x : Nat → Int} {part keep : Int} {k P g off cap : Nat} {out parts : Value} {f : Nat → Int} {y : Int} (hp : 1 ≤ part) (hP : Parts x part k P f) (hPk : P ≤ k) (hm : (k : Int) % part = 0) (hy : y = x k)
    (hown : wr.ownsAt w.heap.size 3 out k (cellsOf k (baseOf x part keep))) (hbe : Below w.heap.size w wr) (hap : Apart out parts) (hpr : wr.ownsAt w.heap.size 3 parts P (cellsOf P f))
    (hown3 : w3.ownsAt w.heap.size 3 (.slice (some ⟨g, off, none⟩) (P + 1) cap) (P + 1) (cellsOf P f ++ [.int .i64 y])) (hgrow : (wr.alloc o).grownBy w3 parts.ownBlock) (hlie : parts.ownBlock = some g ∨ g = (wr.alloc o).heap.size) :
    BRdy w (w3.setCell ⟨g, off + P, none⟩ (.int .i64 y)) x part keep k out (.slice (some ⟨g, off, none⟩) (P + 1) cap) (P + 1) (setAt (setAt f P y) P y) := by
  subst hy
  have hne : ∀ b, out.ownBlock = some b → b ≠ g := fun b hb e => by
    subst e
    rcases hlie with h | h
    · exact hap _ hb h
    · have := (hown.lt _ hb).2
      simp at h
      omega
  have hg : w.heap.size ≤ g := (hown3.lt g rfl).1
  refine ⟨parts_new hP hp hm, by omega, ?_, ?_, ?_, ?_⟩
  · rw [← cells_set _ _ _ _ (by omega), ← cells_snoc]
    exact hown3.stored (by omega) _
  · have h1 := (hown.alloc o).kept hgrow (by
      rcases hb : out.ownBlock with _ | b
      · exact .inl rfl
      · exact .inr fun e => hap b hb e.symm)
    exact h1.same fun b hb => Below.heap_setCell w3 _ _ b (hne b hb)
  · exact ((hbe.alloc hbe.size o).grown hgrow (by have := hbe.size; simp; omega) fun b hb => (hpr.lt b hb).1).setCell (p := ⟨g, off + P, none⟩) hg _
  · intro b hb e
    exact hne b hb (by simpa [Value.ownBlock] using e.symm)
theorem rdy_same {w wr : World} {x : Nat → Int} {part keep : Int} {k Q g off cap : Nat} {out : Value} {f : Nat → Int} {v : Int} (hp : 1 ≤ part) (hP : Parts x part k (Q + 1) f) (hPk : Q + 1 ≤ k) (hm : (k : Int) % part ≠ 0) (hv : v = min (f Q) (x k))
    (hown : wr.ownsAt w.heap.size 3 out k (cellsOf k (baseOf x part keep))) (hbe : Below w.heap.size w wr) (hap : Apart out (.slice (some ⟨g, off, none⟩) (Q + 1) cap))
    (hpr : wr.ownsAt w.heap.size 3 (.slice (some ⟨g, off, none⟩) (Q + 1) cap) (Q + 1) (cellsOf (Q + 1) f)) :
    BRdy w (wr.setCell ⟨g, off + Q, none⟩ (.int .i64 v)) x part keep k out (.slice (some ⟨g, off, none⟩) (Q + 1) cap) (Q + 1) (setAt f Q v) := by
  have hg : w.heap.size ≤ g := (hpr.lt g rfl).1
  refine ⟨parts_same hP hp hm hv, by omega, ?_, ?_, hbe.setCell (p := ⟨g, off + Q, none⟩) hg _, hap⟩
  · rw [← cells_set _ _ _ _ (by omega)]
    exact hpr.stored (by omega) _
  · exact hown.same fun b hb => Below.heap_setCell wr _ _ b (fun e => hap b hb (by rw [e]; rfl))
theorem Row.of_at_from {w : World} {base : Nat} {e : TypeId} {g off n cap : Nat} {f : Nat → Int} (h : w.ownsAt base e (.slice (some ⟨g, off, none⟩) n cap) n (cellsOf n f)) (lo : Nat) : Row w (some ⟨g, off + lo, none⟩) (n - lo) (fun j => f (lo + j)) := by
  intro hn
  refine ⟨g, off + lo, rfl, (h.lt g rfl).2, fun k hk => ?_⟩
  rw [Nat.add_assoc]
  exact h.cellAt (cellsOf_get f (by omega))
theorem based_step {w W w5 : World} {o : Obj} {x : Nat → Int} {part keep : Int} {k P lo g off cap : Nat} {out parts : Value} {f : Nat → Int} {m : Int} (hp : 1 ≤ part) (hk : 1 ≤ keep) (R : BRdy w W x part keep k out parts P f)
    (hlo : (lo : Int) = max 0 (P - keep)) (hm : IsMin (P - lo) (fun j => f (lo + j)) m)
    (hown5 : w5.ownsAt w.heap.size 3 (.slice (some ⟨g, off, none⟩) (k + 1) cap) (k + 1) (cellsOf k (baseOf x part keep) ++ [.int .i64 m])) (hgrow : (W.alloc o).grownBy w5 out.ownBlock) (hlie : out.ownBlock = some g ∨ g = (W.alloc o).heap.size) :
    Based w x part keep (k + 1) (.slice (some ⟨g, off, none⟩) (k + 1) cap) parts w5 := by
  have hmb := R.told.base hp hk hlo hm
  refine ⟨⟨P, f, R.told, R.le, ?_⟩, ?_, ?_, ?_⟩
  · refine (R.ownP.alloc o).kept hgrow ?_
    rcases hb : parts.ownBlock with _ | b
    · exact .inl rfl
    · exact .inr fun e => R.apart b e.symm hb
  · rw [cellsOf_succ, ← hmb]
    exact hown5
  · exact (R.below.alloc R.below.size o).grown hgrow (by have := R.below.size; simp; omega) fun b hb => (R.ownO.lt b hb).1
  · intro b hb e
    have e1 : g = b := by simpa [Value.ownBlock] using hb
    subst e1
    rcases hlie with h | h
    · exact R.apart _ h e
    · have := (R.ownP.lt _ e).2
      simp at h
      omega

set_option maxHeartbeats 1000000 in
theorem base_any (a : Option Addr) (n c : Nat) (x : Nat → Int) (w : World) (hx : Row w a n x) (hn : n ≤ 17592186044300) (part keep : Int) (hp : 1 ≤ part) (hpb : part ≤ 9223372036854775807) (hk : 1 ≤ keep) (hkb : keep ≤ 9223372036854775807) :
    Calls Try.prog 17 #[.slice a n c, .int .i64 part, .int .i64 keep] w fun e w' => ∃ a' c', e = .returned (.slice a' n c') ∧ n ≤ c' ∧ Row w' a' n (baseOf x part keep) ∧ Below w.heap.size w w' := by
  obtain ⟨i0_, hi, hz0, hz1, hz2⟩ := info_parts intInfo
  have hS : Based w x part keep 0 (.slice none 0 0) (.slice none 0 0) w := ⟨⟨0, fun _ => 0, parts_zero x hp _, Nat.le_refl _, ownsAt_nil _ _ _⟩, ownsAt_nil _ _ _, Below.refl _ _, fun g hg => by simp [Value.ownBlock] at hg⟩
  have kd1 : decide (part < 1) = false := by simp; omega
  have kd2 : decide (keep < 1) = false := by simp; omega
  go_enter Try.func17, Try.ntmps17
  go_wp2
  go_loopw [7, 8, 20] (fun out parts i wr => ∃ k : Nat, i = .int .i64 k ∧ k ≤ n ∧ Based w x part keep k out parts wr) (fun _ _ i _ => n - (intOf i).toNat)
  case atStart => exact ⟨0, rfl, Nat.zero_le _, hS⟩
  case round =>
    clear hS
    obtain ⟨k, rfl, hkn, ⟨P, f, hP, hPk, hpr⟩, hown, hbe, hap⟩ := hrel
    obtain ⟨ao, co, rfl, hco, hco'⟩ := hown.shape
    obtain ⟨ap, cp, rfl, hcp, hcp'⟩ := hpr.shape
    have hsz := hbe.size
    by_cases hlt : k < n
    · obtain ⟨b, off, y, rfl, hb, hc0, hy⟩ := (hx.below hbe (Nat.le_refl _)).at_ hlt
      have hc : wr.cell? ⟨b, off + k, none⟩ = some (.int .i64 y) := hc0
      have k0 : (0 : Int) ≤ (k : Int) := by omega
      have k1 : (k : Int) < (n : Int) := by omega
      have HP := Lib.hid hP
      by_cases hmod : (k : Int) % part = 0
      · have hm0 : ((k : Int) % part == 0) = true := by simpa using hmod
        have HM := Lib.hid hmod
        clear hmod hP
        obtain ⟨lo, hlT⟩ : ∃ lo : Nat, Hid ((lo : Int) = max 0 ((P : Int) + 1 - keep)) := ⟨(max 0 ((P : Int) + 1 - keep)).toNat, show _ = _ by omega⟩
        by_cases hkp : (P : Int) + 1 ≤ keep
        · have hlo0 : decide ((0 : Int) < (P : Int) + 1 - keep) = false := by simp; omega
          have hlo2 : lo < P + 1 := by have := hlT.out; omega
          go_wp2_with (at_builtin; refine wpList_append_at rfl (.tmp 29) (.tmp 31) 22 rfl w.heap.size 3 i0_ (.int .i64 0) 8 Try.underlying22 hi hz0 hz1 hz2 rfl (.slice ap P cp) P (cellsOf P f) rfl (hpr.alloc _) _ _ (.int .i64 y) rfl (Blk.cell (cs := #[.int .i64 y]) (t := 3) (by repeat (first | (with_reducible assumption) | ((with_reducible refine Blk.new' ?_); (simp [Nat.add_assoc]; done)) | (with_reducible refine Blk.alloc ?_ _) | (with_reducible refine Blk.more ?_ _ _) | (with_reducible refine Blk.drew ?_) | (with_reducible refine Blk.drewN ?_ _))) 0) rfl (by simp only [maxLen]; omega) (by omega) (by simp; omega) ?_; intro g3 o3 c3 w3 hown3 hgrow hlie hlt3; have hl3 : w3.cell? ⟨g3, o3 + P, none⟩ = some (.int .i64 y) := hown3.cellAt (by rw [List.getElem?_append_right (by rw [cellsOf_length]; exact Nat.le_refl _), cellsOf_length]; simp); have hf3 := hown3.frozenAt (o3 + P); obtain ⟨a3', c3', he3, hc3, hc3'⟩ := hown3.shape; injection he3 with he31 he32 he33; subst he33; clear he31 he32)
          obtain ⟨G, HR⟩ : ∃ G, Hid (BRdy w (w3.setCell ⟨g3, o3 + P, none⟩ (.int .i64 y)) x part keep k (.slice ao k co) (.slice (some ⟨g3, o3, none⟩) (P + 1) c3) (P + 1) G) := ⟨_, rdy_new hp HP.out hPk HM.out hy.out hown hbe hap hpr hown3 hgrow hlie⟩
          obtain rfl : lo = 0 := by have := hlT.out; omega
          refine (min_any _ (P + 1) _ G _ (Row.of_at HR.out.ownP) (by omega) (by omega)).mono ?_
          rintro e w4 ⟨mv, rfl, hmv, rfl⟩
          have HMV := Lib.hid hmv
          have hownW := HR.out.ownO
          have hszW := HR.out.below.size
          (try simp at hszW)
          clear hmv
          go_wp2_with (at_builtin; refine wpList_append_at rfl (.tmp 45) (.tmp 54) 22 rfl w.heap.size 3 i0_ (.int .i64 0) 8 Try.underlying22 hi hz0 hz1 hz2 rfl (.slice ao k co) k (cellsOf k (baseOf x part keep)) rfl (hownW.alloc _) _ _ (.int .i64 mv) rfl (Blk.cell (cs := #[.int .i64 mv]) (t := 3) (by repeat (first | (with_reducible assumption) | ((with_reducible refine Blk.new' ?_); (simp [Nat.add_assoc]; done)) | (with_reducible refine Blk.alloc ?_ _) | (with_reducible refine Blk.more ?_ _ _) | (with_reducible refine Blk.drew ?_) | (with_reducible refine Blk.drewN ?_ _))) 0) rfl (by simp only [maxLen]; omega) (by omega) (by simp; omega) ?_; intro g5 o5 c5 w5 hown5 hgrow5 hlie5 hlt5)
          go_roundw
          case rel => exact ⟨k + 1, by go_num, by omega, based_step (lo := 0) hp hk HR.out hlT.out (by simpa using HMV.out) hown5 hgrow5 hlie5⟩
          case measure => simp [intOf]; omega
        · have hlo0 : (P : Int) + 1 - keep = (lo : Int) := by have := hlT.out; omega
          have hlo1 : 0 < lo := by omega
          have hlo2 : lo < P + 1 := by omega
          go_wp2_with (at_builtin; refine wpList_append_at rfl (.tmp 29) (.tmp 31) 22 rfl w.heap.size 3 i0_ (.int .i64 0) 8 Try.underlying22 hi hz0 hz1 hz2 rfl (.slice ap P cp) P (cellsOf P f) rfl (hpr.alloc _) _ _ (.int .i64 y) rfl (Blk.cell (cs := #[.int .i64 y]) (t := 3) (by repeat (first | (with_reducible assumption) | ((with_reducible refine Blk.new' ?_); (simp [Nat.add_assoc]; done)) | (with_reducible refine Blk.alloc ?_ _) | (with_reducible refine Blk.more ?_ _ _) | (with_reducible refine Blk.drew ?_) | (with_reducible refine Blk.drewN ?_ _))) 0) rfl (by simp only [maxLen]; omega) (by omega) (by simp; omega) ?_; intro g3 o3 c3 w3 hown3 hgrow hlie hlt3; have hl3 : w3.cell? ⟨g3, o3 + P, none⟩ = some (.int .i64 y) := hown3.cellAt (by rw [List.getElem?_append_right (by rw [cellsOf_length]; exact Nat.le_refl _), cellsOf_length]; simp); have hf3 := hown3.frozenAt (o3 + P); obtain ⟨a3', c3', he3, hc3, hc3'⟩ := hown3.shape; injection he3 with he31 he32 he33; subst he33; clear he31 he32)
          obtain ⟨G, HR⟩ : ∃ G, Hid (BRdy w (w3.setCell ⟨g3, o3 + P, none⟩ (.int .i64 y)) x part keep k (.slice ao k co) (.slice (some ⟨g3, o3, none⟩) (P + 1) c3) (P + 1) G) := ⟨_, rdy_new hp HP.out hPk HM.out hy.out hown hbe hap hpr hown3 hgrow hlie⟩
          skip
          refine (min_any _ (P + 1 - lo) _ (fun j => G (lo + j)) _ (Row.of_at_from HR.out.ownP lo) (by omega) (by omega)).mono ?_
          rintro e w4 ⟨mv, rfl, hmv, rfl⟩
          have HMV := Lib.hid hmv
          have hownW := HR.out.ownO
          have hszW := HR.out.below.size
          (try simp at hszW)
          clear hmv
          go_wp2_with (at_builtin; refine wpList_append_at rfl (.tmp 45) (.tmp 54) 22 rfl w.heap.size 3 i0_ (.int .i64 0) 8 Try.underlying22 hi hz0 hz1 hz2 rfl (.slice ao k co) k (cellsOf k (baseOf x part keep)) rfl (hownW.alloc _) _ _ (.int .i64 mv) rfl (Blk.cell (cs := #[.int .i64 mv]) (t := 3) (by repeat (first | (with_reducible assumption) | ((with_reducible refine Blk.new' ?_); (simp [Nat.add_assoc]; done)) | (with_reducible refine Blk.alloc ?_ _) | (with_reducible refine Blk.more ?_ _ _) | (with_reducible refine Blk.drew ?_) | (with_reducible refine Blk.drewN ?_ _))) 0) rfl (by simp only [maxLen]; omega) (by omega) (by simp; omega) ?_; intro g5 o5 c5 w5 hown5 hgrow5 hlie5 hlt5)
          go_roundw
          case rel => exact ⟨k + 1, by go_num, by omega, based_step (lo := lo) hp hk HR.out hlT.out (by simpa using HMV.out) hown5 hgrow5 hlie5⟩
          case measure => simp [intOf]; omega
      · have hm0 : ((k : Int) % part == 0) = false := by simpa using hmod
        have HM := Lib.hid hmod
        have hP1 : 0 < P := by
          rcases Nat.eq_zero_or_pos P with h | h
          · subst h
            have := hP.many.2
            simp at this
            have hk0 : k = 0 := by omega
            subst hk0
            exact absurd (by simp) hmod
          · exact h
        obtain ⟨Q, rfl⟩ : ∃ Q, P = Q + 1 := ⟨P - 1, by omega⟩
        obtain ⟨gp, op, cp2, he, hcp3, hcp4, hgb, hgl, hcell⟩ := hpr.form (by omega)
        injection he with he1 he2 he3
        subst he1 he3
        obtain ⟨u, hu⟩ : ∃ u, Hid (u = f Q) := ⟨_, rfl⟩
        have hl3 : wr.cell? ⟨gp, op + Q, none⟩ = some (.int .i64 u) := by rw [hu.out]; exact hcell Q _ (cellsOf_get f (by omega))
        have hf3 := hpr.frozenAt (op + Q)
        clear hcell hmod hP hP1 he2
        by_cases hyu : y < u
        · have kyu : decide (y < u) = true := by simpa using hyu
          have hmin : y = min (f Q) (x k) := by rw [← hu.out, ← hy.out]; omega
          have HMI := Lib.hid hmin
          clear hmin
          obtain ⟨lo, hlT⟩ : ∃ lo : Nat, Hid ((lo : Int) = max 0 ((Q : Int) + 1 - keep)) := ⟨(max 0 ((Q : Int) + 1 - keep)).toNat, show _ = _ by omega⟩
          by_cases hkp : (Q : Int) + 1 ≤ keep
          · have hlo0 : decide ((0 : Int) < (Q : Int) + 1 - keep) = false := by simp; omega
            have hlo2 : lo < Q + 1 := by have := hlT.out; omega
            go_wp2_with fail
            obtain ⟨G, HR⟩ : ∃ G, Hid (BRdy w (wr.setCell ⟨gp, op + Q, none⟩ (.int .i64 y)) x part keep k (.slice ao k co) (.slice (some ⟨gp, op, none⟩) (Q + 1) cp) (Q + 1) G) := ⟨_, rdy_same hp HP.out hPk HM.out HMI.out hown hbe hap hpr⟩
            obtain rfl : lo = 0 := by have := hlT.out; omega
            refine (min_any _ (Q + 1) _ G _ (Row.of_at HR.out.ownP) (by omega) (by omega)).mono ?_
            rintro e w4 ⟨mv, rfl, hmv, rfl⟩
            have HMV := Lib.hid hmv
            have hownW := HR.out.ownO
            have hszW := HR.out.below.size
            (try simp at hszW)
            clear hmv
            go_wp2_with (at_builtin; refine wpList_append_at rfl (.tmp 45) (.tmp 54) 22 rfl w.heap.size 3 i0_ (.int .i64 0) 8 Try.underlying22 hi hz0 hz1 hz2 rfl (.slice ao k co) k (cellsOf k (baseOf x part keep)) rfl (hownW.alloc _) _ _ (.int .i64 mv) rfl (Blk.cell (cs := #[.int .i64 mv]) (t := 3) (by repeat (first | (with_reducible assumption) | ((with_reducible refine Blk.new' ?_); (simp [Nat.add_assoc]; done)) | (with_reducible refine Blk.alloc ?_ _) | (with_reducible refine Blk.more ?_ _ _) | (with_reducible refine Blk.drew ?_) | (with_reducible refine Blk.drewN ?_ _))) 0) rfl (by simp only [maxLen]; omega) (by omega) (by simp; omega) ?_; intro g5 o5 c5 w5 hown5 hgrow5 hlie5 hlt5)
            go_roundw
            case rel => exact ⟨k + 1, by go_num, by omega, based_step (lo := 0) hp hk HR.out hlT.out (by simpa using HMV.out) hown5 hgrow5 hlie5⟩
            case measure => simp [intOf]; omega
          · have hlo0 : (Q : Int) + 1 - keep = (lo : Int) := by have := hlT.out; omega
            have hlo1 : 0 < lo := by omega
            have hlo2 : lo < Q + 1 := by omega
            go_wp2_with fail
            obtain ⟨G, HR⟩ : ∃ G, Hid (BRdy w (wr.setCell ⟨gp, op + Q, none⟩ (.int .i64 y)) x part keep k (.slice ao k co) (.slice (some ⟨gp, op, none⟩) (Q + 1) cp) (Q + 1) G) := ⟨_, rdy_same hp HP.out hPk HM.out HMI.out hown hbe hap hpr⟩
            skip
            refine (min_any _ (Q + 1 - lo) _ (fun j => G (lo + j)) _ (Row.of_at_from HR.out.ownP lo) (by omega) (by omega)).mono ?_
            rintro e w4 ⟨mv, rfl, hmv, rfl⟩
            have HMV := Lib.hid hmv
            have hownW := HR.out.ownO
            have hszW := HR.out.below.size
            (try simp at hszW)
            clear hmv
            go_wp2_with (at_builtin; refine wpList_append_at rfl (.tmp 45) (.tmp 54) 22 rfl w.heap.size 3 i0_ (.int .i64 0) 8 Try.underlying22 hi hz0 hz1 hz2 rfl (.slice ao k co) k (cellsOf k (baseOf x part keep)) rfl (hownW.alloc _) _ _ (.int .i64 mv) rfl (Blk.cell (cs := #[.int .i64 mv]) (t := 3) (by repeat (first | (with_reducible assumption) | ((with_reducible refine Blk.new' ?_); (simp [Nat.add_assoc]; done)) | (with_reducible refine Blk.alloc ?_ _) | (with_reducible refine Blk.more ?_ _ _) | (with_reducible refine Blk.drew ?_) | (with_reducible refine Blk.drewN ?_ _))) 0) rfl (by simp only [maxLen]; omega) (by omega) (by simp; omega) ?_; intro g5 o5 c5 w5 hown5 hgrow5 hlie5 hlt5)
            go_roundw
            case rel => exact ⟨k + 1, by go_num, by omega, based_step (lo := lo) hp hk HR.out hlT.out (by simpa using HMV.out) hown5 hgrow5 hlie5⟩
            case measure => simp [intOf]; omega
        · have kyu : decide (y < u) = false := by simpa using hyu
          have hmin : u = min (f Q) (x k) := by rw [← hu.out, ← hy.out]; omega
          have HMI := Lib.hid hmin
          clear hmin
          obtain ⟨lo, hlT⟩ : ∃ lo : Nat, Hid ((lo : Int) = max 0 ((Q : Int) + 1 - keep)) := ⟨(max 0 ((Q : Int) + 1 - keep)).toNat, show _ = _ by omega⟩
          by_cases hkp : (Q : Int) + 1 ≤ keep
          · have hlo0 : decide ((0 : Int) < (Q : Int) + 1 - keep) = false := by simp; omega
            have hlo2 : lo < Q + 1 := by have := hlT.out; omega
            go_wp2_with fail
            obtain ⟨G, HR⟩ : ∃ G, Hid (BRdy w (wr.setCell ⟨gp, op + Q, none⟩ (.int .i64 u)) x part keep k (.slice ao k co) (.slice (some ⟨gp, op, none⟩) (Q + 1) cp) (Q + 1) G) := ⟨_, rdy_same hp HP.out hPk HM.out HMI.out hown hbe hap hpr⟩
            obtain rfl : lo = 0 := by have := hlT.out; omega
            refine (min_any _ (Q + 1) _ G _ (Row.of_at HR.out.ownP) (by omega) (by omega)).mono ?_
            rintro e w4 ⟨mv, rfl, hmv, rfl⟩
            have HMV := Lib.hid hmv
            have hownW := HR.out.ownO
            have hszW := HR.out.below.size
            (try simp at hszW)
            clear hmv
            go_wp2_with (at_builtin; refine wpList_append_at rfl (.tmp 45) (.tmp 54) 22 rfl w.heap.size 3 i0_ (.int .i64 0) 8 Try.underlying22 hi hz0 hz1 hz2 rfl (.slice ao k co) k (cellsOf k (baseOf x part keep)) rfl (hownW.alloc _) _ _ (.int .i64 mv) rfl (Blk.cell (cs := #[.int .i64 mv]) (t := 3) (by repeat (first | (with_reducible assumption) | ((with_reducible refine Blk.new' ?_); (simp [Nat.add_assoc]; done)) | (with_reducible refine Blk.alloc ?_ _) | (with_reducible refine Blk.more ?_ _ _) | (with_reducible refine Blk.drew ?_) | (with_reducible refine Blk.drewN ?_ _))) 0) rfl (by simp only [maxLen]; omega) (by omega) (by simp; omega) ?_; intro g5 o5 c5 w5 hown5 hgrow5 hlie5 hlt5)
            go_roundw
            case rel => exact ⟨k + 1, by go_num, by omega, based_step (lo := 0) hp hk HR.out hlT.out (by simpa using HMV.out) hown5 hgrow5 hlie5⟩
            case measure => simp [intOf]; omega
          · have hlo0 : (Q : Int) + 1 - keep = (lo : Int) := by have := hlT.out; omega
            have hlo1 : 0 < lo := by omega
            have hlo2 : lo < Q + 1 := by omega
            go_wp2_with fail
            obtain ⟨G, HR⟩ : ∃ G, Hid (BRdy w (wr.setCell ⟨gp, op + Q, none⟩ (.int .i64 u)) x part keep k (.slice ao k co) (.slice (some ⟨gp, op, none⟩) (Q + 1) cp) (Q + 1) G) := ⟨_, rdy_same hp HP.out hPk HM.out HMI.out hown hbe hap hpr⟩
            skip
            refine (min_any _ (Q + 1 - lo) _ (fun j => G (lo + j)) _ (Row.of_at_from HR.out.ownP lo) (by omega) (by omega)).mono ?_
            rintro e w4 ⟨mv, rfl, hmv, rfl⟩
            have HMV := Lib.hid hmv
            have hownW := HR.out.ownO
            have hszW := HR.out.below.size
            (try simp at hszW)
            clear hmv
            go_wp2_with (at_builtin; refine wpList_append_at rfl (.tmp 45) (.tmp 54) 22 rfl w.heap.size 3 i0_ (.int .i64 0) 8 Try.underlying22 hi hz0 hz1 hz2 rfl (.slice ao k co) k (cellsOf k (baseOf x part keep)) rfl (hownW.alloc _) _ _ (.int .i64 mv) rfl (Blk.cell (cs := #[.int .i64 mv]) (t := 3) (by repeat (first | (with_reducible assumption) | ((with_reducible refine Blk.new' ?_); (simp [Nat.add_assoc]; done)) | (with_reducible refine Blk.alloc ?_ _) | (with_reducible refine Blk.more ?_ _ _) | (with_reducible refine Blk.drew ?_) | (with_reducible refine Blk.drewN ?_ _))) 0) rfl (by simp only [maxLen]; omega) (by omega) (by simp; omega) ?_; intro g5 o5 c5 w5 hown5 hgrow5 hlie5 hlt5)
            go_roundw
            case rel => exact ⟨k + 1, by go_num, by omega, based_step (lo := lo) hp hk HR.out hlT.out (by simpa using HMV.out) hown5 hgrow5 hlie5⟩
            case measure => simp [intOf]; omega
    · obtain rfl : k = n := by omega
      go_wp2
      go_ret
      exact ⟨ao, co, rfl, hco, Row.of_at hown, hbe⟩
end Go.Proofs.Ytmlkebemkibipaa
