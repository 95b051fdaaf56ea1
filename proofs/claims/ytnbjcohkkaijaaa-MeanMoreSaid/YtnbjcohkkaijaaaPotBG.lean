/- The way round that the solver finds: plain. Conditions: none. -/
import Derived.Test.YtnbjcohkkaijaaaPotBF
set_option linter.unusedVariables false
set_option linter.unusedSimpArgs false
namespace Go.Tide
/-- A way round: m edges by V, all of them right, once round, and they weigh more than nothing. -/
structure Round (N : Nat) (f : Nat → Nat → Int) (n v m V : Nat) (B : Nat → Int) : Prop where
  at_ : backs f B N v = V
  right : ∀ i, backs f B i v < N ∧ 0 ≤ B (backs f B i v) ∧ B (backs f B i v) < n
  many : 1 ≤ m ∧ m ≤ N
  round : backs f B m V = V
  once : ∀ i, 0 < i → i < m → backs f B i V ≠ V
  walk : WalkOk n f m (fun k => B (backs f B (m - 1 - k) V))
  ends : f (B V).toNat 1 = V
  more : 0 < wSum f (fun k => B (backs f B (m - 1 - k) V)) m

theorem backs_T {N : Nat} {f : Nat → Nat → Int} {n z : Nat} {s : PSt} {T t : Nat → Nat} {v : Nat} (hG : GRight N n f) (h : Inv f n (N + 1) n s T t z) (hv : v < N) (hT : T v = N + 1) :
    ∀ i, i ≤ N → backs f s.B i v < N ∧ N + 1 - i ≤ T (backs f s.B i v) := by
  intro i
  induction i with
  | zero => intro _; exact ⟨hv, by show _ ≤ T v; omega⟩
  | succ i ih =>
    intro hi
    obtain ⟨h1, h2⟩ := ih (by omega)
    have ht : 0 < t (backs f s.B i v) := by
      rcases Nat.eq_zero_or_pos (t (backs f s.B i v)) with h0 | h0
      · have := (h.none_ _ h0).1; omega
      · exact h0
    obtain ⟨j, hj, e1, e2, e3, _⟩ := h.some_ _ ht
    have hf := hG.2.2.2 j hj
    have e : backs f s.B (i + 1) v = (f j 0).toNat := by
      show (f (s.B (backs f s.B i v)).toNat 0).toNat = _
      rw [e1, Int.toNat_natCast]
    rw [e]
    exact ⟨by omega, by omega⟩
theorem cycle_round {N : Nat} {f : Nat → Nat → Int} {n : Nat} (hG : GRight N n f) (hL : 0 ≤ (solved f n N).L) : ∃ v m V, (solved f n N).L = (v : Nat) ∧ Round N f n v m V (solved f n N).B := by
  obtain ⟨r, T, t, z, h, hr⟩ := inv_solved hG
  have hr' := hr hL
  subst hr'
  have hlast := h.last hL
  generalize solved f n N = s at *
  obtain ⟨v, hv⟩ : ∃ v : Nat, s.L = v := ⟨s.L.toNat, by omega⟩
  rw [hv, Int.toNat_natCast] at hlast
  have hvt : 0 < t v := by
    rcases Nat.eq_zero_or_pos (t v) with h0 | h0
    · have := (h.none_ _ h0).1; omega
    · exact h0
  have hvN : v < N := by
    obtain ⟨j, hj, e1, e2, _⟩ := h.some_ v hvt
    have := hG.2.2.2 j hj
    omega
  have hT := backs_T hG h hvN hlast
  -- each node on the way back has its edge
  have hnode : ∀ y, y < N → 1 ≤ T y → ∃ j : Nat, j < n ∧ s.B y = j ∧ f j 1 = y ∧ back f s.B y = (f j 0).toNat ∧ s.M y ≤ s.M (back f s.B y) + f j 2 ∧ (t y < t (back f s.B y) ∨ back f s.B y = y → s.M y < s.M (back f s.B y) + f j 2) ∧ 0 < t y := by
    intro y hy hy1
    have hty : 0 < t y := by
      rcases Nat.eq_zero_or_pos (t y) with h0 | h0
      · have := (h.none_ _ h0).1; omega
      · exact h0
    obtain ⟨j, hj, e1, e2, e3, e4, e5⟩ := h.some_ y hty
    have e : back f s.B y = (f j 0).toNat := by unfold back; rw [e1, Int.toNat_natCast]
    rw [← e] at e4 e5
    exact ⟨j, hj, e1, e2, e, e4, e5, hty⟩
  obtain ⟨i, j, hij, hjN, heq⟩ := pigeon N (fun i => backs f s.B i v) (fun i hi => (hT i hi).1)
  have hall : ∀ q, ∃ q', q' ≤ N ∧ backs f s.B q v = backs f s.B q' v := by
    intro q
    induction q with
    | zero => exact ⟨0, Nat.zero_le _, rfl⟩
    | succ q ih =>
      obtain ⟨q', hq', e⟩ := ih
      have e1 : backs f s.B (q + 1) v = backs f s.B (q' + 1) v := by show back f s.B (backs f s.B q v) = back f s.B (backs f s.B q' v); rw [e]
      by_cases hlt : q' + 1 ≤ N
      · exact ⟨q' + 1, hlt, e1⟩
      · refine ⟨N + 1 - j + i, by omega, ?_⟩
        rw [e1, show q' + 1 = (N + 1 - j) + j from by omega, backs_add, ← heq, ← backs_add]
  have hok : ∀ q, backs f s.B q v < N ∧ 1 ≤ T (backs f s.B q v) := fun q => by
    obtain ⟨q', hq', e⟩ := hall q
    rw [e]
    have := hT q' hq'
    exact ⟨this.1, by omega⟩
  have hV : backs f s.B (j - i) (backs f s.B N v) = backs f s.B N v := by
    rw [← backs_add, show j - i + N = (N - i) + j from by omega, backs_add, ← heq, ← backs_add, show N - i + i = N from by omega]
  obtain ⟨m, hm1, hm2, hm3, hm4⟩ := least_of (P := fun m => backs f s.B m (backs f s.B N v) = backs f s.B N v) (N := N) (j - i) (by omega) (by omega) hV
  have hokV : ∀ q, backs f s.B q (backs f s.B N v) < N ∧ 1 ≤ T (backs f s.B q (backs f s.B N v)) := fun q => by
    rw [← backs_add]
    exact hok _
  generalize hVV : backs f s.B N v = V at *
  have hback : ∀ q, back f s.B (backs f s.B q V) = backs f s.B (q + 1) V := fun q => rfl
  refine ⟨v, m, V, hv, hVV, fun q => ?_, ⟨hm1, hm2⟩, hm3, hm4, ?_, ?_, ?_⟩
  · obtain ⟨a1, a2⟩ := hok q
    obtain ⟨j, hj, e1, _⟩ := hnode _ a1 a2
    exact ⟨a1, by rw [e1]; omega, by rw [e1]; omega⟩
  · intro k hk
    obtain ⟨a1, a2⟩ := hokV (m - 1 - k)
    obtain ⟨j, hj, e1, e2, e3, _⟩ := hnode _ a1 a2
    refine ⟨by show 0 ≤ s.B _; rw [e1]; omega, by show s.B _ < _; rw [e1]; omega, fun h0 => ?_⟩
    show f (s.B (backs f s.B (m - 1 - (k - 1)) V)).toNat 1 = f (s.B (backs f s.B (m - 1 - k) V)).toNat 0
    rw [show m - 1 - (k - 1) = (m - 1 - k) + 1 from by omega, e1, Int.toNat_natCast]
    obtain ⟨b1, b2⟩ := hokV (m - 1 - k + 1)
    obtain ⟨j2, hj2, g1, g2, _⟩ := hnode _ b1 b2
    rw [g1, Int.toNat_natCast, g2, ← hback, e3]
    have := (hG.2.2.2 j hj).1
    omega
  · obtain ⟨a1, a2⟩ := hokV 0
    obtain ⟨j, hj, e1, e2, _⟩ := hnode V a1 a2
    rw [e1, Int.toNat_natCast]
    exact e2
  · have hsum : ∀ k, k ≤ m → s.M (backs f s.B (m - k) V) - s.M (backs f s.B m V) ≤ wSum f (fun k => s.B (backs f s.B (m - 1 - k) V)) k ∧
        (wSum f (fun k => s.B (backs f s.B (m - 1 - k) V)) k = s.M (backs f s.B (m - k) V) - s.M (backs f s.B m V) → t (backs f s.B m V) + k ≤ t (backs f s.B (m - k) V)) := by
      intro k
      induction k with
      | zero =>
        intro _
        rw [Nat.sub_zero]
        refine ⟨?_, fun _ => Nat.le_refl _⟩
        show _ ≤ (0 : Int)
        omega
      | succ k ih =>
        intro hk
        obtain ⟨h1, h2⟩ := ih (by omega)
        obtain ⟨a1, a2⟩ := hokV (m - 1 - k)
        obtain ⟨j, hj, e1, e2, e3, e4, e5, e6⟩ := hnode _ a1 a2
        have hb := hback (m - 1 - k)
        rw [show m - 1 - k + 1 = m - k from by omega] at hb
        rw [hb] at e4 e5
        have hw : wSum f (fun k => s.B (backs f s.B (m - 1 - k) V)) (k + 1) = wSum f (fun k => s.B (backs f s.B (m - 1 - k) V)) k + f j 2 := by
          show wSum f _ k + f (s.B (backs f s.B (m - 1 - k) V)).toNat 2 = _
          rw [e1, Int.toNat_natCast]
        rw [hw, show m - (k + 1) = m - 1 - k from by omega]
        refine ⟨by omega, fun heq2 => ?_⟩
        have h3 := h2 (by omega)
        by_cases hs : t (backs f s.B (m - 1 - k) V) < t (backs f s.B (m - k) V) ∨ backs f s.B (m - k) V = backs f s.B (m - 1 - k) V
        · have := e5 hs
          omega
        · have hne : t (backs f s.B (m - 1 - k) V) ≠ t (backs f s.B (m - k) V) := fun h0 => hs (.inr (h.apart _ _ e6 h0).symm)
          omega
    obtain ⟨h1, h2⟩ := hsum m (Nat.le_refl _)
    rw [Nat.sub_self, hm3] at h1 h2
    have e0 : backs f s.B 0 V = V := rfl
    rw [e0] at h1 h2
    by_cases hz : wSum f (fun k => s.B (backs f s.B (m - 1 - k) V)) m = 0
    · have := h2 (by omega)
      omega
    · omega
end Go.Tide
