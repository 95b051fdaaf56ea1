/- Why rounds end, or there is a way round: plain. Conditions: none. -/
import Derived.Test.YtnbjcohkkaijaaaPotC
set_option linter.unusedVariables false
set_option linter.unusedSimpArgs false
namespace Go.Tide
theorem pigeon : ∀ (N : Nat) (g : Nat → Nat), (∀ i, i ≤ N → g i < N) → ∃ i j, i < j ∧ j ≤ N ∧ g i = g j := by
  intro N
  induction N with
  | zero => intro g h; exact absurd (h 0 (Nat.le_refl _)) (by omega)
  | succ N ih =>
    intro g h
    by_cases hx : ∃ i, i ≤ N ∧ g i = g (N + 1)
    · obtain ⟨i, hi, e⟩ := hx
      exact ⟨i, N + 1, by omega, Nat.le_refl _, e⟩
    · have hne : ∀ i, i ≤ N → g i ≠ g (N + 1) := fun i hi e => hx ⟨i, hi, e⟩
      have hb := h (N + 1) (Nat.le_refl _)
      obtain ⟨i, j, hij, hj, e⟩ := ih (fun i => if g i < g (N + 1) then g i else g i - 1) (fun i hi => by
        have h1 := h i (by omega)
        have h2 := hne i hi
        show (if g i < g (N + 1) then g i else g i - 1) < N
        split <;> omega)
      refine ⟨i, j, hij, by omega, ?_⟩
      have h1 := hne i (by omega)
      have h2 := hne j (by omega)
      split at e <;> split at e <;> omega
theorem least_of {P : Nat → Prop} {N : Nat} : ∀ m, 1 ≤ m → m ≤ N → P m → ∃ m, 1 ≤ m ∧ m ≤ N ∧ P m ∧ ∀ i, 0 < i → i < m → ¬ P i := by
  intro m
  induction m using Nat.strongRecOn with
  | _ m ih =>
    intro h1 h2 h3
    by_cases hx : ∃ i, 0 < i ∧ i < m ∧ P i
    · obtain ⟨i, a, b, c⟩ := hx
      exact ih i b a (by omega) c
    · exact ⟨m, h1, h2, h3, fun i a b c => hx ⟨i, a, b, c⟩⟩

/-- What is known of a solver's state in round r, behind k edges: T is the round in which a node became more at last, t the time. -/
structure Inv (f : Nat → Nat → Int) (n r k : Nat) (s : PSt) (T t : Nat → Nat) (z : Nat) : Prop where
  rounds : ∀ v, T v ≤ r
  times : ∀ v, t v ≤ z
  none_ : ∀ v, t v = 0 → T v = 0 ∧ s.M v = 0
  some_ : ∀ v, 0 < t v → ∃ j : Nat, j < n ∧ s.B v = j ∧ f j 1 = v ∧ T v ≤ T (f j 0).toNat + 1 ∧ s.M v ≤ s.M (f j 0).toNat + f j 2 ∧ ((t v < t (f j 0).toNat ∨ (f j 0).toNat = v) → s.M v < s.M (f j 0).toNat + f j 2)
  apart : ∀ u v, 0 < t u → t u = t v → u = v
  tight : ∀ j, j < n → s.M (f j 0).toNat + f j 2 ≤ s.M (f j 1).toNat ∨ (r ≤ T (f j 0).toNat ∨ (k ≤ j ∧ r ≤ T (f j 0).toNat + 1))
  last : 0 ≤ s.L → T s.L.toNat = r
def putN (f : Nat → Nat) (j v : Nat) (k : Nat) : Nat := if k = j then v else f k
theorem putN_same (f : Nat → Nat) (j v : Nat) : putN f j v j = v := by simp [putN]
theorem putN_ne (f : Nat → Nat) {j k : Nat} (v : Nat) (h : k ≠ j) : putN f j v k = f k := by simp [putN, h]
theorem inv_relax {N : Int} {f : Nat → Nat → Int} {n r k z : Nat} {s : PSt} {T t : Nat → Nat} (hG : GRight N n f) (hr : 1 ≤ r) (hk : k < n) (h : Inv f n r k s T t z) :
    ∃ T' t' z', Inv f n r (k + 1) (relax f k s) T' t' z' := by
  have hf := hG.2.2.2 k hk
  unfold relax
  by_cases hc : s.M (f k 1).toNat < s.M (f k 0).toNat + f k 2
  · rw [if_pos hc]
    obtain ⟨v, hv⟩ : ∃ v, (f k 1).toNat = v := ⟨_, rfl⟩
    obtain ⟨u, hu⟩ : ∃ u, (f k 0).toNat = u := ⟨_, rfl⟩
    have hv1 : f k 1 = v := by omega
    have hu1 : f k 0 = u := by omega
    rw [hv, hu] at hc ⊢
    have ht := h.tight k hk
    rw [hv, hu] at ht
    have htu : r ≤ T u + 1 := by omega
    refine ⟨putN T v r, putN t v (z + 1), z + 1, ?_, ?_, ?_, ?_, ?_, ?_, ?_⟩
    · intro y
      have := h.rounds y
      unfold putN
      split <;> omega
    · intro y
      have := h.times y
      unfold putN
      split <;> omega
    · intro y hy
      by_cases e : y = v
      · subst e; rw [putN_same] at hy; omega
      · rw [putN_ne _ _ e] at hy ⊢
        show T y = 0 ∧ putAt s.M v _ y = 0
        rw [putAt_ne _ _ e]
        exact h.none_ y hy
    · intro y hy
      by_cases e : y = v
      · subst e
        refine ⟨k, hk, putAt_same _ _ _, hv1, ?_, ?_, ?_⟩
        · rw [hu, putN_same]
          by_cases e2 : u = y
          · rw [e2, putN_same]; omega
          · rw [putN_ne _ _ e2]; exact htu
        · rw [hu]
          show putAt s.M y _ y ≤ putAt s.M y _ u + _
          rw [putAt_same]
          by_cases e2 : u = y
          · rw [e2, putAt_same]; rw [e2] at hc; omega
          · rw [putAt_ne _ _ e2]; omega
        · rw [hu]
          intro hs
          show putAt s.M y _ y < putAt s.M y _ u + _
          rw [putAt_same]
          by_cases e2 : u = y
          · rw [e2, putAt_same]; rw [e2] at hc; omega
          · rw [putN_same, putN_ne _ _ e2] at hs
            have := h.times u
            omega
      · rw [putN_ne _ _ e] at hy ⊢
        obtain ⟨j, hj, h1, h2, h3, h4, h5⟩ := h.some_ y hy
        refine ⟨j, hj, by rw [← h1]; exact putAt_ne _ _ e, h2, ?_, ?_, ?_⟩
        · by_cases e2 : (f j 0).toNat = v
          · rw [e2, putN_same]
            have := h.rounds y
            omega
          · rw [putN_ne _ _ e2]
            exact h3
        · show putAt s.M v _ y ≤ putAt s.M v _ (f j 0).toNat + _
          rw [putAt_ne _ _ e]
          by_cases e2 : (f j 0).toNat = v
          · rw [e2] at h4 ⊢
            rw [putAt_same]; omega
          · rw [putAt_ne _ _ e2]; exact h4
        · intro hs
          show putAt s.M v _ y < putAt s.M v _ (f j 0).toNat + _
          rw [putAt_ne _ _ e]
          by_cases e2 : (f j 0).toNat = v
          · rw [e2] at h4 ⊢
            rw [putAt_same]; omega
          · rw [putAt_ne _ _ e2]
            rw [putN_ne _ _ e, putN_ne _ _ e2] at hs
            exact h5 hs
    · intro x y hx hxy
      by_cases e1 : x = v
      · subst e1
        by_cases e2 : y = x
        · exact e2.symm
        · rw [putN_same, putN_ne _ _ e2] at hxy
          have := h.times y
          omega
      · rw [putN_ne _ _ e1] at hx hxy
        by_cases e2 : y = v
        · subst e2
          rw [putN_same] at hxy
          have := h.times x
          omega
        · rw [putN_ne _ _ e2] at hxy
          exact h.apart x y hx hxy
    · intro j hj
      show putAt s.M v _ (f j 0).toNat + f j 2 ≤ putAt s.M v _ (f j 1).toNat ∨ _
      by_cases e1 : (f j 0).toNat = v
      · right; left
        rw [e1, putN_same]
        exact Nat.le_refl _
      · rw [putAt_ne _ _ e1, putN_ne _ _ e1]
        by_cases ejk : j = k
        · subst ejk
          left
          rw [hu, hv, putAt_same]
          exact Int.le_refl _
        · have ht2 := h.tight j hj
          by_cases e2 : (f j 1).toNat = v
          · rw [e2] at ht2 ⊢
            rw [putAt_same]
            rcases ht2 with ht2 | ht2 | ht2
            · left; omega
            · right; left; exact ht2
            · right; right; exact ⟨by omega, ht2.2⟩
          · rw [putAt_ne _ _ e2]
            rcases ht2 with ht2 | ht2 | ht2
            · left; exact ht2
            · right; left; exact ht2
            · right; right; exact ⟨by omega, ht2.2⟩
    · intro _
      show putN T v r (f k 1).toNat = r
      rw [hv, putN_same]
  · rw [if_neg hc]
    refine ⟨T, t, z, h.rounds, h.times, h.none_, h.some_, h.apart, ?_, h.last⟩
    intro j hj
    by_cases ejk : j = k
    · subst ejk
      left
      omega
    · rcases h.tight j hj with h1 | h1 | h1
      · exact .inl h1
      · exact .inr (.inl h1)
      · exact .inr (.inr ⟨by omega, h1.2⟩)
theorem inv_pass {N : Int} {f : Nat → Nat → Int} {n r z : Nat} {s : PSt} {T t : Nat → Nat} (hG : GRight N n f) (hr : 1 ≤ r) (h : Inv f n r 0 s T t z) : ∀ k, k ≤ n → ∃ T' t' z', Inv f n r k (pass f k s) T' t' z' := by
  intro k
  induction k with
  | zero => intro _; exact ⟨T, t, z, h⟩
  | succ k ih =>
    intro hk
    obtain ⟨T', t', z', h'⟩ := ih (by omega)
    exact inv_relax hG hr (by omega) h'
theorem inv_next {f : Nat → Nat → Int} {n r z : Nat} {s : PSt} {T t : Nat → Nat} (h : Inv f n r n s T t z) : Inv f n (r + 1) 0 ⟨s.M, s.B, -1⟩ T t z :=
  ⟨fun v => by have := h.rounds v; omega, h.times, h.none_, h.some_, h.apart, fun j hj => by
    rcases h.tight j hj with h1 | h1 | h1
    · exact .inl h1
    · exact .inr (.inr ⟨Nat.zero_le _, by omega⟩)
    · omega, fun h => by simp at h⟩
theorem inv_start (f : Nat → Nat → Int) (n : Nat) : Inv f n 1 0 ⟨start.M, start.B, -1⟩ (fun _ => 0) (fun _ => 0) 0 :=
  ⟨fun _ => by simp, fun _ => by simp, fun _ _ => ⟨rfl, rfl⟩, fun v h => by simp at h, fun u v h => by simp at h, fun j _ => .inr (.inr ⟨Nat.zero_le _, by simp⟩), fun h => by simp at h⟩
theorem inv_solve {N : Int} {f : Nat → Nat → Int} {n : Nat} (hG : GRight N n f) : ∀ (q r : Nat) (s : PSt) (T t : Nat → Nat) (z : Nat), 1 ≤ r → Inv f n r 0 ⟨s.M, s.B, -1⟩ T t z →
    ∃ r' T' t' z', Inv f n r' n (solveAt f n (q + 1) s) T' t' z' ∧ (0 ≤ (solveAt f n (q + 1) s).L → r' = r + q) := by
  intro q
  induction q with
  | zero =>
    intro r s T t z hr h
    obtain ⟨T', t', z', h'⟩ := inv_pass hG hr h n (Nat.le_refl _)
    refine ⟨r, T', t', z', ?_, fun _ => rfl⟩
    unfold solveAt
    split
    · exact h'
    · exact h'
  | succ q ih =>
    intro r s T t z hr h
    obtain ⟨T', t', z', h'⟩ := inv_pass hG hr h n (Nat.le_refl _)
    unfold solveAt
    by_cases hc : (rnd f n s).L < 0
    · rw [if_pos hc]
      exact ⟨r, T', t', z', h', fun h0 => by omega⟩
    · rw [if_neg hc]
      obtain ⟨r2, T2, t2, z2, h2, e2⟩ := ih (r + 1) (rnd f n s) T' t' z' (by omega) (inv_next h')
      exact ⟨r2, T2, t2, z2, h2, fun h0 => by have := e2 h0; omega⟩
theorem inv_solved {N : Nat} {f : Nat → Nat → Int} {n : Nat} (hG : GRight N n f) : ∃ r T t z, Inv f n r n (solved f n N) T t z ∧ (0 ≤ (solved f n N).L → r = N + 1) := by
  obtain ⟨r, T, t, z, h, e⟩ := inv_solve hG N 1 start _ _ _ (Nat.le_refl _) (inv_start f n)
  exact ⟨r, T, t, z, h, fun h0 => by have := e h0; omega⟩
/-- Where a round changed nothing, each edge keeps to it. -/
theorem pass_still {N : Int} {f : Nat → Nat → Int} {n : Nat} {s : PSt} (hG : GRight N n f) : ∀ k, k ≤ n → (pass f k s).L < 0 → s.L < 0 → pass f k s = s ∧ ∀ j, j < k → s.M (f j 0).toNat + f j 2 ≤ s.M (f j 1).toNat := by
  intro k
  induction k with
  | zero => intro _ _ _; exact ⟨rfl, fun j hj => absurd hj (by omega)⟩
  | succ k ih =>
    intro hk hL hs
    have hf := hG.2.2.2 k (by omega)
    have e : pass f (k + 1) s = relax f k (pass f k s) := rfl
    rw [e] at hL ⊢
    unfold relax at hL ⊢
    by_cases hc : (pass f k s).M (f k 1).toNat < (pass f k s).M (f k 0).toNat + f k 2
    · rw [if_pos hc] at hL
      simp only at hL
      omega
    · rw [if_neg hc] at hL ⊢
      obtain ⟨h1, h2⟩ := ih (by omega) hL hs
      rw [h1] at hc ⊢
      exact ⟨rfl, fun j hj => by
        rcases Nat.lt_succ_iff_lt_or_eq.1 hj with h | rfl
        · exact h2 j h
        · omega⟩
theorem solve_still {N : Int} {f : Nat → Nat → Int} {n : Nat} (hG : GRight N n f) : ∀ (q : Nat) (s : PSt), (solveAt f n (q + 1) s).L < 0 → ∀ j, j < n → (solveAt f n (q + 1) s).M (f j 0).toNat + f j 2 ≤ (solveAt f n (q + 1) s).M (f j 1).toNat := by
  intro q
  induction q with
  | zero =>
    intro s hL j hj
    have e : solveAt f n (0 + 1) s = rnd f n s := by unfold solveAt; split <;> rfl
    rw [e] at hL ⊢
    obtain ⟨h1, h2⟩ := pass_still (s := ⟨s.M, s.B, -1⟩) hG n (Nat.le_refl _) hL (by simp)
    unfold rnd
    rw [h1]
    exact h2 j hj
  | succ q ih =>
    intro s hL j hj
    unfold solveAt at hL ⊢
    by_cases hc : (rnd f n s).L < 0
    · rw [if_pos hc] at hL ⊢
      obtain ⟨h1, h2⟩ := pass_still (s := ⟨s.M, s.B, -1⟩) hG n (Nat.le_refl _) hL (by simp)
      unfold rnd
      rw [h1]
      exact h2 j hj
    · rw [if_neg hc] at hL ⊢
      exact ih _ hL j hj
theorem solved_still {N : Nat} {f : Nat → Nat → Int} {n : Nat} (hG : GRight N n f) (hL : (solved f n N).L < 0) : ∀ j, j < n → (solved f n N).M (f j 0).toNat + f j 2 ≤ (solved f n N).M (f j 1).toNat := solve_still hG N start hL
/-- Each is 0, or just so much more along some edge. -/
theorem solved_just {N : Nat} {f : Nat → Nat → Int} {n : Nat} (hG : GRight N n f) (hL : (solved f n N).L < 0) (v : Nat) : (solved f n N).M v = 0 ∨ ∃ j, j < n ∧ f j 1 = v ∧ (solved f n N).M v = (solved f n N).M (f j 0).toNat + f j 2 := by
  obtain ⟨r, T, t, z, h, _⟩ := inv_solved hG
  rcases Nat.eq_zero_or_pos (t v) with h0 | h0
  · exact .inl (h.none_ v h0).2
  · obtain ⟨j, hj, h1, h2, _, h4, _⟩ := h.some_ v h0
    have := solved_still hG hL j hj
    rw [h2, Int.toNat_natCast] at this
    exact .inr ⟨j, hj, h2, by omega⟩
theorem solve_mb {N : Nat} {f : Nat → Nat → Int} {n : Nat} (hG : GRight N n f) : ∀ (q : Nat) (s : PSt) (c : Int), 0 ≤ c → MB N c s.M → MB N (c + 5033164800 * q) (solveAt f n q s).M := by
  intro q
  induction q with
  | zero => intro s c _ h; simpa [solveAt] using h
  | succ q ih =>
    intro s c hc h
    have h1 := rnd_mb hG h hc
    unfold solveAt
    split
    · intro v hv
      have := h1 v hv
      omega
    · have h2 := ih _ _ (by omega) h1
      intro v hv
      have := h2 v hv
      omega
theorem solved_mb {N : Nat} {f : Nat → Nat → Int} {n : Nat} (hG : GRight N n f) : MB N 2000000000000 (solved f n N).M := by
  have h := solve_mb hG (N + 1) start 0 (Int.le_refl _) (fun v _ => ⟨Int.le_refl _, Int.le_refl _⟩)
  have := hG.2.1
  intro v hv
  have h1 := h v hv
  unfold solved
  omega
end Go.Tide
