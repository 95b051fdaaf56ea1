/- Edges lighter by the greatest mean; heights; what goes round at nothing: plain. Conditions: none. -/
import Derived.Test.YtnbjcohkkaijaaaVisLaw
import Derived.Test.YtnbjcohkkaijaaaPotM
set_option linter.unusedVariables false
set_option linter.unusedSimpArgs false
namespace Go.Tide
def lightF (f : Nat → Nat → Int) (P Q : Int) (k j : Nat) : Int := if j = 2 then f k 2 * Q - P else f k j
def hPass (f : Nat → Nat → Int) : Nat → (Nat → Int) → Nat → Int
  | 0, m => m
  | k + 1, m => putAt (hPass f k m) (f k 1).toNat (max (hPass f k m (f k 1).toNat) (hPass f k m (f k 0).toNat + f k 2))
def hAll (f : Nat → Nat → Int) (n : Nat) : Nat → Nat → Int
  | 0 => fun _ => 0
  | t + 1 => hPass f n (hAll f n t)
theorem hPass_succ (f : Nat → Nat → Int) (k : Nat) (m : Nat → Int) : hPass f (k + 1) m = putAt (hPass f k m) (f k 1).toNat (max (hPass f k m (f k 1).toNat) (hPass f k m (f k 0).toNat + f k 2)) := rfl
theorem wk_light {f : Nat → Nat → Int} {n : Nat} (P Q : Int) {u t v : Nat} {x : Int} (h : Wk f n u t v x) : Wk (lightF f P Q) n u t v (x * Q - t * P) := by
  induction h with
  | nil => simpa using Wk.nil u
  | snoc k hk h ih =>
    rename_i t x
    have h2 : Wk (lightF f P Q) n u (t + 1) (f k 1).toNat (x * Q - t * P + (f k 2 * Q - P)) := Wk.snoc (f := lightF f P Q) k hk ih
    rw [show (x + f k 2) * Q - ((t + 1 : Nat) : Int) * P = x * Q - t * P + (f k 2 * Q - P) by rw [Int.add_mul, Int.natCast_add, Int.add_mul]; omega]
    exact h2
theorem wk_dark {f : Nat → Nat → Int} {n : Nat} {P Q : Int} {u t v : Nat} {y : Int} (h : Wk (lightF f P Q) n u t v y) : ∃ x, y = x * Q - t * P ∧ Wk f n u t v x := by
  induction h with
  | nil => exact ⟨0, by simp, Wk.nil u⟩
  | snoc k hk h ih =>
    rename_i t y
    obtain ⟨x, e, hw⟩ := ih
    refine ⟨x + f k 2, ?_, Wk.snoc k hk hw⟩
    show y + (f k 2 * Q - P) = _
    rw [e, Int.add_mul, Int.natCast_add, Int.add_mul]
    omega
section
variable {f : Nat → Nat → Int} {n N : Nat}
theorem hPass_up (m : Nat → Int) (v : Nat) : ∀ k, m v ≤ hPass f k m v := by
  intro k
  induction k with
  | zero => exact Int.le_refl _
  | succ k ih =>
    rw [hPass_succ]
    by_cases e : v = (f k 1).toNat
    · subst e; rw [putAt_same]; omega
    · rw [putAt_ne _ _ e]; exact ih
theorem hPass_edge (m : Nat → Int) : ∀ k j, j < k → m (f j 0).toNat + f j 2 ≤ hPass f k m (f j 1).toNat := by
  intro k
  induction k with
  | zero => intro j hj; omega
  | succ k ih =>
    intro j hj
    rw [hPass_succ]
    rcases Nat.lt_succ_iff_lt_or_eq.1 hj with h | rfl
    · have h1 := ih j h
      by_cases e : (f j 1).toNat = (f k 1).toNat
      · rw [e] at h1 ⊢; rw [putAt_same]; omega
      · rw [putAt_ne _ _ e]; exact h1
    · rw [putAt_same]
      have := hPass_up (f := f) m (f j 0).toNat j
      omega
theorem hAll_pos : ∀ t v, 0 ≤ hAll f n t v := by
  intro t
  induction t with
  | zero => intro v; exact Int.le_refl _
  | succ t ih => intro v; exact Int.le_trans (ih v) (hPass_up _ v n)
theorem hAll_most {u s v : Nat} {x : Int} (h : Wk f n u s v x) : ∀ t, s ≤ t → x ≤ hAll f n t v := by
  induction h with
  | nil => intro t _; exact hAll_pos t u
  | snoc k hk h ih =>
    intro t ht
    obtain ⟨t, rfl⟩ : ∃ t', t = t' + 1 := ⟨t - 1, by omega⟩
    have h1 := ih t (by omega)
    have h2 := hPass_edge (f := f) (hAll f n t) n k hk
    show _ ≤ hPass f n (hAll f n t) _
    omega
theorem hPass_had (hG : GN N n f) {m : Nat → Int} (hm : ∀ v, v < N → ∃ u s, u < N ∧ Wk f n u s v (m v)) : ∀ k, k ≤ n → ∀ v, v < N → ∃ u s, u < N ∧ Wk f n u s v (hPass f k m v) := by
  intro k
  induction k with
  | zero => intro _; exact hm
  | succ k ih =>
    intro hk v hv
    rw [hPass_succ]
    by_cases e : v = (f k 1).toNat
    · subst e
      rw [putAt_same]
      rcases Int.le_total (hPass f k m (f k 1).toNat) (hPass f k m (f k 0).toNat + f k 2) with h | h
      · rw [Int.max_eq_right h]
        have hg := hG k (by omega)
        obtain ⟨u, s, hu, hw⟩ := ih (by omega) (f k 0).toNat (by omega)
        exact ⟨u, s + 1, hu, Wk.snoc k (by omega) hw⟩
      · rw [Int.max_eq_left h]
        exact ih (by omega) _ hv
    · rw [putAt_ne _ _ e]
      exact ih (by omega) v hv
theorem hAll_had (hG : GN N n f) : ∀ t v, v < N → ∃ u s, u < N ∧ Wk f n u s v (hAll f n t v) := by
  intro t
  induction t with
  | zero => intro v hv; exact ⟨v, 0, hv, Wk.nil v⟩
  | succ t ih => exact hPass_had hG ih n (Nat.le_refl _)
theorem hPass_in (hG : GN N n f) {m : Nat → Int} {c C : Int} (hC : 0 ≤ C) (hf : ∀ k, k < n → f k 2 ≤ C) (hm : ∀ v, v < N → m v ≤ c) : ∀ k : Nat, k ≤ n → ∀ v, v < N → hPass f k m v ≤ c + C * k := by
  intro k
  induction k with
  | zero => intro _ v hv; show m v ≤ c + C * ((0 : Nat) : Int); simpa using hm v hv
  | succ k ih =>
    intro hk v hv
    have h0 := ih (by omega) v hv
    have e2 : C * ((k + 1 : Nat) : Int) = C * k + C := by rw [Int.natCast_add, Int.mul_add]; simp
    rw [hPass_succ, e2]
    by_cases e : v = (f k 1).toNat
    · subst e
      have hg := hG k (by omega)
      have h1 := ih (by omega) (f k 0).toNat (by omega)
      have h2 := hf k (by omega)
      rw [putAt_same]
      omega
    · rw [putAt_ne _ _ e]; omega
theorem hAll_in (hG : GN N n f) {C : Int} (hC : 0 ≤ C) (hf : ∀ k, k < n → f k 2 ≤ C) : ∀ t v, v < N → hAll f n t v ≤ C * n * t := by
  intro t
  induction t with
  | zero => intro v _; simp [hAll]
  | succ t ih =>
    intro v hv
    have h := hPass_in hG hC hf ih n (Nat.le_refl _) v hv
    have e2 : C * n * ((t + 1 : Nat) : Int) = C * n * t + C * n := by rw [Int.natCast_add, Int.mul_add]; simp
    rw [e2]
    exact h
/-- Where no walk weighs more than some short one, heights are right. -/
theorem hAll_right (hG : GN N n f) (hs : ∀ u s v x, u < N → Wk f n u s v x → ∃ u' s' x', u' < N ∧ s' < N ∧ Wk f n u' s' v x' ∧ x ≤ x') : ∀ k, k < n → hAll f n N (f k 0).toNat + f k 2 ≤ hAll f n N (f k 1).toNat := by
  intro k hk
  have hg := hG k hk
  obtain ⟨u, s, hu, hw⟩ := hAll_had hG N (f k 0).toNat (by omega)
  obtain ⟨u', s', x', hu', hs', hw', hle⟩ := hs u (s + 1) _ _ hu (Wk.snoc k hk hw)
  exact Int.le_trans hle (hAll_most hw' N (by omega))
/-- What is heard from the end of a tight walk. -/
def sumL (f : Nat → Nat → Int) : List Nat → Int
  | [] => 0
  | e :: l => f e 2 + sumL f l
theorem rw_sum {h : Nat → Int} (hG : GN N n f) : ∀ (l : List Nat) (u w : Int), RW f h n u l w → sumL f l = h u.toNat - h w.toNat := by
  intro l
  induction l with
  | nil => intro u w hr; have e : u = w := hr; subst e; simp [sumL]
  | cons e l ih =>
    intro u w hr
    obtain ⟨h1, h2, h3, h4⟩ := hr
    have h5 := ih _ _ h4
    show f e 2 + sumL f l = _
    rw [h5, ← h3]
    omega
theorem sum_light (P Q : Int) : ∀ l : List Nat, sumL (lightF f P Q) l = sumL f l * Q - l.length * P := by
  intro l
  induction l with
  | nil => simp [sumL]
  | cons e l ih =>
    show (f e 2 * Q - P) + sumL (lightF f P Q) l = (f e 2 + sumL f l) * Q - ((l.length + 1 : Nat) : Int) * P
    rw [ih, Int.add_mul, Int.natCast_add, Int.add_mul]
    omega
/-- A walk's edges as a function. -/
def wOf (l : List Nat) (i : Nat) : Int := ((l.getD i 0 : Nat) : Int)
theorem wOf_app {l : List Nat} {e i : Nat} (hi : i < l.length) : wOf (l ++ [e]) i = wOf l i := by
  unfold wOf
  rw [getD_at _ (by simp; omega), getD_at _ hi, List.getElem_append_left hi]
theorem wOf_last (l : List Nat) (e : Nat) : wOf (l ++ [e]) l.length = e := by
  unfold wOf
  rw [getD_at _ (by simp)]
  simp
theorem wsum_congr {x y : Nat → Int} : ∀ m, (∀ i, i < m → x i = y i) → wSum f x m = wSum f y m := by
  intro m
  induction m with
  | zero => intro _; rfl
  | succ m ih =>
    intro h
    show wSum f x m + f (x m).toNat 2 = wSum f y m + f (y m).toNat 2
    rw [ih fun i hi => h i (by omega), h m (by omega)]
/-- A tight walk told from its end is a walk told from its beginning. -/
theorem rw_walk {h : Nat → Int} : ∀ (l : List Nat) (u w : Int), RW f h n u l w →
    WalkOk n f l.length (wOf l.reverse) ∧ wSum f (wOf l.reverse) l.length = sumL f l ∧ (l ≠ [] → f (wOf l.reverse 0).toNat 0 = w ∧ f (wOf l.reverse (l.length - 1)).toNat 1 = u) := by
  intro l
  induction l with
  | nil => intro u w _; exact ⟨fun k hk => absurd hk (by simp), rfl, fun hn => absurd rfl hn⟩
  | cons e l ih =>
    intro u w hr
    obtain ⟨h1, h2, h3, h4⟩ := hr
    obtain ⟨a1, a2, a3⟩ := ih _ _ h4
    have hl : l.reverse.length = l.length := List.length_reverse
    have e1 : ∀ i, i < l.length → wOf (e :: l).reverse i = wOf l.reverse i := fun i hi => by
      rw [List.reverse_cons]
      exact wOf_app (by omega)
    have e2 : wOf (e :: l).reverse l.length = e := by
      rw [List.reverse_cons, ← hl]
      exact wOf_last _ _
    refine ⟨fun k hk => ?_, ?_, fun _ => ⟨?_, ?_⟩⟩
    · have hk2 : k < l.length + 1 := hk
      rcases Nat.lt_succ_iff_lt_or_eq.1 hk2 with h5 | rfl
      · have h6 := a1 k h5
        rw [e1 k h5]
        refine ⟨h6.1, h6.2.1, fun h0 => ?_⟩
        rw [e1 (k - 1) (by omega)]
        exact h6.2.2 h0
      · rw [e2]
        refine ⟨by omega, by omega, fun h0 => ?_⟩
        rw [e1 (l.length - 1) (by omega), Int.toNat_natCast]
        exact (a3 (by intro hn; subst hn; simp at h0)).2
    · show wSum f (wOf (e :: l).reverse) (l.length + 1) = f e 2 + sumL f l
      show wSum f (wOf (e :: l).reverse) l.length + f (wOf (e :: l).reverse l.length).toNat 2 = _
      rw [e2, wsum_congr l.length e1, a2, Int.toNat_natCast]
      omega
    · cases l with
      | nil =>
        have h5 : f e 0 = w := h4
        show f (wOf [e] 0).toNat 0 = w
        exact h5
      | cons e' l' =>
        rw [e1 0 (by simp)]
        exact (a3 (by simp)).1
    · show f (wOf (e :: l).reverse (l.length + 1 - 1)).toNat 1 = u
      rw [Nat.add_sub_cancel, e2, Int.toNat_natCast]
      exact h3
end
/-- The best's edges, lighter by it, go nowhere above nothing. -/
theorem light_short {N n : Nat} {f : Nat → Nat → Int} (hG : GRight N n f) (h : (best f n N).2 ≠ 0) {P Q g : Int} (hg : 1 ≤ g) (hP : P * g = (best f n N).1) (hQ : Q * g = (best f n N).2) (hQ1 : 1 ≤ Q) :
    ∀ u s v y, u < N → Wk (lightF f P Q) n u s v y → ∃ u' s' y', u' < N ∧ s' < N ∧ Wk (lightF f P Q) n u' s' v y' ∧ y ≤ y' := by
  intro u s v y hu hw
  obtain ⟨x, rfl, hx⟩ := wk_dark hw
  have hd := best_den h
  obtain ⟨u', t', x', hu', ht', hw', hle⟩ := karp_none hG P Q (by omega) (fun v hv hne => by
    rcases best_of (F := mF f n) (N := N) (fun _ => rfl) (by omega) N (Nat.le_refl _) with ⟨_, h2⟩ | ⟨_, h2, _, h3⟩
    · exact absurd (h2 v hv) hne
    · have h4 := h3 v hv hne
      rcases least_of_row (F := mF f n) (N := N) (v := v) N (Nat.le_refl _) with ⟨_, h5⟩ | ⟨⟨q, h5, h6, h7⟩, _⟩
      · have := h5 0 (by omega)
        exact absurd this (by show (0 : Int) ≠ _; omega)
      · rw [h7] at h4
        refine ⟨q, h5, h6, ?_⟩
        have h8 : (mF f n N v - mF f n q v) * (best f n N).2 ≤ (best f n N).1 * ((N : Int) - q) := h4
        rw [← hP, ← hQ] at h8
        have h9 : ((mF f n N v - mF f n q v) * Q) * g ≤ (P * ((N : Int) - q)) * g := by grind
        exact Int.le_of_mul_le_mul_right h9 (by omega)) hx hu
  exact ⟨u', t', _, hu', ht', wk_light P Q hw', hle⟩
theorem gright_gn {N n : Nat} {f : Nat → Nat → Int} (hG : GRight N n f) : GN N n f := fun k hk => by have := hG.2.2.2 k hk; omega
theorem light_gn {N n : Nat} {f : Nat → Nat → Int} (P Q : Int) (hG : GN N n f) : GN N n (lightF f P Q) := hG
/-- One is found. -/
theorem light_found {N n : Nat} {f : Nat → Nat → Int} (hG : GRight N n f) (h : (best f n N).2 ≠ 0) {P Q g : Int} (hg : 1 ≤ g) (hP : P * g = (best f n N).1) (hQ : Q * g = (best f n N).2) (hQ1 : 1 ≤ Q) :
    (visAll (lightF f P Q) (hAll (lightF f P Q) n N) n N N).2 ≠ [] := by
  obtain ⟨m, j, c, hm, hj, hw, he⟩ := best_ge hG h
  have hGN := light_gn P Q (gright_gn hG)
  have h0 : c * Q - j * P = 0 := by
    rw [← hP, ← hQ] at he
    have h2 : (c * Q - j * P) * g = 0 := by grind
    rcases Int.mul_eq_zero.1 h2 with h3 | h3
    · exact h3
    · omega
  have hw2 := wk_light P Q hw
  rw [h0] at hw2
  exact vis_found hGN hm (wk_round hGN (hAll_right hGN (light_short hG h hg hP hQ hQ1)) hj hw2)
/-- What is found is a cycle that weighs so much by the edge. -/
theorem light_is {N n : Nat} {f : Nat → Nat → Int} (hG : GRight N n f) {P Q : Int} {l : List Nat} (hl : l = (visAll (lightF f P Q) (hAll (lightF f P Q) n N) n N N).2) (hne : l ≠ []) :
    WalkOk n f l.length (wOf l) ∧ wSum f (wOf l) l.length * Q = P * l.length ∧ f (wOf l 0).toNat 0 = f (wOf l (l.length - 1)).toNat 1 := by
  have hGN := light_gn P Q (gright_gn hG)
  obtain ⟨x, hr⟩ := (visAll_ok (h := hAll (lightF f P Q) n N) hGN N (Nat.le_refl _)).2 (by rw [← hl]; exact hne)
  rw [← hl] at hr
  have hs := rw_sum hGN _ _ _ hr
  obtain ⟨a1, a2, a3⟩ := rw_walk _ _ _ hr
  rw [List.reverse_reverse, List.length_reverse] at a1 a2 a3
  have a4 := a3 (by simpa using hne)
  have hsl := sum_light (f := f) P Q l.reverse
  rw [List.length_reverse] at hsl
  have a1' : WalkOk n f l.length (wOf l) := a1
  have hwk : wSum f (wOf l) l.length = sumL f l.reverse := by
    have h1 := rw_walk (f := f) (h := fun _ => 0) (n := n)
    have : ∀ q : List Nat, wSum f (wOf q.reverse) q.length = sumL f q := by
      intro q
      induction q with
      | nil => rfl
      | cons e q ih =>
        have hl : q.reverse.length = q.length := List.length_reverse
        have e1 : ∀ i, i < q.length → wOf (e :: q).reverse i = wOf q.reverse i := fun i hi => by
          rw [List.reverse_cons]
          exact wOf_app (by omega)
        have e2 : wOf (e :: q).reverse q.length = e := by
          rw [List.reverse_cons, ← hl]
          exact wOf_last _ _
        show wSum f (wOf (e :: q).reverse) q.length + f (wOf (e :: q).reverse q.length).toNat 2 = f e 2 + sumL f q
        rw [e2, wsum_congr q.length e1, ih, Int.toNat_natCast]
        omega
    have h2 := this l.reverse
    rw [List.reverse_reverse, List.length_reverse] at h2
    exact h2
  refine ⟨a1', ?_, ?_⟩
  · rw [hwk, Int.mul_comm P]
    rw [hs] at hsl
    omega
  · exact a4.1.trans a4.2.symm
end Go.Tide
