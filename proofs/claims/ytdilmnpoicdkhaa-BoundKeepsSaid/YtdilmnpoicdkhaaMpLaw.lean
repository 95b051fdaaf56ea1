/- Plain laws of numbers that end at Inf, of curves and of least sums: no program in sight. Conditions: none. -/
import Derived.Test.YtdilmnpoicdkhaaCurve
set_option linter.unusedVariables false
set_option linter.unusedSimpArgs false
namespace Go.Tide
theorem fit_fit (a : Int) : fit (fit a) = fit a := by simp only [fit]; omega
theorem fit_plus (a b : Int) : fit (plus a b) = plus a b := fit_of (plus_bounds a b).1 (plus_bounds a b).2
theorem plus_comm (a b : Int) : plus a b = plus b a := by simp only [plus]; omega
theorem plus_fit_left (a b : Int) : plus (fit a) b = plus a b := by simp only [plus, fit_fit]
theorem plus_fit_right (a b : Int) : plus a (fit b) = plus a b := by simp only [plus, fit_fit]
theorem plus_assoc (a b c : Int) : plus (plus a b) c = plus a (plus b c) := by
  have h1 := fit_bounds a
  have h2 := fit_bounds b
  have h3 := fit_bounds c
  unfold plus
  rw [fit_of (a := min (fit a + fit b) 1152921504606846976) (by omega) (by omega), fit_of (a := min (fit b + fit c) 1152921504606846976) (by omega) (by omega)]
  omega
theorem plus_mono {a a' b b' : Int} (h : fit a ≤ fit a') (k : fit b ≤ fit b') : plus a b ≤ plus a' b' := by simp only [plus]; omega
theorem plus_zero_right (a : Int) : plus a 0 = fit a := by have := fit_bounds a; unfold plus; rw [fit_of (a := 0) (by omega) (by omega)]; omega
theorem plus_zero_left (a : Int) : plus 0 a = fit a := by rw [plus_comm]; exact plus_zero_right a
theorem plus_inf_right (a : Int) : plus a 1152921504606846976 = 1152921504606846976 := by have := fit_bounds a; unfold plus; rw [fit_of (a := 1152921504606846976) (by omega) (by omega)]; omega
theorem fit_mono {a b : Int} (h : a ≤ b) : fit a ≤ fit b := by simp only [fit]; omega
theorem fit_le_plus (a b : Int) : fit a ≤ plus a b := by have := fit_bounds a; have := fit_bounds b; unfold plus; omega
theorem plus_lower (a b c : Int) : plus a (min (fit b) (fit c)) = min (plus a b) (plus a c) := by
  have h1 := fit_bounds a
  have h2 := fit_bounds b
  have h3 := fit_bounds c
  unfold plus
  rw [fit_of (a := min (fit b) (fit c)) (by omega) (by omega)]
  omega

/-- Least sums, up to some tick of the first. -/
def convTo (f g : Nat → Int) (t : Nat) : Nat → Int
  | 0 => 1152921504606846976
  | s + 1 => min (convTo f g t s) (plus (f s) (g (t - s)))
def conv (f g : Nat → Int) (t : Nat) : Int := convTo f g t (t + 1)
theorem convTo_le (f g : Nat → Int) (t : Nat) : ∀ n s, s < n → convTo f g t n ≤ plus (f s) (g (t - s)) := by
  intro n
  induction n with
  | zero => intro s hs; omega
  | succ n ih =>
    intro s hs
    simp only [convTo]
    rcases Nat.lt_succ_iff_lt_or_eq.1 hs with h | h
    · have := ih s h; omega
    · subst h; omega
theorem convTo_at (f g : Nat → Int) (t : Nat) : ∀ n, 0 < n → ∃ s, s < n ∧ convTo f g t n = plus (f s) (g (t - s)) := by
  intro n
  induction n with
  | zero => intro h; omega
  | succ n ih =>
    intro _
    have hb := plus_bounds (f n) (g (t - n))
    simp only [convTo]
    by_cases hn : 0 < n
    · obtain ⟨s, hs, e⟩ := ih hn
      by_cases hc : convTo f g t n ≤ plus (f n) (g (t - n))
      · exact ⟨s, by omega, by rw [← e]; omega⟩
      · exact ⟨n, by omega, by omega⟩
    · obtain rfl : n = 0 := by omega
      exact ⟨0, by omega, by simp only [convTo]; omega⟩
theorem conv_le (f g : Nat → Int) {t s : Nat} (h : s ≤ t) : conv f g t ≤ plus (f s) (g (t - s)) := convTo_le f g t (t + 1) s (by omega)
theorem conv_le' (f g : Nat → Int) (s r : Nat) : conv f g (s + r) ≤ plus (f s) (g r) := by
  have := conv_le f g (t := s + r) (s := s) (by omega)
  rwa [Nat.add_sub_cancel_left] at this
theorem conv_at (f g : Nat → Int) (t : Nat) : ∃ s r, s + r = t ∧ conv f g t = plus (f s) (g r) := by
  obtain ⟨s, hs, e⟩ := convTo_at f g t (t + 1) (by omega)
  exact ⟨s, t - s, by omega, e⟩
theorem conv_bounds (f g : Nat → Int) (t : Nat) : 0 ≤ conv f g t ∧ conv f g t ≤ 1152921504606846976 := by
  obtain ⟨s, r, _, e⟩ := conv_at f g t
  rw [e]
  exact plus_bounds _ _
theorem convTo_bounds (f g : Nat → Int) (t n : Nat) : 0 ≤ convTo f g t n ∧ convTo f g t n ≤ 1152921504606846976 := by
  induction n with
  | zero => simp only [convTo]; omega
  | succ n ih => have := plus_bounds (f n) (g (t - n)); simp only [convTo]; omega
theorem fit_conv (f g : Nat → Int) (t : Nat) : fit (conv f g t) = conv f g t := fit_of (conv_bounds f g t).1 (conv_bounds f g t).2
theorem conv_mono {f g f' g' : Nat → Int} {t : Nat} (hf : ∀ s, s ≤ t → fit (f s) ≤ fit (f' s)) (hg : ∀ s, s ≤ t → fit (g s) ≤ fit (g' s)) : conv f g t ≤ conv f' g' t := by
  obtain ⟨s, r, hs, e⟩ := conv_at f' g' t
  rw [e]
  subst hs
  exact Int.le_trans (conv_le' f g s r) (plus_mono (hf s (by omega)) (hg r (by omega)))
theorem conv_congr {f g f' g' : Nat → Int} {t : Nat} (hf : ∀ s, s ≤ t → f s = f' s) (hg : ∀ s, s ≤ t → g s = g' s) : conv f g t = conv f' g' t :=
  Int.le_antisymm (conv_mono (fun s hs => by rw [hf s hs]; exact Int.le_refl _) (fun s hs => by rw [hg s hs]; exact Int.le_refl _)) (conv_mono (fun s hs => by rw [hf s hs]; exact Int.le_refl _) (fun s hs => by rw [hg s hs]; exact Int.le_refl _))
theorem conv_comm_le (f g : Nat → Int) (t : Nat) : conv f g t ≤ conv g f t := by
  obtain ⟨s, r, hs, e⟩ := conv_at g f t
  rw [e, plus_comm, ← hs, Nat.add_comm]
  exact conv_le' f g r s
theorem conv_comm (f g : Nat → Int) (t : Nat) : conv f g t = conv g f t := Int.le_antisymm (conv_comm_le f g t) (conv_comm_le g f t)
theorem conv_assoc_le (f g h : Nat → Int) (t : Nat) : conv (conv f g) h t ≤ conv f (conv g h) t := by
  obtain ⟨s, r, hs, e⟩ := conv_at f (conv g h) t
  obtain ⟨u, v, hu, e2⟩ := conv_at g h r
  rw [e, e2, ← plus_assoc, ← hs, ← hu, ← Nat.add_assoc]
  refine Int.le_trans (conv_le' (conv f g) h (s + u) v) (plus_mono ?_ (Int.le_refl _))
  exact fit_mono (conv_le' f g s u)
theorem conv_assoc (f g h : Nat → Int) (t : Nat) : conv f (conv g h) t = conv (conv f g) h t := by
  refine Int.le_antisymm ?_ (conv_assoc_le f g h t)
  obtain ⟨s, r, hs, e⟩ := conv_at (conv f g) h t
  obtain ⟨u, v, hu, e2⟩ := conv_at f g s
  rw [e, e2, plus_assoc, ← hs, ← hu, Nat.add_assoc]
  refine Int.le_trans (conv_le' f (conv g h) u (v + r)) (plus_mono (Int.le_refl _) ?_)
  exact fit_mono (conv_le' g h v r)
theorem conv_lower (f g h : Nat → Int) (t : Nat) : conv f (lowerOf g h) t = lowerOf (conv f g) (conv f h) t := by
  unfold lowerOf
  rw [fit_conv, fit_conv]
  refine Int.le_antisymm ?_ ?_
  · obtain ⟨s, r, hs, e⟩ := conv_at f g t
    obtain ⟨s', r', hs', e'⟩ := conv_at f h t
    have h1 := conv_le' f (lowerOf g h) s r
    have h2 := conv_le' f (lowerOf g h) s' r'
    rw [hs] at h1
    rw [hs'] at h2
    have h3 : plus (f s) (lowerOf g h r) = min (plus (f s) (g r)) (plus (f s) (h r)) := plus_lower _ _ _
    have h4 : plus (f s') (lowerOf g h r') = min (plus (f s') (g r')) (plus (f s') (h r')) := plus_lower _ _ _
    unfold lowerOf at *
    omega
  · obtain ⟨s, r, hs, e⟩ := conv_at f (lowerOf g h) t
    have h3 : plus (f s) (lowerOf g h r) = min (plus (f s) (g r)) (plus (f s) (h r)) := plus_lower _ _ _
    have h1 := conv_le' f g s r
    have h2 := conv_le' f h s r
    rw [hs] at h1 h2
    unfold lowerOf at *
    omega
def unitOf : Nat → Int
  | 0 => 0
  | _ + 1 => 1152921504606846976
theorem conv_unit (f : Nat → Int) (t : Nat) : conv f unitOf t = fit (f t) := by
  refine Int.le_antisymm ?_ ?_
  · have := conv_le' f unitOf t 0
    rw [Nat.add_zero] at this
    exact Int.le_trans this (by show plus (f t) 0 ≤ _; rw [plus_zero_right]; exact Int.le_refl _)
  · obtain ⟨s, r, hs, e⟩ := conv_at f unitOf t
    rw [e]
    cases r with
    | zero => rw [Nat.add_zero] at hs; subst hs; exact fit_le_plus _ _
    | succ r => show _ ≤ plus (f s) 1152921504606846976; rw [plus_inf_right]; exact (fit_bounds _).2

/-- The most by which f has more than g did so much ahead. -/
def overTo (f g : Nat → Int) (t : Nat) : Nat → Int
  | 0 => 0
  | u + 1 => max (overTo f g t u) (less (f (t + u)) (g u))
def overOf (n m : Nat) (f g : Nat → Int) (t : Nat) : Int := overTo f g t (min m (n - t))
theorem overTo_bounds (f g : Nat → Int) (t n : Nat) : 0 ≤ overTo f g t n ∧ overTo f g t n ≤ 1152921504606846976 := by
  induction n with
  | zero => simp only [overTo]; omega
  | succ n ih => have := less_bounds (f (t + n)) (g n); simp only [overTo]; omega
theorem overTo_le (f g : Nat → Int) (t n : Nat) (x : Int) (hx : 0 ≤ x) : overTo f g t n ≤ x ↔ ∀ u, u < n → less (f (t + u)) (g u) ≤ x := by
  induction n with
  | zero => simp only [overTo]; exact ⟨fun _ u hu => by omega, fun _ => hx⟩
  | succ n ih =>
    simp only [overTo]
    constructor
    · intro h u hu
      rcases Nat.lt_succ_iff_lt_or_eq.1 hu with h2 | h2
      · exact ih.1 (by omega) u h2
      · subst h2; omega
    · intro h
      have := ih.2 (fun u hu => h u (by omega))
      have := h n (by omega)
      omega
/-- No number but Inf is above Most. -/
def Tame (x : Int) : Prop := fit x ≤ 1099511627776 ∨ fit x = 1152921504606846976
theorem less_adj {a b c : Int} (ha : Tame a) (hb : Tame b) (hc : Tame c) : less a b ≤ fit c ↔ fit a ≤ plus b c := by
  have h1 := fit_bounds a
  have h2 := fit_bounds b
  have h3 := fit_bounds c
  unfold Tame at *
  unfold less plus
  generalize fit a = x at *
  generalize fit b = y at *
  generalize fit c = z at *
  constructor
  · intro h; (repeat' split at h) <;> omega
  · intro h; (repeat' split) <;> omega
theorem over_adj {n : Nat} {f g h : Nat → Int} (hf : ∀ k, k < n → Tame (f k)) (hg : ∀ k, k < n → Tame (g k)) (hh : ∀ k, k < n → Tame (h k)) :
    CWithin n n (overOf n n f g) h ↔ CWithin n n f (conv g h) := by
  constructor
  · intro H t ht _
    rw [fit_conv]
    obtain ⟨s, r, hs, e⟩ := conv_at g h t
    rw [e]
    subst hs
    refine (less_adj (hf _ ht) (hg s (by omega)) (hh r (by omega))).1 ?_
    have h1 := H r (by omega) (by omega)
    have h2 := (overTo_le f g r (min n (n - r)) (fit (h r)) (fit_bounds _).1).1 (by rw [← fit_of (overTo_bounds f g r _).1 (overTo_bounds f g r _).2]; exact h1) s (by omega)
    rwa [Nat.add_comm r s] at h2
  · intro H t ht _
    have hb := overTo_bounds f g t (min n (n - t))
    unfold overOf
    rw [fit_of hb.1 hb.2]
    refine (overTo_le f g t _ _ (fit_bounds _).1).2 fun u hu => ?_
    refine (less_adj (hf _ (by omega)) (hg u (by omega)) (hh t ht)).2 ?_
    have h1 := H (t + u) (by omega) (by omega)
    rw [fit_conv, Nat.add_comm] at h1
    rw [Nat.add_comm]
    exact Int.le_trans h1 (conv_le' g h u t)

theorem ofRow_sorted (f : Nat → Int) (n : Nat) : Sorted n (ofRow f) := by
  intro k _
  show ofRow f k ≤ plus (ofRow f k) (f k)
  have := fit_le_plus (ofRow f k) (f k)
  rwa [fit_of (ofRow_bounds f k).1 (ofRow_bounds f k).2] at this
theorem ofRow_right (f : Nat → Int) (n : Nat) : CRight (n + 1) (ofRow f) := ⟨by omega, rfl, ofRow_sorted f _, fit_of (ofRow_bounds f _).1 (ofRow_bounds f _).2⟩
theorem CRight.bounds {n : Nat} {f : Nat → Int} (h : CRight n f) : ∀ k, k < n → 0 ≤ f k ∧ f k ≤ 1152921504606846976 := by
  intro k hk
  obtain ⟨h0, h1, h2, h3⟩ := h
  have h4 := Sorted.le h2 0 k (by omega) hk
  have h5 := Sorted.le h2 k (n - 1) (by omega) (by omega)
  have h6 := fit_bounds (f (n - 1))
  omega
theorem steps_back {n : Nat} {f : Nat → Int} (h : ofRow f n < 1152921504606846976) : ∀ k, k < n → stepsOf (ofRow f) k = fit (f k) := by
  intro k hk
  have h1 := Sorted.le (ofRow_sorted f (n + 1)) k n (by omega) (by omega)
  have h2 := Sorted.le (ofRow_sorted f (n + 1)) (k + 1) n (by omega) (by omega)
  have h3 := ofRow_bounds f k
  have h4 := ofRow_bounds f (k + 1)
  have h5 := fit_bounds (f k)
  have h6 : ofRow f (k + 1) = min (ofRow f k + fit (f k)) 1152921504606846976 := by
    show plus _ _ = _
    unfold plus
    rw [fit_of h3.1 h3.2]
  unfold stepsOf less
  rw [fit_of h3.1 h3.2, fit_of h4.1 h4.2]
  (repeat' split) <;> omega
theorem of_steps {n : Nat} {f : Nat → Int} (h : CRight n f) : ∀ k, k < n → ofRow (stepsOf f) k = f k := by
  intro k
  have hb := h.bounds
  obtain ⟨h0, h1, h2, h3⟩ := h
  induction k with
  | zero => intro _; rw [h1]; rfl
  | succ k ih =>
    intro hk
    have h4 := hb k (by omega)
    have h5 := hb (k + 1) hk
    have h6 := h2 k hk
    show plus (ofRow (stepsOf f) k) (less (f (k + 1)) (f k)) = _
    rw [ih (by omega)]
    have h7 := less_bounds (f (k + 1)) (f k)
    unfold plus
    rw [fit_of h4.1 h4.2, fit_of h7.1 h7.2]
    unfold less
    rw [fit_of h4.1 h4.2, fit_of h5.1 h5.2]
    (repeat' split) <;> omega
theorem lowerOf_bounds (f g : Nat → Int) (k : Nat) : 0 ≤ lowerOf f g k ∧ lowerOf f g k ≤ 1152921504606846976 := by
  have := fit_bounds (f k); have := fit_bounds (g k); unfold lowerOf; omega
theorem fit_lower (f g : Nat → Int) (k : Nat) : fit (lowerOf f g k) = lowerOf f g k := fit_of (lowerOf_bounds f g k).1 (lowerOf_bounds f g k).2
theorem lower_left (n m : Nat) (f g : Nat → Int) : CWithin n m (lowerOf f g) f := by intro t _ _; rw [fit_lower]; unfold lowerOf; omega
theorem lower_right (n m : Nat) (f g : Nat → Int) : CWithin n m (lowerOf f g) g := by intro t _ _; rw [fit_lower]; unfold lowerOf; omega
theorem lower_greatest {n m : Nat} {f g h : Nat → Int} : CWithin (min n m) (min n m) h (lowerOf f g) ↔ CWithin (min n m) n h f ∧ CWithin (min n m) m h g := by
  constructor
  · intro H
    refine ⟨fun t h1 h2 => ?_, fun t h1 h2 => ?_⟩
    · have := H t h1 h1; rw [fit_lower] at this; unfold lowerOf at this; omega
    · have := H t h1 h1; rw [fit_lower] at this; unfold lowerOf at this; omega
  · rintro ⟨H, K⟩ t h1 h2
    have := H t h1 (by omega)
    have := K t h1 (by omega)
    rw [fit_lower]; unfold lowerOf; omega
theorem plus_swap (a b c d : Int) : plus (plus a b) (plus c d) = plus (plus a c) (plus b d) := by
  rw [plus_assoc, plus_assoc, ← plus_assoc b c d, plus_comm b c, plus_assoc c b d]
theorem sum_of (a b : Nat → Int) (k : Nat) : sumOf (ofRow a) (ofRow b) k = ofRow (fun k => plus (a k) (b k)) k := by
  unfold sumOf
  rw [plus_fit_left, plus_fit_right]
  induction k with
  | zero => show plus 0 0 = 0; decide
  | succ k ih =>
    show plus (plus _ _) (plus _ _) = plus (ofRow _ k) (plus _ _)
    rw [← ih, plus_swap]
theorem sum_right (a b : Nat → Int) (n : Nat) : CRight (n + 1) (sumOf (ofRow a) (ofRow b)) := by
  have : sumOf (ofRow a) (ofRow b) = ofRow (fun k => plus (a k) (b k)) := funext (sum_of a b)
  rw [this]
  exact ofRow_right _ n
theorem lower_of_right (a b : Nat → Int) (n : Nat) : CRight (n + 1) (lowerOf (ofRow a) (ofRow b)) := by
  refine ⟨by omega, ?_, ?_, fit_lower _ _ _⟩
  · show min (fit 0) (fit 0) = 0; decide
  · intro k hk
    have h1 := ofRow_sorted a (n + 1) k hk
    have h2 := ofRow_sorted b (n + 1) k hk
    have h3 := fit_mono h1
    have h4 := fit_mono h2
    unfold lowerOf
    omega
theorem conv_right {n m : Nat} {f g : Nat → Int} (hf : CRight n f) (hg : CRight m g) : CRight (min n m) (conv f g) := by
  obtain ⟨f0, f1, f2, f3⟩ := hf
  obtain ⟨g0, g1, g2, g3⟩ := hg
  refine ⟨by omega, ?_, ?_, fit_conv _ _ _⟩
  · have h1 := conv_le' f g 0 0
    have h2 := conv_bounds f g 0
    rw [f1, g1] at h1
    have : plus 0 0 = 0 := by decide
    rw [Nat.add_zero] at h1
    omega
  · intro t ht
    obtain ⟨s, r, hs, e⟩ := conv_at f g (t + 1)
    rw [e]
    cases r with
    | zero =>
      rw [Nat.add_zero] at hs
      subst hs
      have := conv_le' f g t 0
      rw [Nat.add_zero] at this
      exact Int.le_trans this (plus_mono (fit_mono (f2 t (by omega))) (Int.le_refl _))
    | succ r =>
      have := conv_le' f g s r
      rw [show s + r = t by omega] at this
      exact Int.le_trans this (plus_mono (Int.le_refl _) (fit_mono (g2 r (by omega))))
theorem conv_low {n m : Nat} {f g : Nat → Int} (hf : CRight n f) (hg : CRight m g) (k k' : Nat) : CWithin k k' (conv f g) (lowerOf f g) := by
  obtain ⟨f0, f1, f2, f3⟩ := hf
  obtain ⟨g0, g1, g2, g3⟩ := hg
  intro t _ _
  rw [fit_conv, fit_lower]
  have h1 := conv_le' f g t 0
  have h2 := conv_le' f g 0 t
  rw [g1, plus_zero_right, Nat.add_zero] at h1
  rw [f1, plus_zero_left, Nat.zero_add] at h2
  unfold lowerOf
  omega

/-- The least of a number and what two parts come to, so far. -/
def clTo (c : Nat → Int) (t : Nat) (x : Int) : Nat → Int
  | 0 => x
  | s + 1 => min (clTo c t x s) (plus (c (s + 1)) (c (t - (s + 1))))
/-- The greatest below f that is never more than its parts: number t, where those ahead of it are c's. -/
def clNext (f c : Nat → Int) (t : Nat) : Int := if t = 0 then 0 else clTo c t (fit (f t)) (t - 1)
def clList (f : Nat → Int) : Nat → List Int
  | 0 => []
  | k + 1 => clList f k ++ [clNext f (fun j => (clList f k).getD j 0) k]
def clOf (f : Nat → Int) (t : Nat) : Int := (clList f (t + 1)).getD t 0
theorem clList_length (f : Nat → Int) (k : Nat) : (clList f k).length = k := by
  induction k with
  | zero => rfl
  | succ k ih => simp [clList, ih]
theorem clList_get (f : Nat → Int) (k : Nat) : ∀ j, j < k → (clList f k).getD j 0 = clOf f j := by
  induction k with
  | zero => intro j hj; omega
  | succ k ih =>
    intro j hj
    rcases Nat.lt_succ_iff_lt_or_eq.1 hj with h | h
    · rw [← ih j h]
      simp [clList, List.getD, List.getElem?_append, clList_length, h]
    · subst h; rfl
theorem clTo_congr {c d : Nat → Int} {t : Nat} (x : Int) : ∀ s, s < t → (∀ j, j < t → c j = d j) → clTo c t x s = clTo d t x s := by
  intro s
  induction s with
  | zero => intro _ _; rfl
  | succ s ih => intro hs h; simp only [clTo]; rw [ih (by omega) h, h (s + 1) hs, h (t - (s + 1)) (by omega)]
theorem clNext_congr {f c d : Nat → Int} {t : Nat} (h : ∀ j, j < t → c j = d j) : clNext f c t = clNext f d t := by
  unfold clNext
  split
  · rfl
  · exact clTo_congr _ _ (by omega) h
theorem clOf_eq (f : Nat → Int) (t : Nat) : clOf f t = clNext f (clOf f) t := by
  have h1 : clOf f t = clNext f (fun j => (clList f t).getD j 0) t := by
    unfold clOf
    simp [clList, List.getD, clList_length]
  rw [h1]
  exact clNext_congr fun j hj => clList_get f t j hj
theorem clTo_bounds {c : Nat → Int} {t : Nat} {x : Int} (hx : 0 ≤ x ∧ x ≤ 1152921504606846976) (s : Nat) : 0 ≤ clTo c t x s ∧ clTo c t x s ≤ 1152921504606846976 := by
  induction s with
  | zero => exact hx
  | succ s ih => have := plus_bounds (c (s + 1)) (c (t - (s + 1))); simp only [clTo]; omega
theorem clOf_bounds (f : Nat → Int) (t : Nat) : 0 ≤ clOf f t ∧ clOf f t ≤ 1152921504606846976 := by
  rw [clOf_eq]
  unfold clNext
  split
  · omega
  · exact clTo_bounds (fit_bounds _) _
theorem fit_cl (f : Nat → Int) (t : Nat) : fit (clOf f t) = clOf f t := fit_of (clOf_bounds f t).1 (clOf_bounds f t).2
theorem clTo_le {c : Nat → Int} {t : Nat} {x : Int} (s : Nat) : clTo c t x s ≤ x ∧ ∀ j, 1 ≤ j → j ≤ s → clTo c t x s ≤ plus (c j) (c (t - j)) := by
  induction s with
  | zero => exact ⟨Int.le_refl _, fun j h1 h2 => by omega⟩
  | succ s ih =>
    simp only [clTo]
    refine ⟨by omega, fun j h1 h2 => ?_⟩
    rcases Nat.lt_or_ge s j with h | h
    · obtain rfl : j = s + 1 := by omega
      omega
    · have := ih.2 j h1 h
      omega
theorem clTo_ge {c : Nat → Int} {t : Nat} {x y : Int} (s : Nat) (hx : y ≤ x) (h : ∀ j, 1 ≤ j → j ≤ s → y ≤ plus (c j) (c (t - j))) : y ≤ clTo c t x s := by
  induction s with
  | zero => exact hx
  | succ s ih =>
    have h1 := ih fun j h1 h2 => h j h1 (by omega)
    have h2 := h (s + 1) (by omega) (by omega)
    simp only [clTo]
    omega
theorem cl_zero (f : Nat → Int) : clOf f 0 = 0 := by rw [clOf_eq]; rfl
theorem cl_le (f : Nat → Int) {t : Nat} (ht : 0 < t) : clOf f t ≤ fit (f t) := by
  rw [clOf_eq]
  unfold clNext
  rw [if_neg (by omega)]
  exact (clTo_le _).1
/-- What is closed is never more than its parts. -/
theorem cl_parts (f : Nat → Int) (s r : Nat) : clOf f (s + r) ≤ plus (clOf f s) (clOf f r) := by
  cases s with
  | zero => rw [cl_zero, Nat.zero_add, plus_zero_left, fit_cl]; exact Int.le_refl _
  | succ s =>
    cases r with
    | zero => rw [cl_zero, Nat.add_zero, plus_zero_right, fit_cl]; exact Int.le_refl _
    | succ r =>
      rw [clOf_eq]
      unfold clNext
      rw [if_neg (by omega)]
      have h := (clTo_le (c := clOf f) (t := s + 1 + (r + 1)) (x := fit (f (s + 1 + (r + 1)))) (s + 1 + (r + 1) - 1)).2 (s + 1) (by omega) (by omega)
      rwa [show s + 1 + (r + 1) - (s + 1) = r + 1 by omega] at h
/-- What minplus.Parts asks. -/
def Parts (n : Nat) (f : Nat → Int) : Prop := n = 0 ∨ fit (f 0) = 0 ∧ CWithin n n f (conv f f)
noncomputable def mparts (n : Nat) (f : Nat → Int) : Bool := @decide (Parts n f) (Classical.propDecidable _)
theorem parts_iff {n : Nat} {f : Nat → Int} : mparts n f = true ↔ Parts n f := by simp [mparts]
theorem Parts.le {n : Nat} {f : Nat → Int} (h : Parts n f) {s r : Nat} (hk : s + r < n) : fit (f (s + r)) ≤ plus (f s) (f r) := by
  rcases h with h | ⟨_, h⟩
  · omega
  · have := h (s + r) hk hk
    rw [fit_conv] at this
    exact Int.le_trans this (conv_le' f f s r)
theorem Parts.of {n : Nat} {f : Nat → Int} (h0 : fit (f 0) = 0) (h : ∀ s r, s + r < n → fit (f (s + r)) ≤ plus (f s) (f r)) : Parts n f := by
  refine .inr ⟨h0, fun t ht _ => ?_⟩
  rw [fit_conv]
  obtain ⟨s, r, hs, e⟩ := conv_at f f t
  rw [e, ← hs]
  exact h s r (by omega)
theorem cl_Parts (f : Nat → Int) (n : Nat) : Parts n (clOf f) := Parts.of (by rw [cl_zero]; decide) fun s r _ => by rw [fit_cl]; exact cl_parts f s r
/-- And nothing greater is. -/
theorem cl_greatest {n : Nat} {f g : Nat → Int} (hp : Parts n g) (hg : ∀ t, 0 < t → t < n → fit (g t) ≤ fit (f t)) : ∀ t, t < n → fit (g t) ≤ clOf f t := by
  intro t
  induction t using Nat.strongRecOn with
  | ind t ih =>
    intro ht
    by_cases h0 : t = 0
    · subst h0
      rw [cl_zero]
      rcases hp with h | ⟨h, _⟩
      · omega
      · omega
    · rw [clOf_eq]
      unfold clNext
      rw [if_neg h0]
      refine clTo_ge _ (hg t (by omega) ht) fun j h1 h2 => ?_
      have h3 := hp.le (s := j) (r := t - j) (by omega)
      rw [show j + (t - j) = t by omega] at h3
      refine Int.le_trans h3 (plus_mono ?_ ?_)
      · rw [fit_cl]; exact ih j (by omega) (by omega)
      · rw [fit_cl]; exact ih (t - j) (by omega) (by omega)
/-- A row that is never more than its parts is closed. -/
theorem cl_still {n : Nat} {f : Nat → Int} (hp : Parts n f) (h0 : f 0 = 0) (hb : ∀ t, t < n → fit (f t) = f t) : ∀ t, t < n → clOf f t = f t := by
  intro t ht
  refine Int.le_antisymm ?_ ?_
  · by_cases h : t = 0
    · subst h; rw [cl_zero, h0]; exact Int.le_refl _
    · have := cl_le f (t := t) (by omega); rwa [hb t ht] at this
  · have := cl_greatest hp (fun t _ _ => Int.le_refl _) t ht
    rwa [hb t ht] at this
theorem cl_cl (f : Nat → Int) : ∀ t, clOf (clOf f) t = clOf f t := fun t => cl_still (n := t + 1) (cl_Parts f _) (cl_zero f) (fun t _ => fit_cl f t) t (by omega)
/-- A row that is never more than its parts, comes with itself to itself. -/
theorem conv_still {n : Nat} {f : Nat → Int} (hp : Parts n f) (h0 : f 0 = 0) (hb : ∀ t, t < n → fit (f t) = f t) : ∀ t, t < n → conv f f t = f t := by
  intro t ht
  refine Int.le_antisymm ?_ ?_
  · have := conv_le' f f t 0
    rwa [h0, plus_zero_right, Nat.add_zero, hb t ht] at this
  · obtain ⟨s, r, hs, e⟩ := conv_at f f t
    rw [e]
    subst hs
    have := hp.le ht
    rwa [hb _ ht] at this
theorem conv_cl (f : Nat → Int) (t : Nat) : conv (clOf f) (clOf f) t = clOf f t := conv_still (n := t + 1) (cl_Parts f _) (cl_zero f) (fun t _ => fit_cl f t) t (by omega)
end Go.Tide
