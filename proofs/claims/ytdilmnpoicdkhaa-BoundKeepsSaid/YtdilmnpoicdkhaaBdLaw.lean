/- Plain laws of delays and of bounds: no program in sight. Conditions: none. -/
import Derived.Test.YtdilmnpoicdkhaaQuLaw
import Derived.Test.YtdilmnpoicdkhaaBucket
set_option linter.unusedVariables false
set_option linter.unusedSimpArgs false
namespace Go.Tide
/-- At d all has gone that had come up to t, and not earlier. -/
def GoneAt (n : Nat) (i o : Nat → Int) (t d : Nat) : Prop := t + 1 ≤ d ∧ d ≤ n ∧ i (t + 1) ≤ o d ∧ ∀ j, t + 1 ≤ j → j < d → o j < i (t + 1)
noncomputable def delayOf (n : Nat) (i o : Nat → Int) (t : Nat) : Int := @dite _ (∃ d, GoneAt n i o t d) (Classical.propDecidable _) (fun h => ((h.choose : Nat) : Int) - t - 1) (fun _ => -1)
theorem delay_at {n : Nat} {i o : Nat → Int} {t d : Nat} (h : GoneAt n i o t d) : delayOf n i o t = (d : Int) - t - 1 := by
  have hex : ∃ d, GoneAt n i o t d := ⟨d, h⟩
  unfold delayOf
  rw [dif_pos hex]
  have h2 := hex.choose_spec
  generalize hex.choose = c at *
  have : c = d := by
    obtain ⟨a1, a2, a3, a4⟩ := h
    obtain ⟨b1, b2, b3, b4⟩ := h2
    rcases Nat.lt_trichotomy c d with hc | hc | hc
    · have := a4 c b1 hc; omega
    · exact hc
    · have := b4 d a1 hc; omega
  rw [this]
theorem delay_none {n : Nat} {i o : Nat → Int} {t : Nat} (h : ∀ d, t + 1 ≤ d → d ≤ n → o d < i (t + 1)) : delayOf n i o t = -1 := by
  unfold delayOf
  rw [dif_neg]
  rintro ⟨d, a1, a2, a3, _⟩
  have := h d a1 a2
  omega
/-- How many ticks w takes. -/
def quTakes (R w : Int) : Int := if 0 < w ∧ 0 < R then (w + R - 1) / R else 0
def quWant (R w : Int) (n t : Nat) : Int := if (0 < w ∧ R = 0) ∨ (n : Int) ≤ t + quTakes R w then -1 else quTakes R w
section
variable {R M : Int} {x : Nat → Int} {n : Nat}
theorem qu_nolost (hl : ∀ k, k < n → quLost R M x k = 0) : ∀ k, k ≤ n → isum (quLost R M x) k = 0 := by
  intro k
  induction k with
  | zero => intro _; rfl
  | succ k ih => intro hk; simp only [isum]; rw [ih (by omega), hl k (by omega)]; rfl
theorem delay_law (hR : 0 ≤ R) (hM : 0 ≤ M) (hx : ∀ k, k < n → 0 ≤ x k) (hl : ∀ k, k < n → quLost R M x k = 0) {t : Nat} (ht : t < n) :
    delayOf n (isum x) (isum (quWent R M x)) t = quWant R (quWait R M x (t + 1)) n t := by
  have h1 := qu_sums (R := R) (M := M) (x := x) (t + 1)
  have h2 := qu_nolost hl (t + 1) (by omega)
  have h3 := qu_state hR hM hx (t + 1) (by omega)
  have hle := fun j h => qu_gone_le hR hM hx (t + 1) j h
  have hge := fun j h => qu_gone_ge hR hM hx hl (t + 1) j h
  generalize quWait R M x (t + 1) = w at *
  unfold quWant quTakes
  by_cases hw : 0 < w
  · rcases Int.lt_or_eq_of_le hR with hR0 | hR0
    · have e1 : ¬ (R = 0) := by omega
      simp only [hw, hR0, e1, and_self, and_false, false_or, if_true]
      obtain ⟨q, hq⟩ : ∃ q : Nat, (w + R - 1) / R = q := ⟨((w + R - 1) / R).toNat, by have := Int.ediv_nonneg (a := w + R - 1) (b := R) (by omega) (by omega); omega⟩
      have g1 : w ≤ (q : Int) * R := by
        have := Int.lt_mul_ediv_self_add (x := w + R - 1) (k := R) hR0
        rw [hq, Int.mul_comm] at this
        omega
      have g2 : (q : Int) * R ≤ w + R - 1 := by
        have := Int.ediv_mul_le (w + R - 1) (b := R) (by omega)
        rwa [hq] at this
      have far : ∀ j, t + 1 ≤ j → j ≤ n → j < t + 1 + q → isum (quWent R M x) j < isum x (t + 1) := by
        intro j a1 a2 a3
        have b1 := hle (j - (t + 1)) (by omega)
        rw [show t + 1 + (j - (t + 1)) = j by omega] at b1
        have b2 : ((j - (t + 1) : Nat) : Int) * R ≤ ((q : Int) - 1) * R := Int.mul_le_mul_of_nonneg_right (by omega) hR
        rw [Int.sub_mul] at b2
        omega
      rw [hq]
      by_cases hn : t + 1 + q ≤ n
      · rw [if_neg (by omega), delay_at (d := t + 1 + q) ⟨by omega, hn, ?_, fun j a1 a2 => far j a1 (by omega) a2⟩]
        · omega
        · have := hge q hn; omega
      · rw [if_pos (by omega)]
        exact delay_none fun d a1 a2 => far d a1 a2 (by omega)
    · subst hR0
      rw [if_pos (.inl ⟨hw, rfl⟩)]
      refine delay_none fun d a1 a2 => ?_
      have b1 := hle (d - (t + 1)) (by omega)
      rw [show t + 1 + (d - (t + 1)) = d by omega, Int.mul_zero] at b1
      omega
  · have e1 : ¬ (0 < w ∧ 0 < R) := fun h => hw h.1
    have e2 : ¬ (0 < w ∧ R = 0) := fun h => hw h.1
    simp only [e1, e2, if_false, false_or]
    rw [if_neg (by omega), delay_at (d := t + 1) ⟨by omega, by omega, by omega, fun j a1 a2 => by omega⟩]
    omega
end

/-- The most by which what came in the last ticks is more than what goes in so many, so far. -/
def reichTo (R : Int) (x : Nat → Int) (t : Nat) : Nat → Int
  | 0 => 0
  | k + 1 => max (reichTo R x t k) (isum x (t + 1) - isum x (t - k) - ((k : Int) + 1) * R)
theorem reichTo_le {R : Int} {x : Nat → Int} {t : Nat} {M : Int} (hM : 0 ≤ M) : ∀ n, (∀ k, k < n → isum x (t + 1) - isum x (t - k) - ((k : Int) + 1) * R ≤ M) → reichTo R x t n ≤ M := by
  intro n
  induction n with
  | zero => intro _; exact hM
  | succ n ih =>
    intro h
    have h1 := ih fun k hk => h k (by omega)
    have h2 := h n (by omega)
    simp only [reichTo]
    omega
theorem reichTo_ge {R : Int} {x : Nat → Int} {t : Nat} : ∀ n, 0 ≤ reichTo R x t n ∧ ∀ k, k < n → isum x (t + 1) - isum x (t - k) - ((k : Int) + 1) * R ≤ reichTo R x t n := by
  intro n
  induction n with
  | zero => exact ⟨Int.le_refl _, fun k hk => by omega⟩
  | succ n ih =>
    simp only [reichTo]
    refine ⟨by omega, fun k hk => ?_⟩
    rcases Nat.lt_succ_iff_lt_or_eq.1 hk with h | h
    · have := ih.2 k h; omega
    · subst h; omega
theorem reich_law {R M : Int} {x : Nat → Int} {n : Nat} (hR : 0 ≤ R) (hM : 0 ≤ M) (hx : ∀ k, k < n → 0 ≤ x k) (hl : ∀ k, k < n → quLost R M x k = 0) {t : Nat} (ht : t < n) : reichTo R x t (t + 1) = quWait R M x (t + 1) := by
  refine Int.le_antisymm (reichTo_le (qu_state hR hM hx (t + 1) (by omega)).1 _ fun k hk => ?_) ?_
  · have := qu_reich_ge hR hM hx hl (t - k) (k + 1) (by omega)
    rw [show t - k + (k + 1) = t + 1 by omega, Int.natCast_add] at this
    exact this
  · obtain ⟨s, d, e1, e2⟩ := qu_reich_at hR hM hx hl (t + 1) (by omega)
    obtain ⟨h1, h2⟩ := reichTo_ge (R := R) (x := x) (t := t) (t + 1)
    cases d with
    | zero => rw [Nat.add_zero] at e1; subst e1; rw [e2]; simp; exact h1
    | succ d =>
      have := h2 d (by omega)
      rw [show t - d = s by omega] at this
      rw [e2, Int.natCast_add]
      exact this
/-- The most by which f is above g. -/
def hiTo (f g : Nat → Int) : Nat → Int
  | 0 => 0
  | n + 1 => max (hiTo f g n) (less (f n) (g n))
theorem hiTo_bounds (f g : Nat → Int) (n : Nat) : 0 ≤ hiTo f g n ∧ hiTo f g n ≤ 1152921504606846976 := by
  induction n with
  | zero => simp only [hiTo]; omega
  | succ n ih => have := less_bounds (f n) (g n); simp only [hiTo]; omega
theorem hiTo_ge {f g : Nat → Int} {n : Nat} : ∀ t, t < n → less (f t) (g t) ≤ hiTo f g n := by
  induction n with
  | zero => intro t ht; omega
  | succ n ih =>
    intro t ht
    simp only [hiTo]
    rcases Nat.lt_succ_iff_lt_or_eq.1 ht with h | h
    · have := ih t h; omega
    · subst h; omega
theorem hiTo_le {f g : Nat → Int} {n : Nat} {M : Int} (hM : 0 ≤ M) (h : ∀ t, t < n → less (f t) (g t) ≤ M) : hiTo f g n ≤ M := by
  induction n with
  | zero => exact hM
  | succ n ih =>
    have h1 := ih fun t ht => h t (by omega)
    have h2 := h n (by omega)
    simp only [hiTo]
    omega
/-- What bound.Far asks: at each tick g comes up to f, by so many ticks later. -/
def FarOk (n m : Nat) (f g : Nat → Int) : Prop := ∀ t, t < n → ∃ u, t ≤ u ∧ u < m ∧ fit (f t) ≤ fit (g u)
def FarAt (n m : Nat) (f g : Nat → Int) (d : Nat) : Prop := (∀ t, t < n → ∃ u, t ≤ u ∧ u ≤ t + d ∧ u < m ∧ fit (f t) ≤ fit (g u)) ∧ (d = 0 ∨ ∃ t, t < n ∧ t + d < m ∧ ∀ u, t ≤ u → u < t + d → fit (g u) < fit (f t))
/-- What bound.Keeps asks. -/
def KKept (n m : Nat) (f row : Nat → Int) : Prop := ∀ t, t < n → ∀ s, s ≤ t → less (f t) (f s) ≤ atOf m row ((t : Int) - s)
noncomputable def kKept (n m : Nat) (f row : Nat → Int) : Bool := @decide (KKept n m f row) (Classical.propDecidable _)
theorem kKept_iff {n m : Nat} {f row : Nat → Int} : kKept n m f row = true ↔ KKept n m f row := by simp [kKept]
theorem kKept_true {n m : Nat} {f row : Nat → Int} (h : KKept n m f row) : kKept n m f row = true := kKept_iff.2 h
theorem kKept_false {n m : Nat} {f row : Nat → Int} (h : ¬ KKept n m f row) : kKept n m f row = false := by simp [kKept, h]
theorem at_in {m : Nat} {row : Nat → Int} {s r : Nat} (hr : r < m) : atOf m row (((s + r : Nat) : Int) - s) = fit (row r) := by
  unfold atOf
  rw [if_neg (by omega), show ((((s + r : Nat) : Int) - s).toNat) = r by omega, show min r (m - 1) = r by omega]
theorem less_small {a b : Int} (ha : 0 ≤ a ∧ a ≤ 1099511627776) (hb : 0 ≤ b ∧ b ≤ 1099511627776) : less a b = max (a - b) 0 := by
  unfold less
  rw [fit_of (a := a) (by omega) (by omega), fit_of (a := b) (by omega) (by omega)]
  (repeat' split) <;> omega
theorem plus_small {a b : Int} (ha : 0 ≤ a ∧ a ≤ 329853488332800) (hb : 0 ≤ b ∧ b ≤ 329853488332800) : plus a b = a + b := by
  unfold plus
  rw [fit_of (a := a) (by omega) (by omega), fit_of (a := b) (by omega) (by omega)]
  omega
theorem fit_small {a : Int} (ha : 0 ≤ a ∧ a ≤ 329853488332800) : fit a = a := fit_of (by omega) (by omega)
/-- No more waits than one row is above the other. -/
theorem bound_waits {n : Nat} {i o row serve : Nat → Int} (hi : AllIn n i 0 1099511627776) (ho : AllIn n o 0 1099511627776) (hr : AllIn n row 0 1099511627776) (hs : AllIn n serve 0 1099511627776)
    (hk : KKept n n i row) (hc : CWithin n n (conv i serve) o) : hiTo i o n ≤ hiTo row serve n := by
  refine hiTo_le (hiTo_bounds _ _ _).1 fun t ht => ?_
  have h1 := hc t ht ht
  obtain ⟨s, r, hsr, e⟩ := conv_at i serve t
  subst hsr
  have a1 := hi (s + r) ht
  have a2 := ho (s + r) ht
  have a3 := hi s (by omega)
  have a4 := hr r (by omega)
  have a5 := hs r (by omega)
  have h2 := hk (s + r) ht s (by omega)
  rw [at_in (by omega), less_small a1 a3, fit_small (by omega)] at h2
  rw [fit_conv, e, plus_small (by omega) (by omega), fit_small (by omega)] at h1
  have h3 := hiTo_ge (f := row) (g := serve) (n := n) r (by omega)
  rw [less_small a4 a5] at h3
  rw [less_small a1 a2]
  omega
/-- Nobody is later than one row is behind the other. -/
theorem bound_delay {n d : Nat} {i o row serve : Nat → Int} (hin : CRight n i) (hi : AllIn n i 0 1099511627776) (ho : AllIn n o 0 1099511627776) (hr : AllIn n row 0 1099511627776) (hs : AllIn n serve 0 1099511627776)
    (hk : KKept n n i row) (hc : CWithin n n (conv i serve) o) (hd : FarAt n n row serve d) (hso : Sorted n serve) : ∀ t, t + d < n → i t ≤ o (t + d) := by
  intro t ht
  have h1 := hc (t + d) ht ht
  obtain ⟨s, q, hsq, e⟩ := conv_at i serve (t + d)
  have a2 := ho (t + d) ht
  have a3 := hi s (by omega)
  have a5 := hs q (by omega)
  have a1 := hi t (by omega)
  rw [fit_conv, e, plus_small (by omega) (by omega), fit_small (by omega)] at h1
  obtain ⟨_, _, h2, _⟩ := hin
  by_cases hst : t ≤ s
  · have := Sorted.le h2 t s hst (by omega)
    omega
  · obtain ⟨r, rfl⟩ : ∃ r, t = s + r := ⟨t - s, by omega⟩
    have a4 := hr r (by omega)
    have h3 := hk (s + r) (by omega) s (by omega)
    rw [at_in (by omega), less_small a1 a3, fit_small (by omega)] at h3
    obtain ⟨u, b1, b2, b3, b4⟩ := hd.1 r (by omega)
    have a6 := hs u b3
    rw [fit_small (by omega), fit_small (by omega)] at b4
    have := Sorted.le hso u q (by omega) (by omega)
    omega
/-- To keep to a row is to be below it in least sums. -/
theorem bound_conv {n : Nat} {f row : Nat → Int} (hf : AllIn n f 0 1099511627776) (hr : AllIn n row 0 1099511627776) : KKept n n f row ↔ CWithin n n f (conv f row) := by
  constructor
  · intro H t ht _
    rw [fit_conv]
    obtain ⟨s, r, hsr, e⟩ := conv_at f row t
    subst hsr
    have a1 := hf (s + r) ht
    have a3 := hf s (by omega)
    have a4 := hr r (by omega)
    have h2 := H (s + r) ht s (by omega)
    rw [at_in (by omega), less_small a1 a3, fit_small (by omega)] at h2
    rw [e, plus_small (by omega) (by omega), fit_small (by omega)]
    omega
  · intro H t ht s hst
    obtain ⟨r, rfl⟩ : ∃ r, t = s + r := ⟨t - s, by omega⟩
    have a1 := hf (s + r) ht
    have a3 := hf s (by omega)
    have a4 := hr r (by omega)
    have h1 := H (s + r) ht ht
    have h2 := conv_le' f row s r
    rw [fit_conv, fit_small (by omega)] at h1
    rw [plus_small (by omega) (by omega)] at h2
    rw [at_in (by omega), less_small a1 a3, fit_small (by omega)]
    omega
/-- What keeps to a bucket keeps to its line. -/
theorem bound_line {n : Nat} {r B : Int} {x : Nat → Int} (h : BRight r B n x) : KKept (n + 1) (n + 1) (isum x) (lineOf r B) ↔ BKept r B n x := by
  obtain ⟨h1, h2, h3⟩ := h
  have key : ∀ s d, s + d ≤ n → less (isum x (s + d)) (isum x s) = max (isum x (s + d) - isum x s) 0 ∧ atOf (n + 1) (lineOf r B) (((s + d : Nat) : Int) - s) = lineOf r B d := by
    intro s d hsd
    have a1 := h3.sum (s + d) hsd
    have a2 := h3.sum s (by omega)
    have a3 := line_bounds h1.1 h2.1 h2.2 d (by have := h3.1; omega)
    rw [at_in (by omega), fit_small a3]
    refine ⟨?_, rfl⟩
    unfold less
    rw [fit_small a1, fit_small a2]
    (repeat' split) <;> omega
  constructor
  · intro H s d hsd
    have := H (s + d) (by omega) s (by omega)
    rw [(key s d hsd).1, (key s d hsd).2] at this
    omega
  · intro H t ht s hst
    obtain ⟨d, rfl⟩ : ∃ d, t = s + d := ⟨t - s, by omega⟩
    have a3 := line_bounds h1.1 h2.1 h2.2 d (by have := h3.1; omega)
    have := H s d (by omega)
    rw [(key s d (by omega)).1, (key s d (by omega)).2]
    omega

/-- What is surely served: so much a tick, from some tick on. -/
def servOf (R : Int) (late : Int) (t : Nat) : Int := R * max ((t : Int) - late) 0
section
variable {R r B : Int} {x : Nat → Int} {n : Nat}
theorem serv_bounds (hR : 0 ≤ R ∧ R ≤ 1099511627776) {late : Int} (hl : 0 ≤ late) {t : Nat} (ht : t ≤ 300) : 0 ≤ servOf R late t ∧ servOf R late t ≤ 329853488332800 := by
  unfold servOf
  generalize hm : max ((t : Int) - late) 0 = m
  have m0 : 0 ≤ m := by omega
  have m1 : m ≤ 300 := by omega
  have h1 := Int.mul_nonneg hR.1 m0
  have h2 : R * m ≤ 1099511627776 * 300 := Int.mul_le_mul hR.2 m1 m0 (by omega)
  omega
/-- A queue serves its rate. -/
theorem bound_serve (hR : 0 ≤ R ∧ R ≤ 1099511627776) (h3 : Small n x) {M : Int} (hM : 0 ≤ M) (hl : ∀ k, k < n → quLost R M x k = 0) : CWithin (n + 1) (n + 1) (conv (isum x) (servOf R 0)) (isum (quWent R M x)) := by
  intro t ht _
  have hx := fun k hk => (h3.2 k hk).1
  have h1 := qu_sums (R := R) (M := M) (x := x) t
  have h2 := qu_nolost hl t (by omega)
  obtain ⟨s, d, e1, e2⟩ := qu_reich_at hR.1 hM hx hl t (by omega)
  subst e1
  have a1 := h3.sum (s + d) (by omega)
  have a2 := h3.sum s (by omega)
  have a3 := serv_bounds hR (Int.le_refl 0) (t := d) (by have := h3.1; omega)
  have h4 := conv_le' (isum x) (servOf R 0) s d
  rw [plus_small (by omega) (by omega)] at h4
  have h5 : servOf R 0 d = d * R := by unfold servOf; rw [Int.sub_zero, show max (d : Int) 0 = d by omega, Int.mul_comm]
  have h6 := qu_state hR.1 hM hx (s + d) (by omega)
  rw [fit_conv, fit_small (a := isum (quWent R M x) (s + d)) (by omega)]
  omega
/-- What waits behind a bucket that is no faster: never more than its burst. -/
theorem bound_burst (hR : 0 ≤ R) (h3 : Small n x) {M : Int} (hM : 0 ≤ M) (hl : ∀ k, k < n → quLost R M x k = 0) (hk : BKept r B n x) (hr : 0 ≤ r) (hB : 0 ≤ B) (hrR : r ≤ R) : ∀ t, t ≤ n → quWait R M x t ≤ max (B - R) 0 := by
  intro t ht
  obtain ⟨s, d, e1, e2⟩ := qu_reich_at hR hM (fun k hk => (h3.2 k hk).1) hl t ht
  subst e1
  have h1 := hk s d ht
  cases d with
  | zero => simp only [Nat.add_zero] at *; rw [e2]; simp only [lineOf] at h1; omega
  | succ d =>
    rw [line_succ] at h1
    rw [e2, Int.natCast_add, Int.add_mul]
    have h2 : (d : Int) * min r B ≤ (d : Int) * R := Int.mul_le_mul_of_nonneg_left (by omega) (by omega)
    omega
theorem bound_takes (hR : 0 < R) (hB : 0 ≤ B) {w : Int} (hw : w ≤ max (B - R) 0) (n t : Nat) : quWant R w n t ≤ (B + R - 1) / R := by
  have h1 : 0 ≤ (B + R - 1) / R := Int.ediv_nonneg (by omega) (by omega)
  have h2 : quTakes R w ≤ (B + R - 1) / R := by
    unfold quTakes
    split
    · exact Int.ediv_le_ediv hR (by omega)
    · exact h1
  unfold quWant
  split <;> omega
end
end Go.Tide
