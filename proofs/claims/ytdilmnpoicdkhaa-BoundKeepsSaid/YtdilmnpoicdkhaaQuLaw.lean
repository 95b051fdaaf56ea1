/- Plain laws of queues: Lindley, Reich, more room, delays. No program in sight. Conditions: none. -/
import Derived.Test.YtdilmnpoicdkhaaBkLaw
set_option linter.unusedVariables false
set_option linter.unusedSimpArgs false
namespace Go.Tide
section
variable (R M : Int) (x : Nat → Int)
/-- What waits ahead of tick k. -/
def quWait : Nat → Int
  | 0 => 0
  | k + 1 => quWait k + x k - min (quWait k + x k) R - max (quWait k + x k - min (quWait k + x k) R - M) 0
def quWent (k : Nat) : Int := min (quWait R M x k + x k) R
def quLost (k : Nat) : Int := max (quWait R M x k + x k - quWent R M x k - M) 0
end
section
variable {R M : Int} {x : Nat → Int} {n : Nat}
theorem qu_succ (k : Nat) : quWait R M x (k + 1) = quWait R M x k + x k - quWent R M x k - quLost R M x k := rfl
theorem qu_state (hR : 0 ≤ R) (hM : 0 ≤ M) (hx : ∀ k, k < n → 0 ≤ x k) : ∀ k, k ≤ n → 0 ≤ quWait R M x k ∧ quWait R M x k ≤ M := by
  intro k
  induction k with
  | zero => intro _; simp only [quWait]; omega
  | succ k ih =>
    intro hk
    have h1 := ih (by omega)
    have h2 := hx k (by omega)
    simp only [quWait]
    omega
theorem qu_bounds (hR : 0 ≤ R) (hM : 0 ≤ M) (hx : ∀ k, k < n → 0 ≤ x k) (k : Nat) (hk : k < n) : 0 ≤ quWent R M x k ∧ quWent R M x k ≤ R ∧ 0 ≤ quLost R M x k ∧ quLost R M x k ≤ x k := by
  have h1 := qu_state hR hM hx k (by omega)
  have h2 := hx k hk
  unfold quLost quWent
  omega
theorem qu_sums (k : Nat) : isum x k = isum (quWent R M x) k + isum (quLost R M x) k + quWait R M x k := by
  induction k with
  | zero => rfl
  | succ k ih => rw [qu_succ]; simp only [isum]; omega
theorem qu_full (hR : 0 ≤ R) (hM : 0 ≤ M) (hx : ∀ k, k < n → 0 ≤ x k) (k : Nat) (hk : k < n) : (0 < quLost R M x k → quWait R M x (k + 1) = M) ∧ (0 < quWait R M x (k + 1) + quLost R M x k → quWent R M x k = R) := by
  have h1 := qu_state hR hM hx k (by omega)
  have h2 := hx k hk
  rw [qu_succ]
  unfold quLost quWent
  omega
theorem qu_lindley (k : Nat) (h : quLost R M x k = 0) : quWait R M x (k + 1) = max 0 (quWait R M x k + x k - R) := by
  rw [qu_succ, h]
  unfold quWent
  omega
/-- More room, or a faster one: no more is lost, and no less has gone. -/
theorem qu_more {R' M' : Int} (hR : R ≤ R') (hM : M ≤ M') : ∀ k, isum (quWent R M x) k ≤ isum (quWent R' M' x) k ∧ isum (quLost R' M' x) k ≤ isum (quLost R M x) k := by
  intro k
  induction k with
  | zero => exact ⟨Int.le_refl _, Int.le_refl _⟩
  | succ k ih =>
    have h1 := qu_sums (R := R) (M := M) (x := x) k
    have h2 := qu_sums (R := R') (M := M') (x := x) k
    simp only [isum]
    have h3 : quWent R M x k = min (quWait R M x k + x k) R := rfl
    have h4 : quWent R' M' x k = min (quWait R' M' x k + x k) R' := rfl
    have h5 : quLost R M x k = max (quWait R M x k + x k - quWent R M x k - M) 0 := rfl
    have h6 : quLost R' M' x k = max (quWait R' M' x k + x k - quWent R' M' x k - M') 0 := rfl
    omega
/-- Where nothing is lost, what waits is no less than what came in some last ticks, less what goes in so many. -/
theorem qu_reich_ge (hR : 0 ≤ R) (hM : 0 ≤ M) (hx : ∀ k, k < n → 0 ≤ x k) (hl : ∀ k, k < n → quLost R M x k = 0) (s : Nat) : ∀ d, s + d ≤ n → isum x (s + d) - isum x s - d * R ≤ quWait R M x (s + d) := by
  intro d
  induction d with
  | zero => intro hk; have := qu_state hR hM hx s (by omega); simp only [Nat.add_zero]; omega
  | succ d ih =>
    intro hk
    have h1 := ih (by omega)
    have h2 := qu_lindley (s + d) (hl (s + d) (by omega))
    rw [show s + (d + 1) = s + d + 1 by omega, h2, Int.natCast_add, Int.add_mul]
    simp only [isum]
    omega
theorem qu_reich_at (hR : 0 ≤ R) (hM : 0 ≤ M) (hx : ∀ k, k < n → 0 ≤ x k) (hl : ∀ k, k < n → quLost R M x k = 0) : ∀ t, t ≤ n → ∃ s d, s + d = t ∧ quWait R M x t = isum x t - isum x s - d * R := by
  intro t
  induction t with
  | zero => intro _; exact ⟨0, 0, rfl, by simp [quWait]⟩
  | succ t ih =>
    intro ht
    obtain ⟨s, d, h1, h2⟩ := ih (by omega)
    have h3 := qu_lindley t (hl t (by omega))
    by_cases hc : quWait R M x t + x t - R ≤ 0
    · exact ⟨t + 1, 0, by omega, by simp; omega⟩
    · refine ⟨s, d + 1, by omega, ?_⟩
      rw [h3, Int.natCast_add, Int.add_mul]
      simp only [isum]
      omega
/-- Where nothing is lost a queue is a bucket without a store. -/
theorem qu_bucket (hR : 0 ≤ R) (hM : 0 ≤ M) (hx : ∀ k, k < n → 0 ≤ x k) (hl : ∀ k, k < n → quLost R M x k = 0) : ∀ k, k ≤ n → (bkState R R x k).1 = R ∧ (bkState R R x k).2 = quWait R M x k := by
  intro k
  induction k with
  | zero => intro _; exact ⟨rfl, rfl⟩
  | succ k ih =>
    intro hk
    obtain ⟨h1, h2⟩ := ih (by omega)
    have h3 := hl k (by omega)
    rw [qu_succ, h3]
    unfold quWent
    simp only [bkState]
    rw [h1, h2]
    omega
theorem qu_now (hR : 0 ≤ R) (hM : 0 ≤ M) (hx : ∀ k, k < n → 0 ≤ x k) (hl : ∀ k, k < n → quLost R M x k = 0) : ∀ k, k < n → bkNow R R x k = quWent R M x k := by
  intro k hk
  obtain ⟨h1, h2⟩ := qu_bucket hR hM hx hl k (by omega)
  unfold bkNow quWent
  rw [h1, h2]
/-- When all that waits has gone: so many ticks later, and not earlier. -/
theorem qu_gone_le (hR : 0 ≤ R) (hM : 0 ≤ M) (hx : ∀ k, k < n → 0 ≤ x k) (t : Nat) : ∀ j, t + j ≤ n → isum (quWent R M x) (t + j) ≤ isum (quWent R M x) t + j * R := by
  intro j
  induction j with
  | zero => intro _; simp
  | succ j ih =>
    intro hk
    have h1 := ih (by omega)
    have h2 := qu_bounds hR hM hx (t + j) (by omega)
    rw [show t + (j + 1) = t + j + 1 by omega, Int.natCast_add, Int.add_mul]
    simp only [isum]
    omega
theorem qu_gone_ge (hR : 0 ≤ R) (hM : 0 ≤ M) (hx : ∀ k, k < n → 0 ≤ x k) (hl : ∀ k, k < n → quLost R M x k = 0) (t : Nat) : ∀ j, t + j ≤ n → min (isum x t) (isum (quWent R M x) t + j * R) ≤ isum (quWent R M x) (t + j) := by
  intro j
  have hz : ∀ k, k ≤ n → isum (quLost R M x) k = 0 := by
    intro k
    induction k with
    | zero => intro _; rfl
    | succ k ih => intro hk; simp only [isum]; rw [ih (by omega), hl k (by omega)]; rfl
  induction j with
  | zero => intro _; simp; omega
  | succ j ih =>
    intro hk
    have h1 := ih (by omega)
    have h2 := qu_sums (R := R) (M := M) (x := x) (t + j)
    have h3 := hz (t + j) (by omega)
    have h4 : isum x t ≤ isum x (t + j) := by
      clear h1 h2 h3 ih
      induction j with
      | zero => exact Int.le_refl _
      | succ j ih =>
        have h5 := ih (by omega)
        have h6 := hx (t + j) (by omega)
        show _ ≤ isum x (t + j) + x (t + j)
        omega
    have h5 := hx (t + j) (by omega)
    have h6 : quWent R M x (t + j) = min (quWait R M x (t + j) + x (t + j)) R := rfl
    rw [show t + (j + 1) = t + j + 1 by omega, Int.natCast_add, Int.add_mul]
    simp only [isum]
    omega
end
end Go.Tide
