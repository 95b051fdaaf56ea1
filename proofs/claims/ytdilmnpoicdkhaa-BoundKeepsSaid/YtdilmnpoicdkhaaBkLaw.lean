/- Plain laws of buckets: what one lets through in all is what comes, with its line, in least sums. No program in sight. Conditions: none. -/
import Derived.Test.YtdilmnpoicdkhaaMpLaw
import Derived.Test.YtdilmnpoicdkhaaSlFunc
set_option linter.unusedVariables false
set_option linter.unusedSimpArgs false
namespace Go.Tide
/-- The sum of the first k. -/
def isum (x : Nat → Int) : Nat → Int
  | 0 => 0
  | k + 1 => isum x k + x k
theorem isum_congr {x y : Nat → Int} : ∀ n, (∀ k, k < n → x k = y k) → isum x n = isum y n := by
  intro n
  induction n with
  | zero => intro _; rfl
  | succ n ih => intro h; simp only [isum]; rw [ih (fun k hk => h k (by omega)), h n (by omega)]
theorem isum_bounds {n : Nat} {x : Nat → Int} {M : Int} (h : AllIn n x 0 M) : ∀ k, k ≤ n → 0 ≤ isum x k ∧ isum x k ≤ (k : Int) * M := by
  intro k
  induction k with
  | zero => intro _; simp only [isum]; omega
  | succ k ih =>
    intro hk
    have h1 := ih (by omega)
    have h2 := h k (by omega)
    simp only [isum]
    rw [Int.natCast_add, Int.add_mul]
    omega
theorem isum_mono {n : Nat} {x : Nat → Int} {M : Int} (h : AllIn n x 0 M) : ∀ s r, s + r ≤ n → isum x s ≤ isum x (s + r) := by
  intro s r
  induction r with
  | zero => intro _; exact Int.le_refl _
  | succ r ih =>
    intro hk
    have h1 := ih (by omega)
    have h2 := h (s + r) (by omega)
    show _ ≤ isum x (s + r) + x (s + r)
    omega
/-- Rows that may be: shorter than MaxLength, from 0 to Most. -/
def Small (n : Nat) (x : Nat → Int) : Prop := n < 300 ∧ AllIn n x 0 1099511627776
theorem Small.sum {n : Nat} {x : Nat → Int} (h : Small n x) : ∀ k, k ≤ n → 0 ≤ isum x k ∧ isum x k ≤ 329853488332800 := by
  intro k hk
  have h1 := isum_bounds h.2 k hk
  have h2 := h.1
  omega
theorem Small.of {n : Nat} {x : Nat → Int} (h : Small n x) : ∀ k, k ≤ n → ofRow x k = isum x k := by
  intro k
  induction k with
  | zero => intro _; rfl
  | succ k ih =>
    intro hk
    have h1 := h.sum k (by omega)
    have h2 := h.2 k (by omega)
    show plus (ofRow x k) (x k) = isum x k + x k
    rw [ih (by omega)]
    simp only [plus, fit]
    omega

section
variable (r B : Int) (x : Nat → Int)
/-- The store, and what waits. -/
def bkState : Nat → Int × Int
  | 0 => (B, 0)
  | k + 1 => (min ((bkState k).1 - min ((bkState k).2 + x k) (bkState k).1 + r) B, (bkState k).2 + x k - min ((bkState k).2 + x k) (bkState k).1)
def bkNow (k : Nat) : Int := min ((bkState r B x k).2 + x k) (bkState r B x k).1
/-- What it lets through in so many ticks at most. -/
def lineOf : Nat → Int
  | 0 => 0
  | 1 => B
  | t + 2 => lineOf (t + 1) + min r B
end

section
variable {r B : Int} {x : Nat → Int} {n : Nat}
theorem line_succ (t : Nat) : lineOf r B (t + 1) = B + t * min r B := by
  induction t with
  | zero => simp [lineOf]
  | succ t ih => show lineOf r B (t + 1) + min r B = _; rw [ih, Int.natCast_add, Int.add_mul]; omega
theorem line_bounds (hr : 0 ≤ r) (hB : 0 ≤ B) (hB2 : B ≤ 1099511627776) : ∀ t, t ≤ 300 → 0 ≤ lineOf r B t ∧ lineOf r B t ≤ 329853488332800 := by
  have : ∀ t, 0 ≤ lineOf r B t ∧ lineOf r B t ≤ (t : Int) * 1099511627776 := by
    intro t
    induction t with
    | zero => simp only [lineOf]; omega
    | succ t ih =>
      cases t with
      | zero => simp only [lineOf]; omega
      | succ t => simp only [lineOf] at *; omega
  intro t ht
  have := this t
  omega
theorem line_rises (hr : 0 ≤ r) (hB : 0 ≤ B) (t : Nat) : lineOf r B t ≤ lineOf r B (t + 1) := by
  cases t with
  | zero => simp only [lineOf]; omega
  | succ t => simp only [lineOf]; omega
/-- A line is never more than its parts. -/
theorem line_parts (hr : 0 ≤ r) (hB : 0 ≤ B) (s t : Nat) : lineOf r B (s + t) ≤ lineOf r B s + lineOf r B t := by
  cases s with
  | zero => simp [lineOf]
  | succ s =>
    cases t with
    | zero => simp [lineOf]
    | succ t =>
      rw [show s + 1 + (t + 1) = s + t + 1 + 1 by omega, line_succ, line_succ, line_succ]
      rw [Int.natCast_add, Int.natCast_add, Int.add_mul, Int.add_mul]
      omega
/-- What the bucket keeps: its store from 0 to the burst, and what waits not below 0. -/
theorem bk_state (hr : 0 ≤ r) (hB : 0 ≤ B) (hx : ∀ k, k < n → 0 ≤ x k) : ∀ k, k ≤ n → 0 ≤ (bkState r B x k).1 ∧ (bkState r B x k).1 ≤ B ∧ 0 ≤ (bkState r B x k).2 := by
  intro k
  induction k with
  | zero => intro _; simp only [bkState]; omega
  | succ k ih =>
    intro hk
    have h1 := ih (by omega)
    have h2 := hx k (by omega)
    simp only [bkState]
    omega
theorem bk_waits (k : Nat) : (bkState r B x k).2 = isum x k - isum (bkNow r B x) k := by
  induction k with
  | zero => rfl
  | succ k ih =>
    have h2 : bkNow r B x k = min ((bkState r B x k).2 + x k) (bkState r B x k).1 := rfl
    simp only [bkState, isum]
    omega
theorem bk_now_bounds (hr : 0 ≤ r) (hB : 0 ≤ B) (hx : ∀ k, k < n → 0 ≤ x k) : ∀ k, k < n → 0 ≤ bkNow r B x k ∧ bkNow r B x k ≤ B := by
  intro k hk
  have h1 := bk_state hr hB hx k (by omega)
  have h2 := hx k hk
  unfold bkNow
  omega
/-- What has gone, and the store. -/
def bkT (r B : Int) (x : Nat → Int) (k : Nat) : Int := isum (bkNow r B x) k + (bkState r B x k).1
theorem bk_out_succ (k : Nat) : isum (bkNow r B x) (k + 1) = min (isum x (k + 1)) (bkT r B x k) := by
  have h1 := bk_waits (r := r) (B := B) (x := x) k
  have h2 : bkNow r B x k = min ((bkState r B x k).2 + x k) (bkState r B x k).1 := rfl
  unfold bkT
  simp only [isum]
  omega
theorem bk_T_succ (hr : 0 ≤ r) (hB : 0 ≤ B) (hx : ∀ k, k < n → 0 ≤ x k) (k : Nat) (hk : k < n) : bkT r B x (k + 1) = min (bkT r B x k + min r B) (isum (bkNow r B x) (k + 1) + B) := by
  have h1 := bk_state hr hB hx k (by omega)
  have h2 : bkNow r B x k = min ((bkState r B x k).2 + x k) (bkState r B x k).1 := rfl
  unfold bkT
  simp only [isum, bkState]
  omega
theorem bk_T_le (hr : 0 ≤ r) (hB : 0 ≤ B) (hx : ∀ k, k < n → 0 ≤ x k) (s : Nat) : ∀ d, s + d ≤ n → bkT r B x (s + d) ≤ isum (bkNow r B x) s + lineOf r B (d + 1) := by
  intro d
  induction d with
  | zero =>
    intro hk
    have h1 := bk_state hr hB hx s (by omega)
    unfold bkT
    simp only [lineOf, Nat.add_zero]
    omega
  | succ d ih =>
    intro hk
    have h1 := ih (by omega)
    have h2 := bk_T_succ hr hB hx (s + d) (by omega)
    rw [show s + (d + 1) = s + d + 1 by omega]
    simp only [lineOf]
    omega
theorem bk_T_at (hr : 0 ≤ r) (hB : 0 ≤ B) (hx : ∀ k, k < n → 0 ≤ x k) : ∀ k, k ≤ n → ∃ s d, s + d = k ∧ bkT r B x k = isum (bkNow r B x) s + lineOf r B (d + 1) := by
  intro k
  induction k with
  | zero => intro _; exact ⟨0, 0, rfl, by simp [bkT, bkState, isum, lineOf]⟩
  | succ k ih =>
    intro hk
    obtain ⟨s, d, h1, h2⟩ := ih (by omega)
    have h3 := bk_T_succ hr hB hx k (by omega)
    by_cases hc : bkT r B x k + min r B ≤ isum (bkNow r B x) (k + 1) + B
    · exact ⟨s, d + 1, by omega, by simp only [lineOf]; omega⟩
    · exact ⟨k + 1, 0, by omega, by simp only [lineOf]; omega⟩
/-- What a bucket lets through keeps to it. -/
theorem bk_keeps (hr : 0 ≤ r) (hB : 0 ≤ B) (hx : ∀ k, k < n → 0 ≤ x k) (s d : Nat) (h : s + d ≤ n) : isum (bkNow r B x) (s + d) ≤ isum (bkNow r B x) s + lineOf r B d := by
  cases d with
  | zero => simp [lineOf]
  | succ d =>
    have h1 := bk_T_le hr hB hx s d (by omega)
    have h2 := bk_out_succ (r := r) (B := B) (x := x) (s + d)
    rw [show s + (d + 1) = s + d + 1 by omega]
    omega
/-- Nothing goes ahead of its time. -/
theorem bk_within (hr : 0 ≤ r) (hB : 0 ≤ B) (hx : ∀ k, k < n → 0 ≤ x k) (t : Nat) (ht : t ≤ n) : isum (bkNow r B x) t ≤ isum x t := by
  have h1 := bk_state hr hB hx t ht
  have h2 := bk_waits (r := r) (B := B) (x := x) t
  omega
theorem bk_out_le (hr : 0 ≤ r) (hB : 0 ≤ B) (hx : ∀ k, k < n → 0 ≤ x k) (s d : Nat) (h : s + d ≤ n) : isum (bkNow r B x) (s + d) ≤ isum x s + lineOf r B d := by
  have h1 := bk_keeps hr hB hx s d h
  have h2 := bk_within hr hB hx s (by omega)
  omega
/-- A bucket is its line: what it lets through in all is a sum of what came, and of the line. -/
theorem bk_out_at (hr : 0 ≤ r) (hB : 0 ≤ B) (hx : ∀ k, k < n → 0 ≤ x k) (t : Nat) : t ≤ n → ∃ s d, s + d = t ∧ isum (bkNow r B x) t = isum x s + lineOf r B d := by
  induction t using Nat.strongRecOn with
  | ind t ih =>
    intro ht
    cases t with
    | zero => exact ⟨0, 0, rfl, by simp [isum, lineOf]⟩
    | succ t =>
      have h2 := bk_out_succ (r := r) (B := B) (x := x) t
      by_cases hc : isum x (t + 1) ≤ bkT r B x t
      · exact ⟨t + 1, 0, by omega, by simp only [lineOf]; omega⟩
      · obtain ⟨s, d, h3, h4⟩ := bk_T_at hr hB hx t (by omega)
        obtain ⟨u, v, h5, h6⟩ := ih s (by omega) (by omega)
        have h7 := line_parts hr hB v (d + 1)
        have h8 := bk_out_le hr hB hx u (v + (d + 1)) (by omega)
        rw [show u + (v + (d + 1)) = t + 1 by omega] at h8
        exact ⟨u, v + (d + 1), by omega, by omega⟩
/-- Nobody lets more through. -/
theorem bk_greedy (hr : 0 ≤ r) (hB : 0 ≤ B) (hx : ∀ k, k < n → 0 ≤ x k) {y : Nat → Int} (hk : ∀ s d, s + d ≤ n → isum y (s + d) ≤ isum y s + lineOf r B d) (hw : ∀ t, t ≤ n → isum y t ≤ isum x t) :
    ∀ t, t ≤ n → isum y t ≤ isum (bkNow r B x) t := by
  intro t ht
  obtain ⟨s, d, h1, h2⟩ := bk_out_at hr hB hx t ht
  subst h1
  have := hk s d ht
  have := hw s (by omega)
  omega
theorem isum_eq {y z : Nat → Int} (h : ∀ t, t ≤ n → isum y t = isum z t) : ∀ k, k < n → y k = z k := by
  intro k hk
  have h1 := h k (by omega)
  have h2 := h (k + 1) (by omega)
  simp only [isum] at h2
  omega
/-- What keeps to it goes at once. -/
theorem bk_at_once (hr : 0 ≤ r) (hB : 0 ≤ B) (hx : ∀ k, k < n → 0 ≤ x k) (hk : ∀ s d, s + d ≤ n → isum x (s + d) ≤ isum x s + lineOf r B d) : ∀ k, k < n → bkNow r B x k = x k :=
  isum_eq fun t ht => Int.le_antisymm (bk_within hr hB hx t ht) (bk_greedy hr hB hx hk (fun _ _ => Int.le_refl _) t ht)
end
section
variable {r B r' B' : Int} {x : Nat → Int} {n : Nat}
theorem bk_twice_le (hr : 0 ≤ r) (hB : 0 ≤ B) (hr' : 0 ≤ r') (hB' : 0 ≤ B') (hx : ∀ k, k < n → 0 ≤ x k) : ∀ t, t ≤ n → isum (bkNow r B (bkNow r' B' x)) t ≤ isum (bkNow r' B' (bkNow r B x)) t := by
  intro t ht
  have hy := fun k hk => (bk_now_bounds hr hB hx k hk).1
  have hy' := fun k hk => (bk_now_bounds hr' hB' hx k hk).1
  obtain ⟨s, d, h1, h2⟩ := bk_out_at hr' hB' hy t ht
  obtain ⟨u, v, h3, h4⟩ := bk_out_at hr hB hx s (by omega)
  have h5 := bk_out_le hr hB hy' (u + d) v (by omega)
  have h6 := bk_out_le hr' hB' hx u d (by omega)
  rw [show u + d + v = t by omega] at h5
  omega
/-- One behind the other in whatever order. -/
theorem bk_twice (hr : 0 ≤ r) (hB : 0 ≤ B) (hr' : 0 ≤ r') (hB' : 0 ≤ B') (hx : ∀ k, k < n → 0 ≤ x k) : ∀ k, k < n → bkNow r B (bkNow r' B' x) k = bkNow r' B' (bkNow r B x) k :=
  isum_eq fun t ht => Int.le_antisymm (bk_twice_le hr hB hr' hB' hx t ht) (bk_twice_le hr' hB' hr hB hx t ht)
theorem bk_once (hr : 0 ≤ r) (hB : 0 ≤ B) (hx : ∀ k, k < n → 0 ≤ x k) : ∀ k, k < n → bkNow r B (bkNow r B x) k = bkNow r B x k :=
  bk_at_once hr hB (fun k hk => (bk_now_bounds hr hB hx k hk).1) (fun s d h => bk_keeps hr hB hx s d h)
theorem bkState_congr {y : Nat → Int} : ∀ k, (∀ j, j < k → x j = y j) → bkState r B x k = bkState r B y k := by
  intro k
  induction k with
  | zero => intro _; rfl
  | succ k ih => intro h; simp only [bkState]; rw [ih (fun j hj => h j (by omega)), h k (by omega)]
theorem bkNow_congr {y : Nat → Int} (h : ∀ j, j < n → x j = y j) : ∀ k, k < n → bkNow r B x k = bkNow r B y k := by
  intro k hk
  unfold bkNow
  rw [bkState_congr k (fun j hj => h j (by omega)), h k hk]
end
end Go.Tide
