/- The link: who comes when, how many of each come, wait and are lost: plain. Conditions: none. -/
import Derived.Test.YtgmljgcmfooniaaGreatDoorKit
set_option linter.unusedVariables false
set_option linter.unusedSimpArgs false
namespace Go.Tide
/-- Whose the packet at place p is (true: the second one's). -/
def lwho (W0 W1 S0 S1 p : Nat) : Bool :=
  if p < W0 then false else if p < W0 + W1 then true
  else if p - (W0 + W1) < 2 * min S0 S1 then (p - (W0 + W1)) % 2 == 1 else decide (S0 < S1)
/-- All of them in their order, up to p. -/
def lline (W0 W1 S0 S1 p : Nat) : List Bool := (List.range p).map (lwho W0 W1 S0 S1)
theorem lline_zero (W0 W1 S0 S1 : Nat) : lline W0 W1 S0 S1 0 = [] := rfl
theorem lline_succ (W0 W1 S0 S1 p : Nat) : lline W0 W1 S0 S1 (p + 1) = lline W0 W1 S0 S1 p ++ [lwho W0 W1 S0 S1 p] := by simp [lline, List.range_succ]
theorem lline_length (W0 W1 S0 S1 p : Nat) : (lline W0 W1 S0 S1 p).length = p := by simp [lline]
/-- What came, waits and is lost, of both, and how many there were. -/
structure LSt where
  k : Nat
  c0 : Nat
  c1 : Nat
  l0 : Nat
  l1 : Nat
  x0 : Nat
  x1 : Nat
def lbegin : LSt := ⟨0, 0, 0, 0, 0, 0, 0⟩
def lstep (rate room : Nat) (s : LSt) (b : Bool) : LSt :=
  if s.k < rate then (if b then { s with k := s.k + 1, c1 := s.c1 + 1 } else { s with k := s.k + 1, c0 := s.c0 + 1 })
  else if s.k < rate + room then (if b then { s with k := s.k + 1, l1 := s.l1 + 1 } else { s with k := s.k + 1, l0 := s.l0 + 1 })
  else (if b then { s with k := s.k + 1, x1 := s.x1 + 1 } else { s with k := s.k + 1, x0 := s.x0 + 1 })
def lgo (rate room : Nat) (xs : List Bool) : LSt := xs.foldl (lstep rate room) lbegin
theorem lgo_snoc (rate room : Nat) (xs : List Bool) (b : Bool) : lgo rate room (xs ++ [b]) = lstep rate room (lgo rate room xs) b := by simp [lgo, List.foldl_append]
theorem lgo_k (rate room : Nat) (xs : List Bool) : (lgo rate room xs).k = xs.length := by
  generalize hn : xs.length = n
  induction n generalizing xs with
  | zero => rw [List.eq_nil_of_length_eq_zero hn]; rfl
  | succ n ih =>
    obtain ⟨ys, b, rfl⟩ : ∃ ys b, xs = ys ++ [b] := by
      rcases List.eq_nil_or_concat xs with h | ⟨ys, b, h⟩
      · simp [h] at hn
      · exact ⟨ys, b, by simpa using h⟩
    rw [lgo_snoc]
    have := ih ys (by simpa using hn)
    unfold lstep
    cases b <;> simp <;> (repeat' split) <;> simp [this]
/-- No number is greater than how many there were. -/
theorem lgo_le (rate room : Nat) (xs : List Bool) : (lgo rate room xs).c0 ≤ xs.length ∧ (lgo rate room xs).c1 ≤ xs.length ∧ (lgo rate room xs).l0 ≤ xs.length ∧ (lgo rate room xs).l1 ≤ xs.length ∧ (lgo rate room xs).x0 ≤ xs.length ∧ (lgo rate room xs).x1 ≤ xs.length := by
  generalize hn : xs.length = n
  induction n generalizing xs with
  | zero => rw [List.eq_nil_of_length_eq_zero hn]; simp [lgo, lbegin]
  | succ n ih =>
    obtain ⟨ys, b, rfl⟩ : ∃ ys b, xs = ys ++ [b] := by
      rcases List.eq_nil_or_concat xs with h | ⟨ys, b, h⟩
      · simp [h] at hn
      · exact ⟨ys, b, by simpa using h⟩
    rw [lgo_snoc]
    have := ih ys (by simpa using hn)
    unfold lstep
    cases b <;> simp <;> (repeat' split) <;> simp <;> omega
/-- How many of s that alternate with t are among the first q; h: (q + 1) / 2 for the first ones, q / 2 for the second ones. -/
def lalt (s t h q : Nat) : Nat := min s (max h (q - t))
/-- How many of the first one's, and of the second one's, are among the first p. -/
def lcnt0 (W0 W1 S0 S1 p : Nat) : Nat := min p W0 + lalt S0 S1 ((p - (W0 + W1) + 1) / 2) (p - (W0 + W1))
def lcnt1 (W0 W1 S0 S1 p : Nat) : Nat := min (p - W0) W1 + lalt S1 S0 ((p - (W0 + W1)) / 2) (p - (W0 + W1))
theorem lalt_even {s t q : Nat} (h : q < 2 * min s t) (h4 : q % 2 = 0) : lalt s t ((q + 1 + 1) / 2) (q + 1) = lalt s t ((q + 1) / 2) q + 1 ∧ lalt t s ((q + 1) / 2) (q + 1) = lalt t s (q / 2) q := by
  have h1 : q < 2 * s := by omega
  have h2 : q < 2 * t := by omega
  unfold lalt
  rw [Nat.max_eq_left (by omega), Nat.max_eq_left (by omega), Nat.max_eq_left (by omega), Nat.max_eq_left (by omega), Nat.min_eq_right (by omega), Nat.min_eq_right (by omega), Nat.min_eq_right (by omega), Nat.min_eq_right (by omega)]
  omega
theorem lalt_odd {s t q : Nat} (h : q < 2 * min s t) (h4 : q % 2 = 1) : lalt s t ((q + 1 + 1) / 2) (q + 1) = lalt s t ((q + 1) / 2) q ∧ lalt t s ((q + 1) / 2) (q + 1) = lalt t s (q / 2) q + 1 := by
  have h1 : q < 2 * s := by omega
  have h2 : q < 2 * t := by omega
  unfold lalt
  rw [Nat.max_eq_left (by omega), Nat.max_eq_left (by omega), Nat.max_eq_left (by omega), Nat.max_eq_left (by omega), Nat.min_eq_right (by omega), Nat.min_eq_right (by omega), Nat.min_eq_right (by omega), Nat.min_eq_right (by omega)]
  omega
theorem lalt_more {s t q h h' : Nat} (h1 : 2 * t ≤ q) (h2 : q < s + t) (h3 : h ≤ (q + 1) / 2) (h4 : h' ≤ (q + 2) / 2) : lalt s t h' (q + 1) = lalt s t h q + 1 := by
  unfold lalt
  rw [Nat.max_eq_right (by omega), Nat.max_eq_right (by omega), Nat.min_eq_right (by omega), Nat.min_eq_right (by omega)]
  omega
theorem lalt_full {s t q h h' : Nat} (h1 : 2 * s ≤ q) (h3 : q / 2 ≤ h) (h4 : (q + 1) / 2 ≤ h') : lalt s t h' (q + 1) = lalt s t h q := by
  unfold lalt
  rw [Nat.min_eq_left (by omega), Nat.min_eq_left (by omega)]
theorem lcnt_succ {W0 W1 S0 S1 p : Nat} (hp : p < W0 + W1 + S0 + S1) :
    (lwho W0 W1 S0 S1 p = false ∧ lcnt0 W0 W1 S0 S1 (p + 1) = lcnt0 W0 W1 S0 S1 p + 1 ∧ lcnt1 W0 W1 S0 S1 (p + 1) = lcnt1 W0 W1 S0 S1 p) ∨
    (lwho W0 W1 S0 S1 p = true ∧ lcnt0 W0 W1 S0 S1 (p + 1) = lcnt0 W0 W1 S0 S1 p ∧ lcnt1 W0 W1 S0 S1 (p + 1) = lcnt1 W0 W1 S0 S1 p + 1) := by
  unfold lwho lcnt0 lcnt1
  by_cases h1 : p < W0
  · left
    simp only [if_pos h1, true_and]
    rw [show p + 1 - (W0 + W1) = 0 from by omega, show p - (W0 + W1) = 0 from by omega]
    omega
  · by_cases h2 : p < W0 + W1
    · right
      simp only [if_neg h1, if_pos h2, true_and]
      rw [show p + 1 - (W0 + W1) = 0 from by omega, show p - (W0 + W1) = 0 from by omega]
      omega
    · obtain ⟨q, rfl⟩ : ∃ q, p = W0 + W1 + q := ⟨p - (W0 + W1), by omega⟩
      simp only [if_neg h1, if_neg h2]
      rw [show W0 + W1 + q - (W0 + W1) = q from by omega, show W0 + W1 + q + 1 - (W0 + W1) = q + 1 from by omega]
      rw [Nat.min_eq_right (show W0 ≤ W0 + W1 + q + 1 by omega), Nat.min_eq_right (show W0 ≤ W0 + W1 + q by omega), Nat.min_eq_right (show W1 ≤ W0 + W1 + q + 1 - W0 by omega), Nat.min_eq_right (show W1 ≤ W0 + W1 + q - W0 by omega)]
      by_cases h3 : q < 2 * min S0 S1
      · simp only [if_pos h3]
        by_cases h4 : q % 2 = 1
        · right
          obtain ⟨e1, e2⟩ := lalt_odd h3 h4
          exact ⟨by simp [h4], by rw [e1], by rw [e2]; rfl⟩
        · left
          obtain ⟨e1, e2⟩ := lalt_even h3 (by omega)
          exact ⟨by simp [h4], by rw [e1]; rfl, by rw [e2]⟩
      · simp only [if_neg h3]
        by_cases h4 : S0 < S1
        · right
          exact ⟨by simp [h4], by rw [lalt_full (by omega) (h := (q + 1) / 2) (h' := (q + 1 + 1) / 2) (by omega) (by omega)], by rw [lalt_more (by omega) (by omega) (h := q / 2) (h' := (q + 1) / 2) (by omega) (by omega)]; rfl⟩
        · left
          exact ⟨by simp [h4], by rw [lalt_more (by omega) (by omega) (h := (q + 1) / 2) (h' := (q + 1 + 1) / 2) (by omega) (by omega)]; rfl, by rw [lalt_full (by omega) (h := q / 2) (h' := (q + 1) / 2) (by omega) (by omega)]⟩
theorem lcnt_mono {W0 W1 S0 S1 a b : Nat} (h : a ≤ b) : lcnt0 W0 W1 S0 S1 a ≤ lcnt0 W0 W1 S0 S1 b ∧ lcnt1 W0 W1 S0 S1 a ≤ lcnt1 W0 W1 S0 S1 b := by
  unfold lcnt0 lcnt1 lalt
  omega
theorem lgo_line {W0 W1 S0 S1 : Nat} (rate room : Nat) : ∀ p, p ≤ W0 + W1 + S0 + S1 → lgo rate room (lline W0 W1 S0 S1 p) =
    ⟨p, lcnt0 W0 W1 S0 S1 (min p rate), lcnt1 W0 W1 S0 S1 (min p rate), lcnt0 W0 W1 S0 S1 (min p (rate + room)) - lcnt0 W0 W1 S0 S1 (min p rate), lcnt1 W0 W1 S0 S1 (min p (rate + room)) - lcnt1 W0 W1 S0 S1 (min p rate),
      lcnt0 W0 W1 S0 S1 p - lcnt0 W0 W1 S0 S1 (min p (rate + room)), lcnt1 W0 W1 S0 S1 p - lcnt1 W0 W1 S0 S1 (min p (rate + room))⟩ := by
  intro p
  induction p with
  | zero =>
    intro _
    simp [lline_zero, lgo, lbegin, lcnt0, lcnt1, lalt]
  | succ p ih =>
    intro hp
    rw [lline_succ, lgo_snoc, ih (by omega)]
    have h := lcnt_succ (show p < W0 + W1 + S0 + S1 by omega)
    have m0 := lcnt_mono (W0 := W0) (W1 := W1) (S0 := S0) (S1 := S1) (Nat.min_le_left p (rate + room))
    have m2 := lcnt_mono (W0 := W0) (W1 := W1) (S0 := S0) (S1 := S1) (show min p rate ≤ min p (rate + room) by omega)
    by_cases r1 : p < rate
    · have e1 : min p rate = p := by omega
      have e2 : min (p + 1) rate = p + 1 := by omega
      have e3 : min p (rate + room) = p := by omega
      have e4 : min (p + 1) (rate + room) = p + 1 := by omega
      simp only [e1, e3] at m0 m2
      rw [e1, e2, e3, e4]
      rcases h with ⟨hw, ha, hb⟩ | ⟨hw, ha, hb⟩ <;> rw [hw] <;> simp only [lstep, if_pos r1, ha, hb] <;> simp
    · have e1 : min p rate = rate := by omega
      have e2 : min (p + 1) rate = rate := by omega
      rw [e1] at m2
      rw [e1, e2]
      by_cases r2 : p < rate + room
      · have e3 : min p (rate + room) = p := by omega
        have e4 : min (p + 1) (rate + room) = p + 1 := by omega
        rw [e3] at m0 m2
        rw [e3, e4]
        rcases h with ⟨hw, ha, hb⟩ | ⟨hw, ha, hb⟩ <;> rw [hw] <;> simp only [lstep, if_neg r1, if_pos r2, ha, hb] <;> simp <;> omega
      · have e3 : min p (rate + room) = rate + room := by omega
        have e4 : min (p + 1) (rate + room) = rate + room := by omega
        rw [e3] at m0 m2
        rw [e3, e4]
        rcases h with ⟨hw, ha, hb⟩ | ⟨hw, ha, hb⟩ <;> rw [hw] <;> simp only [lstep, if_neg r1, if_neg r2, ha, hb] <;> simp <;> omega
/-- What may be asked of the link. -/
def LRight (rate room w0 w1 s0 s1 : Int) : Prop := 1 ≤ rate ∧ rate ≤ 12 ∧ 0 ≤ room ∧ room ≤ 16 ∧ 0 ≤ w0 ∧ 0 ≤ w1 ∧ w0 + w1 ≤ 16 ∧ 0 ≤ s0 ∧ s0 ≤ 12 ∧ 0 ≤ s1 ∧ s1 ≤ 12
/-- What the link does. -/
def lpass (rate room W0 W1 S0 S1 : Nat) : LSt := lgo rate room (lline W0 W1 S0 S1 (W0 + W1 + S0 + S1))
end Go.Tide
