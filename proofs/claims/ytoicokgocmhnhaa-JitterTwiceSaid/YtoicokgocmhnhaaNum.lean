/- What num.Fit, num.Plus and num.Less answer, for every input: contracts over this seat's program. Conditions: none. -/
import Derived.Test.YtoicokgocmhnhaaProg
import Derived.Test.YtoicokgocmhnhaaKit
set_option linter.unusedVariables false
set_option linter.unusedSimpArgs false
namespace Go.Tide
def fit (a : Int) : Int := min (max a 0) 1152921504606846976
def plus (a b : Int) : Int := min (fit a + fit b) 1152921504606846976
def less (a b : Int) : Int := if fit b = 1152921504606846976 ∨ fit a < fit b then 0 else if fit a = 1152921504606846976 then fit a else fit a - fit b
end Go.Tide
namespace Go.Proofs.Ytoicokgocmhnhaa
open Go.RowKit Go.Tide
set_option linter.unusedVariables false
set_option linter.unusedSimpArgs false

theorem fit_any (a : Int) (w : World) : Calls Try.prog 17 #[.int .i64 a] w fun e w' => e = .returned (.int .i64 (fit a)) ∧ w = w' := by
  go_enter Try.func17, Try.ntmps17
  go_wp2
  all_goals
    go_ret
    exact ⟨ret_int (by simp only [fit]; omega), rfl⟩

theorem plus_any (a b : Int) (w : World) : Calls Try.prog 30 #[.int .i64 a, .int .i64 b] w fun e w' => e = .returned (.int .i64 (plus a b)) ∧ w = w' := by
  have h1 : 0 ≤ fit a ∧ fit a ≤ 1152921504606846976 := by simp only [fit]; omega
  have h2 : 0 ≤ fit b ∧ fit b ≤ 1152921504606846976 := by simp only [fit]; omega
  obtain ⟨h3, h4⟩ := h1
  obtain ⟨h5, h6⟩ := h2
  go_enter Try.func30, Try.ntmps30
  go_wp2_with (go_at_call 17; refine (fit_any _ _).mono ?_; rintro e w' ⟨rfl, rfl⟩)
  all_goals
    go_ret
    exact ⟨ret_int (by simp only [plus]; omega), rfl⟩

set_option maxHeartbeats 400000 in
theorem less_any (a b : Int) (w : World) : Calls Try.prog 31 #[.int .i64 a, .int .i64 b] w fun e w' => e = .returned (.int .i64 (less a b)) ∧ w = w' := by
  have h1 : 0 ≤ fit a ∧ fit a ≤ 1152921504606846976 := by simp only [fit]; omega
  have h2 : 0 ≤ fit b ∧ fit b ≤ 1152921504606846976 := by simp only [fit]; omega
  obtain ⟨h3, h4⟩ := h1
  obtain ⟨h5, h6⟩ := h2
  go_enter Try.func31, Try.ntmps31
  go_wp2_with (go_at_call 17; refine (fit_any _ _).mono ?_; rintro e w' ⟨rfl, rfl⟩)
  all_goals
    go_ret
    refine ⟨ret_int ?_, rfl⟩
    try simp only [beq_iff_eq, beq_eq_false_iff_ne, ne_eq] at *
    unfold less
    (repeat' split) <;> omega

set_option maxHeartbeats 400000 in
theorem muldiv_zero (a b c : Int) (hc : fit c = 0) (w : World) : Calls Try.prog 32 #[.int .i64 a, .int .i64 b, .int .i64 c] w fun e w' => e = .returned (.int .i64 1152921504606846976) ∧ w = w' := by
  go_enter Try.func32, Try.ntmps32
  go_wp2_with (go_at_call 17; refine (fit_any _ _).mono ?_; rintro e w' ⟨rfl, rfl⟩)
  go_ret
  exact ⟨rfl, rfl⟩

theorem mask32 (a : Int) (h0 : 0 ≤ a) (h1 : a < 4294967296) : bits .and .u64 a 4294967295 = a := by
  rw [u64_and a 4294967295 h0 (by omega) (by omega) (by omega)]
  rw [show (4294967295 : Int).toNat = 2 ^ 32 - 1 from rfl, Nat.and_two_pow_sub_one_eq_mod, Nat.mod_eq_of_lt (by omega)]
  omega

set_option maxHeartbeats 400000 in
theorem mul64_small (a b : Int) (ha0 : 0 ≤ a) (ha : a ≤ 1073741824) (hb0 : 0 ≤ b) (hb : b ≤ 1073741824) (w : World) :
    Calls Try.prog 40 #[.int .u64 a, .int .u64 b] w fun e w' => e = .returned (.tuple #[.int .u64 0, .int .u64 (a * b)]) ∧ w = w' := by
  have h1 := mask32 a ha0 (by omega)
  have h2 := mask32 b hb0 (by omega)
  have h3 : a / 4294967296 = 0 := Int.ediv_eq_zero_of_lt ha0 (by omega)
  have h4 : b / 4294967296 = 0 := Int.ediv_eq_zero_of_lt hb0 (by omega)
  have h5 : 0 ≤ a * b := Int.mul_nonneg ha0 hb0
  have h6 : a * b ≤ 1152921504606846976 := by
    have := Int.mul_le_mul ha hb hb0 (by omega)
    omega
  have h7 := mask32 (a * b / 4294967296) (by omega) (by omega)
  have h8 : a * b / 4294967296 / 4294967296 = 0 := by omega
  have h9 := mask32 0 (by omega) (by omega)
  go_enter Try.func40, Try.ntmps40
  go_wp2
  go_ways
  go_ret2
  exact ⟨rfl, rfl⟩

set_option maxHeartbeats 400000 in
theorem div64_small (lo y : Int) (ha0 : 0 ≤ lo) (ha : lo ≤ 1152921504606846976) (hb0 : 0 < y) (hb : y ≤ 1073741824) (w : World) :
    Calls Try.prog 41 #[.int .u64 0, .int .u64 lo, .int .u64 y] w fun e w' => e = .returned (.tuple #[.int .u64 (lo / y), .int .u64 (lo % y)]) ∧ More w w' := by
  have h4 : (y == 0) = false := by simp; omega
  have h5 : decide (y ≤ 0) = false := by simp; omega
  go_enter Try.func41, Try.ntmps41
  go_wp2
  go_quiet (fail)
  go_wp2
  go_ret2
  exact ⟨rfl, (by repeat (first | (with_reducible exact More.refl _) | (with_reducible refine More.alloc ?_ _) | (with_reducible refine More.more ?_ _ _) | (with_reducible refine More.drewN ?_ _) | (with_reducible refine More.drew ?_)))⟩

set_option maxHeartbeats 400000 in
theorem muldiv_small (a b c : Int) (ha0 : 0 ≤ a) (ha : a ≤ 1073741824) (hb0 : 0 ≤ b) (hb : b ≤ 1073741824) (hc0 : 0 < c) (hc : c ≤ 1073741824) (w : World) :
    Calls Try.prog 32 #[.int .i64 a, .int .i64 b, .int .i64 c] w fun e w' => e = .returned (.int .i64 (a * b / c)) ∧ More w w' := by
  have h1 : fit a = a := by simp only [fit]; omega
  have h2 : fit b = b := by simp only [fit]; omega
  have h3 : fit c = c := by simp only [fit]; omega
  have h4 : (c == 0) = false := by simp; omega
  have h5 : 0 ≤ a * b := Int.mul_nonneg ha0 hb0
  have h6 : a * b ≤ 1152921504606846976 := by
    have := Int.mul_le_mul ha hb hb0 (by omega)
    omega
  have h7 : 0 ≤ a * b / c := Int.ediv_nonneg h5 (by omega)
  have h8 : a * b / c ≤ 1152921504606846976 := by
    have := Int.ediv_le_self c h5
    omega
  have h9 : decide (c ≤ 0) = false := by simp; omega
  go_enter Try.func32, Try.ntmps32
  go_wp2_with (first
    | (go_at_call 17; refine (fit_any _ _).mono ?_; rintro e w' ⟨rfl, rfl⟩)
    | (go_at_call 40; refine (mul64_small _ _ ha0 ha hb0 hb _).mono ?_; rintro e w' ⟨rfl, rfl⟩)
    | (go_at_call 41; refine (div64_small _ _ h5 h6 hc0 hc _).mono ?_; rintro e w' ⟨rfl, os, n, rfl⟩))
  all_goals
    go_ret
    exact ⟨ret_int (by omega), (by repeat (first | (with_reducible exact More.refl _) | (with_reducible refine More.alloc ?_ _) | (with_reducible refine More.more ?_ _ _) | (with_reducible refine More.drewN ?_ _) | (with_reducible refine More.drew ?_)))⟩
end Go.Proofs.Ytoicokgocmhnhaa
