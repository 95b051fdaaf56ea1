/- NumSums, NumLess, NumMulDiv: for every input the laws return true. Conditions: none. -/
import Derived.Test.YtoicokgocmhnhaaNum
import Derived.Test.YtoicokgocmhnhaaOpen
import Derived.WalkLawsBesides
namespace Go.Proofs.Ytoicokgocmhnhaa
open Go.RowKit Go.Tide
set_option linter.unusedVariables false
set_option linter.unusedSimpArgs false

set_option maxHeartbeats 400000 in
theorem num_alive (w : World) : Calls Try.prog 29 #[] w fun e w' => e = .returned (.bool true) ∧ More w w' := by
  have e1 : plus 3 4 = 7 := by decide
  have e2 : plus 1152921504606846976 1 = 1152921504606846976 := by decide
  have e3 : less 9 4 = 5 := by decide
  have e4 : less 4 9 = 0 := by decide
  have e5 : fit (-3) = 0 := by decide
  go_enter Try.func29, Try.ntmps29
  go_wp2_with (first
    | (go_at_call 30; refine (plus_any _ _ _).mono ?_; rintro e w' ⟨rfl, rfl⟩)
    | (go_at_call 31; refine (less_any _ _ _).mono ?_; rintro e w' ⟨rfl, rfl⟩)
    | (go_at_call 32; refine (muldiv_small 7 9 4 (by decide) (by decide) (by decide) (by decide) (by decide) (by decide) _).mono ?_; rintro e w' ⟨rfl, os, n, rfl⟩)
    | (go_at_call 17; refine (fit_any _ _).mono ?_; rintro e w' ⟨rfl, rfl⟩))
  go_ret
  exact ⟨rfl, (by repeat (first | (with_reducible exact More.refl _) | (with_reducible refine More.alloc ?_ _) | (with_reducible refine More.more ?_ _ _) | (with_reducible refine More.drewN ?_ _) | (with_reducible refine More.drew ?_)))⟩

set_option maxHeartbeats 400000 in
theorem numSums_walk (a0 : Int) (a1 : Int) (a2 : Int) (w : World) (b0 : InI64 a0) (b1 : InI64 a1) (b2 : InI64 a2) :
    Calls Try.prog 12 #[.int .i64 a0, .int .i64 a1, .int .i64 a2] w fun e w' => e = .returned (.bool true) ∧ Below w.heap.size w w' := by
  have h1 : (plus a0 a1 == plus a1 a0) = true := by rw [beq_iff_eq]; simp only [plus]; omega
  have h2 : (plus a0 (plus a1 a2) == plus (plus a0 a1) a2) = true := by rw [beq_iff_eq]; simp only [plus, fit]; omega
  have h3 : (plus a0 0 == fit a0) = true := by rw [beq_iff_eq]; simp only [plus, fit]; omega
  have h4 : (plus a0 1152921504606846976 == 1152921504606846976) = true := by rw [beq_iff_eq]; simp only [plus, fit]; omega
  have h6 : decide (fit a0 ≤ plus a0 a1) = true := by rw [decide_eq_true_eq]; simp only [plus, fit]; omega
  go_enter Try.func12, Try.ntmps12
  go_wp2_with (first
    | (go_at_call 29; refine (num_alive _).mono ?_; rintro e w' ⟨rfl, os, n, rfl⟩)
    | (go_at_call 30; refine (plus_any _ _ _).mono ?_; rintro e w' ⟨rfl, rfl⟩)
    | (go_at_call 17; refine (fit_any _ _).mono ?_; rintro e w' ⟨rfl, rfl⟩))
  all_goals
    go_ret
    refine ⟨ret_bool ?_, More.below (by repeat (first | (with_reducible exact More.refl _) | (with_reducible refine More.alloc ?_ _) | (with_reducible refine More.more ?_ _ _) | (with_reducible refine More.drewN ?_ _) | (with_reducible refine More.drew ?_)))⟩
    first
      | rfl
      | (simp only [plus, fit] at *; omega)

set_option maxHeartbeats 400000 in
theorem numLess_walk (a0 : Int) (a1 : Int) (a2 : Int) (w : World) (b0 : InI64 a0) (b1 : InI64 a1) (b2 : InI64 a2) :
    Calls Try.prog 13 #[.int .i64 a0, .int .i64 a1, .int .i64 a2] w fun e w' => e = .returned (.bool true) ∧ Below w.heap.size w w' := by
  by_cases hs : a0 ≤ 1099511627776 ∧ a1 ≤ 1099511627776 ∧ a2 ≤ 1099511627776
  · obtain ⟨s0, s1, s2⟩ := hs
    have h2 : (less (plus a0 a1) a1 == fit a0) = true := by
      rw [beq_iff_eq]
      unfold less
      simp only [plus, fit]
      (repeat' split) <;> omega
    by_cases hl : less a0 a1 ≤ fit a2
    · have h3 : fit a0 ≤ plus a2 a1 := by
        unfold less at hl
        simp only [plus, fit] at *
        (repeat' split at hl) <;> omega
      have h4 : decide (less a0 a1 ≤ fit a2) = true := by simpa using hl
      have h5 : decide (fit a0 ≤ plus a2 a1) = true := by simpa using h3
      clear hl h3
      go_enter Try.func13, Try.ntmps13
      go_wp2_with (first
        | (go_at_call 29; refine (num_alive _).mono ?_; rintro e w' ⟨rfl, os, n, rfl⟩)
        | (go_at_call 30; refine (plus_any _ _ _).mono ?_; rintro e w' ⟨rfl, rfl⟩)
        | (go_at_call 31; refine (less_any _ _ _).mono ?_; rintro e w' ⟨rfl, rfl⟩)
        | (go_at_call 17; refine (fit_any _ _).mono ?_; rintro e w' ⟨rfl, rfl⟩))
      all_goals
        go_ret
        exact ⟨rfl, More.below (by repeat (first | (with_reducible exact More.refl _) | (with_reducible refine More.alloc ?_ _) | (with_reducible refine More.more ?_ _ _) | (with_reducible refine More.drewN ?_ _) | (with_reducible refine More.drew ?_)))⟩
    · have h3 : ¬ fit a0 ≤ plus a2 a1 := by
        unfold less at hl
        simp only [plus, fit] at *
        (repeat' split at hl) <;> omega
      have h4 : decide (less a0 a1 ≤ fit a2) = false := by simpa using hl
      have h5 : decide (fit a0 ≤ plus a2 a1) = false := by simpa using h3
      clear hl h3
      go_enter Try.func13, Try.ntmps13
      go_wp2_with (first
        | (go_at_call 29; refine (num_alive _).mono ?_; rintro e w' ⟨rfl, os, n, rfl⟩)
        | (go_at_call 30; refine (plus_any _ _ _).mono ?_; rintro e w' ⟨rfl, rfl⟩)
        | (go_at_call 31; refine (less_any _ _ _).mono ?_; rintro e w' ⟨rfl, rfl⟩)
        | (go_at_call 17; refine (fit_any _ _).mono ?_; rintro e w' ⟨rfl, rfl⟩))
      all_goals
        go_ret
        exact ⟨rfl, More.below (by repeat (first | (with_reducible exact More.refl _) | (with_reducible refine More.alloc ?_ _) | (with_reducible refine More.more ?_ _ _) | (with_reducible refine More.drewN ?_ _) | (with_reducible refine More.drew ?_)))⟩
  · have hm : ∃ m, m = (if (if a0 < a1 then a1 else a0) < a2 then a2 else (if a0 < a1 then a1 else a0)) ∧ 1099511627776 < m := ⟨_, rfl, by omega⟩
    go_enter Try.func13, Try.ntmps13
    go_wp2_with (first
      | (go_at_call 29; refine (num_alive _).mono ?_; rintro e w' ⟨rfl, os, n, rfl⟩))
    all_goals
      first
        | (exfalso; omega)
        | (go_ret; exact ⟨rfl, More.below (by repeat (first | (with_reducible exact More.refl _) | (with_reducible refine More.alloc ?_ _) | (with_reducible refine More.more ?_ _ _) | (with_reducible refine More.drewN ?_ _) | (with_reducible refine More.drew ?_)))⟩)

set_option maxHeartbeats 400000 in
theorem numMulDiv_walk (a0 : Int) (a1 : Int) (a2 : Int) (w : World) (b0 : InI64 a0) (b1 : InI64 a1) (b2 : InI64 a2) :
    Calls Try.prog 14 #[.int .i64 a0, .int .i64 a1, .int .i64 a2] w fun e w' => e = .returned (.bool true) ∧ Below w.heap.size w w' := by
  have f0 : 0 ≤ fit a0 := by simp only [fit]; omega
  have f1 : 0 ≤ fit a1 := by simp only [fit]; omega
  have f2 : 0 ≤ fit a2 := by simp only [fit]; omega
  have g0 : 0 ≤ fit a0 % 1073741824 := by omega
  have g1 : 0 ≤ fit a1 % 1073741824 := by omega
  have g2 : 0 ≤ fit a2 % 1073741824 := by omega
  have k0 : fit a0 % 1073741824 < 1073741824 := by omega
  have k1 : fit a1 % 1073741824 < 1073741824 := by omega
  have k2 : fit a2 % 1073741824 < 1073741824 := by omega
  obtain ⟨x, hx⟩ : ∃ x, fit a0 % 1073741824 = x := ⟨_, rfl⟩
  obtain ⟨y, hy⟩ : ∃ y, fit a1 % 1073741824 = y := ⟨_, rfl⟩
  obtain ⟨z, hz⟩ : ∃ z, fit a2 % 1073741824 = z := ⟨_, rfl⟩
  rw [hx] at g0 k0
  rw [hy] at g1 k1
  rw [hz] at g2 k2
  have m0 : 0 ≤ x * y := Int.mul_nonneg g0 g1
  have m1 : x * y ≤ 1152921504606846976 := by
    have := Int.mul_le_mul (by omega : x ≤ 1073741824) (by omega : y ≤ 1073741824) g1 (by omega)
    omega
  by_cases hz0 : z = 0
  · subst hz0
    have hf : fit 0 = 0 := by decide
    go_enter Try.func14, Try.ntmps14
    go_wp2_with (first
      | (go_at_call 29; refine (num_alive _).mono ?_; rintro e w' ⟨rfl, os, n, rfl⟩)
      | (go_at_call 32; refine (muldiv_zero _ _ _ hf _).mono ?_; rintro e w' ⟨rfl, rfl⟩)
      | (go_at_call 17; refine (fit_any _ _).mono ?_; rintro e w' ⟨rfl, rfl⟩))
    go_ret
    exact ⟨rfl, More.below (by repeat (first | (with_reducible exact More.refl _) | (with_reducible refine More.alloc ?_ _) | (with_reducible refine More.more ?_ _ _) | (with_reducible refine More.drewN ?_ _) | (with_reducible refine More.drew ?_)))⟩
  · have hp : 0 < z := by omega
    have e0 : (z == 0) = false := by simpa using hz0
    have e1 : decide (x * y / z ≤ (x + 1) * y / z) = true := by
      rw [decide_eq_true_eq]
      refine Int.ediv_le_ediv hp ?_
      rw [Int.add_mul]
      omega
    have e2 : (y * x / z == x * y / z) = true := by rw [Int.mul_comm y x]; simp
    go_enter Try.func14, Try.ntmps14
    go_wp2_with (first
      | (go_at_call 29; refine (num_alive _).mono ?_; rintro e w' ⟨rfl, os, n, rfl⟩)
      | (go_at_call 32; refine (muldiv_small _ _ _ (by omega) (by omega) (by omega) (by omega) (by omega) (by omega) _).mono ?_; rintro e w' ⟨rfl, os1, n1, rfl⟩)
      | (go_at_call 17; refine (fit_any _ _).mono ?_; rintro e w' ⟨rfl, rfl⟩))
    all_goals
      go_ret
      exact ⟨rfl, More.below (by repeat (first | (with_reducible exact More.refl _) | (with_reducible refine More.alloc ?_ _) | (with_reducible refine More.more ?_ _ _) | (with_reducible refine More.drewN ?_ _) | (with_reducible refine More.drew ?_)))⟩
end Go.Proofs.Ytoicokgocmhnhaa
