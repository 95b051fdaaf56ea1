/- What num.Fit, num.Plus and num.Less answer, for every input: contracts over this seat's program. Conditions: none. -/
import Derived.Test.YtdilmnpoicdkhaaProg
import Derived.Test.YtdilmnpoicdkhaaKit
set_option linter.unusedVariables false
set_option linter.unusedSimpArgs false
namespace Go.Tide
def fit (a : Int) : Int := min (max a 0) 1152921504606846976
def plus (a b : Int) : Int := min (fit a + fit b) 1152921504606846976
def less (a b : Int) : Int := if fit b = 1152921504606846976 ∨ fit a < fit b then 0 else if fit a = 1152921504606846976 then fit a else fit a - fit b
end Go.Tide
namespace Go.Proofs.Ytdilmnpoicdkhaa
open Go.RowKit Go.Tide
set_option linter.unusedVariables false
set_option linter.unusedSimpArgs false

theorem fit_any (a : Int) (w : World) : Calls Try.prog 31 #[.int .i64 a] w fun e w' => e = .returned (.int .i64 (fit a)) ∧ w = w' := by
  go_enter Try.func31, Try.ntmps31
  go_wp2
  all_goals
    go_ret
    exact ⟨ret_int (by simp only [fit]; omega), rfl⟩

theorem plus_any (a b : Int) (w : World) : Calls Try.prog 35 #[.int .i64 a, .int .i64 b] w fun e w' => e = .returned (.int .i64 (plus a b)) ∧ w = w' := by
  have h1 : 0 ≤ fit a ∧ fit a ≤ 1152921504606846976 := by simp only [fit]; omega
  have h2 : 0 ≤ fit b ∧ fit b ≤ 1152921504606846976 := by simp only [fit]; omega
  obtain ⟨h3, h4⟩ := h1
  obtain ⟨h5, h6⟩ := h2
  go_enter Try.func35, Try.ntmps35
  go_wp2_with (go_at_call 31; refine (fit_any _ _).mono ?_; rintro e w' ⟨rfl, rfl⟩)
  all_goals
    go_ret
    exact ⟨ret_int (by simp only [plus]; omega), rfl⟩

set_option maxHeartbeats 400000 in
theorem less_any (a b : Int) (w : World) : Calls Try.prog 62 #[.int .i64 a, .int .i64 b] w fun e w' => e = .returned (.int .i64 (less a b)) ∧ w = w' := by
  have h1 : 0 ≤ fit a ∧ fit a ≤ 1152921504606846976 := by simp only [fit]; omega
  have h2 : 0 ≤ fit b ∧ fit b ≤ 1152921504606846976 := by simp only [fit]; omega
  obtain ⟨h3, h4⟩ := h1
  obtain ⟨h5, h6⟩ := h2
  go_enter Try.func62, Try.ntmps62
  go_wp2_with (go_at_call 31; refine (fit_any _ _).mono ?_; rintro e w' ⟨rfl, rfl⟩)
  all_goals
    go_ret
    refine ⟨ret_int ?_, rfl⟩
    try simp only [beq_iff_eq, beq_eq_false_iff_ne, ne_eq] at *
    unfold less
    (repeat' split) <;> omega

end Go.Proofs.Ytdilmnpoicdkhaa
