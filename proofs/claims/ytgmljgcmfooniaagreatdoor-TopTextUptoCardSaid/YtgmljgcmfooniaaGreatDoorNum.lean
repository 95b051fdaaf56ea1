/- What num.Fit, num.Plus and num.Less answer, for every input: contracts over this seat's program. Conditions: none. -/
import Derived.Test.YtgmljgcmfooniaaGreatDoorProg
import Derived.Test.YtgmljgcmfooniaaGreatDoorKit
set_option linter.unusedVariables false
set_option linter.unusedSimpArgs false
namespace Go.Tide
def fit (a : Int) : Int := min (max a 0) 1152921504606846976
def plus (a b : Int) : Int := min (fit a + fit b) 1152921504606846976
def less (a b : Int) : Int := if fit b = 1152921504606846976 ∨ fit a < fit b then 0 else if fit a = 1152921504606846976 then fit a else fit a - fit b
end Go.Tide
namespace Go.Proofs.YtgmljgcmfooniaaGreatDoor
open Go.RowKit Go.Tide
set_option linter.unusedVariables false
set_option linter.unusedSimpArgs false

theorem fit_any (a : Int) (w : World) : Calls Tryz.prog 73 #[.int .i64 a] w fun e w' => e = .returned (.int .i64 (fit a)) ∧ w = w' := by
  go_enter Tryz.func73, Tryz.ntmps73
  go_wp2
  all_goals
    go_ret
    exact ⟨ret_int (by simp only [fit]; omega), rfl⟩

theorem plus_any (a b : Int) (w : World) : Calls Tryz.prog 45 #[.int .i64 a, .int .i64 b] w fun e w' => e = .returned (.int .i64 (plus a b)) ∧ w = w' := by
  have h1 : 0 ≤ fit a ∧ fit a ≤ 1152921504606846976 := by simp only [fit]; omega
  have h2 : 0 ≤ fit b ∧ fit b ≤ 1152921504606846976 := by simp only [fit]; omega
  obtain ⟨h3, h4⟩ := h1
  obtain ⟨h5, h6⟩ := h2
  go_enter Tryz.func45, Tryz.ntmps45
  go_wp2_with (go_at_call 73; refine (fit_any _ _).mono ?_; rintro e w' ⟨rfl, rfl⟩)
  all_goals
    go_ret
    exact ⟨ret_int (by simp only [plus]; omega), rfl⟩


end Go.Proofs.YtgmljgcmfooniaaGreatDoor
