/- LedbatLess: for every control and any two delays the law returns true. Conditions: none. -/
import Derived.Test.YtiojkmnkpcgdfaaLed
import Derived.Test.YtiojkmnkpcgdfaaOpen
namespace Go.Proofs.Ytiojkmnkpcgdfaa
open Go.RowKit Go.Tide
set_option linter.unusedVariables false
set_option linter.unusedSimpArgs false

theorem led_less {k win base way spd part a b k1 win1 base1 way1 spd1 part1 er1 k2 win2 base2 way2 spd2 part2 er2 : Int}
    (h1 : LedNext k win base way spd part (if b < a then b else a) k1 win1 base1 way1 spd1 part1 er1)
    (h2 : LedNext k win base way spd part (if a < b then b else a) k2 win2 base2 way2 spd2 part2 er2) (e1 : er1 = 0) (e2 : er2 = 0) : win2 ≤ win1 := by
  have hab : (if b < a then b else a) ≤ (if a < b then b else a) := by omega
  generalize (if b < a then b else a) = x at *
  generalize (if a < b then b else a) = y at *
  rcases h1 with ⟨_, h, _⟩ | ⟨_, _, h, _⟩ | ⟨hr, h3, h4, _, _, h5, _⟩
  · omega
  · omega
  · rcases h2 with ⟨_, h, _⟩ | ⟨_, _, h, _⟩ | ⟨_, h6, h7, _, _, h8, _⟩
    · omega
    · omega
    · have hr' := of_decide_eq_true hr
      have h9 : ledAll win base part y ≤ ledAll win base part x := by
        simp only [ledAll, lowBase]
        omega
      omega

set_option maxHeartbeats 400000 in
theorem ledbatLess_walk (k win base way spd part : Int) (a : Int) (b : Int) (w : World) (_ : InI64 k) (_ : InI64 win) (_ : InI64 base) (_ : InI64 way) (_ : InI64 spd) (_ : InI64 part) (_ : InI64 a) (_ : InI64 b) :
    Calls Try.prog 4 #[.agg #[.int .i64 k, .int .i64 win, .int .i64 base, .int .i64 way, .int .i64 spd, .int .i64 part], .int .i64 a, .int .i64 b] w fun e w' => e = .returned (.bool true) ∧ Below w.heap.size w w' := by
  go_enter Try.func4, Try.ntmps4
  go_wp2_with (first
    | (go_at_call 13; refine (ledbat_alive _).mono ?_; rintro e w' ⟨rfl, os, n, rfl⟩)
    | (go_at_call 15; refine (ledbat_next _ _ _ _ _ _ _ _).mono ?_; rintro e w' ⟨k', win', base', way', spd', part', er, x, y, z, hn, rfl, rfl⟩))
  all_goals
    go_ret
    refine ⟨ret_bool ?_, More.below (by repeat (first | exact More.refl _ | refine More.alloc ?_ _ | refine More.more ?_ _ _))⟩
    first
      | rfl
      | exact decide_eq_true (led_less (a := a) (b := b) (by assumption) (by assumption) (by assumption) (by assumption))
end Go.Proofs.Ytiojkmnkpcgdfaa
