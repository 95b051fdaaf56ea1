/- VegasYields: for every control and any two delays the law returns true. Conditions: none. -/
import Derived.Test.YtiojkmnkpcgdfaaVeg
import Derived.Test.YtiojkmnkpcgdfaaOpen
namespace Go.Proofs.Ytiojkmnkpcgdfaa
open Go.RowKit Go.Tide
set_option linter.unusedVariables false
set_option linter.unusedSimpArgs false

theorem veg_yields {k win base way spd part a b k1 win1 base1 way1 spd1 part1 er1 k2 win2 base2 way2 spd2 part2 er2 : Int}
    (h1 : VegNext k win base way spd part (if b < a then b else a) k1 win1 base1 way1 spd1 part1 er1)
    (h2 : VegNext k win base way spd part (if a < b then b else a) k2 win2 base2 way2 spd2 part2 er2) (e1 : er1 = 0) (e2 : er2 = 0) : win2 ≤ win1 := by
  have hab : (if b < a then b else a) ≤ (if a < b then b else a) := by omega
  generalize (if b < a then b else a) = x at *
  generalize (if a < b then b else a) = y at *
  rcases h1 with ⟨_, h, _⟩ | ⟨_, _, h, _⟩ | ⟨hr, h3, h4, _, _, h5, _⟩
  · omega
  · omega
  · rcases h2 with ⟨_, h, _⟩ | ⟨_, _, h, _⟩ | ⟨_, h6, h7, _, _, h8, _⟩
    · omega
    · omega
    · have hr' := of_decide_eq_true hr
      have h9 : vegMore win base x ≤ vegMore win base y := by
        unfold vegMore
        have hw : 0 ≤ win := by omega
        by_cases hb : base < 0 ∨ x < base
        · have hlx : lowBase base x = x := by simp only [lowBase, if_pos hb]
          rw [hlx, Int.sub_self, Int.mul_zero, Int.zero_ediv]
          refine Int.ediv_nonneg (Int.mul_nonneg hw ?_) (by omega)
          simp only [lowBase]
          omega
        · have hlx : lowBase base x = base := by simp only [lowBase, if_neg hb]
          have hly : lowBase base y = base := by simp only [lowBase]; omega
          rw [hlx, hly, Int.le_ediv_iff_mul_le (by omega)]
          have q1 : win * (x - base) / (1 + x) * (1 + x) ≤ win * (x - base) := Int.ediv_mul_le _ (by omega)
          have q0 : 0 ≤ win * (x - base) / (1 + x) := Int.ediv_nonneg (Int.mul_nonneg hw (by omega)) (by omega)
          generalize win * (x - base) / (1 + x) = q at *
          have q2 : q * (1 + x) * (1 + y) ≤ win * (x - base) * (1 + y) := Int.mul_le_mul_of_nonneg_right q1 (by omega)
          have q3 : (x - base) * (1 + y) ≤ (y - base) * (1 + x) := by
            have : 0 ≤ (y - x) * (1 + base) := Int.mul_nonneg (by omega) (by omega)
            have e : (y - base) * (1 + x) - (x - base) * (1 + y) = (y - x) * (1 + base) := by
              simp only [Int.sub_mul, Int.mul_sub, Int.mul_add, Int.add_mul, Int.mul_one, Int.mul_comm]
              omega
            omega
          have q4 : win * (x - base) * (1 + y) ≤ win * (y - base) * (1 + x) := by
            rw [Int.mul_assoc, Int.mul_assoc]
            exact Int.mul_le_mul_of_nonneg_left q3 hw
          have q5 : q * (1 + y) * (1 + x) ≤ win * (y - base) * (1 + x) := by
            have e : q * (1 + y) * (1 + x) = q * (1 + x) * (1 + y) := by rw [Int.mul_assoc, Int.mul_comm (1 + y), ← Int.mul_assoc]
            omega
          exact Int.le_of_mul_le_mul_right q5 (by omega)
      have h10 : vegWin win base y ≤ vegWin win base x := by
        simp only [vegWin]
        omega
      omega

set_option maxHeartbeats 400000 in
theorem vegasYields_walk (k win base way spd part : Int) (a : Int) (b : Int) (w : World) (_ : InI64 k) (_ : InI64 win) (_ : InI64 base) (_ : InI64 way) (_ : InI64 spd) (_ : InI64 part) (_ : InI64 a) (_ : InI64 b) :
    Calls Try.prog 8 #[.agg #[.int .i64 k, .int .i64 win, .int .i64 base, .int .i64 way, .int .i64 spd, .int .i64 part], .int .i64 a, .int .i64 b] w fun e w' => e = .returned (.bool true) ∧ Below w.heap.size w w' := by
  go_enter Try.func8, Try.ntmps8
  go_wp2_with (first
    | (go_at_call 17; refine (vegas_alive _).mono ?_; rintro e w' ⟨rfl, os, n, rfl⟩)
    | (go_at_call 19; refine (vegas_next _ _ _ _ _ _ _ _).mono ?_; rintro e w' ⟨k', win', base', way', spd', part', er, x, y, z, hn, rfl, rfl⟩))
  all_goals
    go_ret
    refine ⟨ret_bool ?_, More.below (by repeat (first | exact More.refl _ | refine More.alloc ?_ _ | refine More.more ?_ _ _))⟩
    first
      | rfl
      | exact decide_eq_true (veg_yields (a := a) (b := b) (by assumption) (by assumption) (by assumption) (by assumption))
end Go.Proofs.Ytiojkmnkpcgdfaa
