/- CopaYields: for every control and any two delays the law returns true. Conditions: none. -/
import Derived.Test.YtiojkmnkpcgdfaaCopa
import Derived.Test.YtiojkmnkpcgdfaaOpen
namespace Go.Proofs.Ytiojkmnkpcgdfaa
open Go.RowKit Go.Tide
set_option linter.unusedVariables false
set_option linter.unusedSimpArgs false

theorem copa_yields {k win base way spd part a b k1 win1 base1 way1 spd1 part1 er1 k2 win2 base2 way2 spd2 part2 er2 : Int}
    (h1 : CopaNext k win base way spd part (if b < a then b else a) k1 win1 base1 way1 spd1 part1 er1)
    (h2 : CopaNext k win base way spd part (if a < b then b else a) k2 win2 base2 way2 spd2 part2 er2) (e1 : er1 = 0) (e2 : er2 = 0) : win2 ≤ win1 := by
  have hab : (if b < a then b else a) ≤ (if a < b then b else a) := by omega
  generalize (if b < a then b else a) = x at *
  generalize (if a < b then b else a) = y at *
  rcases h1 with ⟨_, h, _⟩ | ⟨_, _, h, _⟩ | ⟨hr, h3, h4, _, _, h5, _⟩
  · omega
  · omega
  · rcases h2 with ⟨_, h, _⟩ | ⟨_, _, h, _⟩ | ⟨_, h6, h7, _, _, h8, _⟩
    · omega
    · omega
    · have hr' := of_decide_eq_true hr
      have hs : ∀ d, 1 ≤ copaSpd win base way spd d ∧ copaSpd win base way spd d ≤ 4 := by intro d; unfold copaSpd; split <;> omega
      have hw : ∀ d, copaWay win base d = 1 ∨ copaWay win base d = -1 := by intro d; unfold copaWay; split <;> simp
      have h9 : copaWay win base x = -1 → copaWay win base y = -1 := by
        intro hx
        have hc : 0 < x - lowBase base x ∧ 2 * (1 + x) / (x - lowBase base x) < win := by
          unfold copaWay at hx
          split at hx
          · assumption
          · simp at hx
        obtain ⟨hc1, hc2⟩ := hc
        have hb : ¬ (base < 0 ∨ x < base) := by
          intro hb
          have hlx : lowBase base x = x := by simp only [lowBase, if_pos hb]
          omega
        have hlx : lowBase base x = base := by simp only [lowBase, if_neg hb]
        have hly : lowBase base y = base := by simp only [lowBase]; omega
        rw [hlx] at hc1 hc2
        have hc3 : 2 * (1 + y) / (y - base) < win := by
          rw [Int.ediv_lt_iff_lt_mul (by omega)] at hc2 ⊢
          have q1 : 0 ≤ (y - x) * (win - 2) := by
            have : 2 < win := by
              rcases Int.lt_or_le 2 win with h | h
              · exact h
              · have h1 := Int.mul_le_mul_of_nonneg_right h (by omega : 0 ≤ x - base)
                omega
            exact Int.mul_nonneg (by omega) (by omega)
          have e : win * (y - base) - 2 * (1 + y) = (win * (x - base) - 2 * (1 + x)) + (y - x) * (win - 2) := by
            simp only [Int.mul_sub, Int.sub_mul, Int.mul_add, Int.mul_one, Int.mul_comm]
            omega
          omega
        unfold copaWay
        rw [hly, if_pos ⟨by omega, hc3⟩]
      have h10 : copaWin win base way spd y ≤ copaWin win base way spd x := by
        rcases hw x with hx | hx
        · rcases hw y with hy | hy
          · have : copaSpd win base way spd y = copaSpd win base way spd x := by unfold copaSpd; rw [hx, hy]
            unfold copaWin
            rw [hx, hy, this]
            exact Int.le_refl _
          · have := hs x
            have := hs y
            unfold copaWin
            rw [hx, hy]
            omega
        · have hy := h9 hx
          have : copaSpd win base way spd y = copaSpd win base way spd x := by unfold copaSpd; rw [hx, hy]
          unfold copaWin
          rw [hx, hy, this]
          exact Int.le_refl _
      omega

set_option maxHeartbeats 400000 in
theorem copaYields_walk (k win base way spd part : Int) (a : Int) (b : Int) (w : World) (_ : InI64 k) (_ : InI64 win) (_ : InI64 base) (_ : InI64 way) (_ : InI64 spd) (_ : InI64 part) (_ : InI64 a) (_ : InI64 b) :
    Calls Try.prog 11 #[.agg #[.int .i64 k, .int .i64 win, .int .i64 base, .int .i64 way, .int .i64 spd, .int .i64 part], .int .i64 a, .int .i64 b] w fun e w' => e = .returned (.bool true) ∧ Below w.heap.size w w' := by
  go_enter Try.func11, Try.ntmps11
  go_wp2_with (first
    | (go_at_call 21; refine (copa_alive _).mono ?_; rintro e w' ⟨rfl, os, n, rfl⟩)
    | (go_at_call 23; refine (copa_next _ _ _ _ _ _ _ _).mono ?_; rintro e w' ⟨k', win', base', way', spd', part', er, hn, rfl, os1, n1, rfl⟩))
  all_goals
    go_ret
    refine ⟨ret_bool ?_, More.below (by repeat (first | (with_reducible exact More.refl _) | (with_reducible refine More.alloc ?_ _) | (with_reducible refine More.more ?_ _ _) | (with_reducible refine More.drewN ?_ _) | (with_reducible refine More.drew ?_)))⟩
    first
      | rfl
      | exact decide_eq_true (copa_yields (a := a) (b := b) (by assumption) (by assumption) (by assumption) (by assumption))
end Go.Proofs.Ytiojkmnkpcgdfaa
