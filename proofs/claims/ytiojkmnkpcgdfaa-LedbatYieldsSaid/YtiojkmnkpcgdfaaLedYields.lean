/- LedbatYields: for every control and delay the law returns true. Conditions: none. -/
import Derived.Test.YtiojkmnkpcgdfaaLed
import Derived.Test.YtiojkmnkpcgdfaaOpen
namespace Go.Proofs.Ytiojkmnkpcgdfaa
open Go.RowKit Go.Tide
set_option linter.unusedVariables false
set_option linter.unusedSimpArgs false

set_option maxHeartbeats 400000 in
theorem ledbatYields_walk (k win base way spd part : Int) (d : Int) (w : World) (_ : InI64 k) (_ : InI64 win) (_ : InI64 base) (_ : InI64 way) (_ : InI64 spd) (_ : InI64 part) (_ : InI64 d) :
    Calls Try.prog 6 #[.agg #[.int .i64 k, .int .i64 win, .int .i64 base, .int .i64 way, .int .i64 spd, .int .i64 part], .int .i64 d] w fun e w' => e = .returned (.bool true) ∧ Below w.heap.size w w' := by
  by_cases hr : ledbatRight k win base way spd part = true
  · by_cases hd : 0 ≤ d ∧ d ≤ 1099511627776
    · obtain ⟨hd0, hd1⟩ := hd
      obtain ⟨rfl, a1, a2, a3, a4, rfl, rfl, a5, a6, a7⟩ := of_decide_eq_true hr
      have b1 : 4 ≤ ledAll win base part d := by simp only [ledAll]; omega
      have b2 : ledAll win base part d ≤ 48 := by simp only [ledAll]; omega
      have b3 : 0 ≤ lowBase base d := by simp only [lowBase]; omega
      have b4 : lowBase base d ≤ d := by simp only [lowBase]; omega
      have b5 : 2 < d - lowBase base d → ledAll win base part d < 4 * win + part ∨ 4 * win + part = 4 := by simp only [ledAll]; omega
      have b6 : d - lowBase base d < 2 → 4 * win + part < ledAll win base part d ∨ 48 ≤ 4 * win + part := by simp only [ledAll]; omega
      have b7 : d - lowBase base d = 2 → ledAll win base part d = 4 * win + part ∨ 48 < 4 * win + part := by simp only [ledAll]; omega
      have B5 := Lib.hid b5
      have B6 := Lib.hid b6
      have B7 := Lib.hid b7
      have A7 := Lib.hid a7
      have HR := Lib.hid hr
      clear b5 b6 b7 a7 hr
      go_enter Try.func6, Try.ntmps6
      go_wp2_with (first
        | (go_at_call 13; refine (ledbat_alive _).mono ?_; rintro e w' ⟨rfl, os, n, rfl⟩)
        | (go_at_call 15; refine (ledbat_next_ok _ _ _ _ _ _ _ _ HR.out hd0 hd1).mono ?_; rintro e w' ⟨rfl, x, y, z, rfl⟩))
      go_quiet (fail)
      go_wp2
      all_goals
        go_ret
        refine ⟨ret_bool ?_, More.below (by repeat (first | exact More.refl _ | refine More.alloc ?_ _ | refine More.more ?_ _ _ | refine More.drewN ?_ _ | refine More.drew ?_))⟩
      all_goals
        have c5 := B5.out
        have c6 := B6.out
        have c7 := B7.out
        first
          | rfl
          | ((simp only [Bool.or_eq_true, Bool.and_eq_true, Bool.not_eq_true', decide_eq_true_eq, decide_eq_false_iff_not, beq_iff_eq, bne_iff_ne, beq_eq_false_iff_ne, ne_eq, Bool.false_eq_true, or_false, false_or, Bool.true_or, Bool.or_true]); omega)
    · go_enter Try.func6, Try.ntmps6
      go_wp2_with (first
        | (go_at_call 13; refine (ledbat_alive _).mono ?_; rintro e w' ⟨rfl, os, n, rfl⟩)
        | (go_at_call 15; refine (ledbat_next_range _ _ _ _ _ _ _ _ hr (by omega)).mono ?_; rintro e w' ⟨rfl, x, y, z, rfl⟩))
      go_ret
      exact ⟨rfl, More.below (by repeat (first | exact More.refl _ | refine More.alloc ?_ _ | refine More.more ?_ _ _ | refine More.drewN ?_ _ | refine More.drew ?_))⟩
  · have hr' : ledbatRight k win base way spd part = false := by simpa using hr
    clear hr
    go_enter Try.func6, Try.ntmps6
    go_wp2_with (first
      | (go_at_call 13; refine (ledbat_alive _).mono ?_; rintro e w' ⟨rfl, os, n, rfl⟩)
      | (go_at_call 15; refine (ledbat_next_form _ _ _ _ _ _ _ _ hr').mono ?_; rintro e w' ⟨rfl, x, y, z, rfl⟩))
    go_ret
    exact ⟨rfl, More.below (by repeat (first | exact More.refl _ | refine More.alloc ?_ _ | refine More.more ?_ _ _ | refine More.drewN ?_ _ | refine More.drew ?_))⟩
end Go.Proofs.Ytiojkmnkpcgdfaa
