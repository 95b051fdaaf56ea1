/- WindowTwice: for every input the law returns true. Conditions: none. -/
import Derived.Test.YtmlkebemkibipaaWinA
set_option linter.unusedVariables false
set_option linter.unusedSimpArgs false
namespace Go.Proofs.Ytmlkebemkibipaa
open Go.RowKit Go.Tide
set_option linter.unusedVariables false
set_option linter.unusedSimpArgs false

set_option maxHeartbeats 2000000 in
theorem windowTwice_walk (a0 : Option Addr) (len0 cap0 : Nat) (z0 : List Int) (a1 : Int) (a2 : Int) (w : World) (f0 : IsFlat w a0 len0 cap0 1 z0) (r0 : cap0 * 8 ≤ 140737488351232) (b1 : InI64 a1) (b2 : InI64 a2) :
    Calls Try.prog 3 #[.slice a0 len0 cap0, .int .i64 a1, .int .i64 a2] w fun e w' => e = .returned (.bool true) ∧ Below w.heap.size w w' := by
  have hle := f0.le
  have hs := f0.row
  generalize (fun k => z0.getD k 0) = x at hs
  clear f0
  by_cases c1 : a1 < 1
  · have d1 : decide (a1 < 1) = true := by simpa using c1
    go_enter Try.func3, Try.ntmps3
    go_wp2_with (go_at_call 13; refine (win_alive _).mono ?_; rintro e w' ⟨rfl, os, n_, rfl⟩)
    go_ret
    exact ⟨rfl, More.below (by repeat (first | (with_reducible assumption) | (with_reducible exact More.refl _) | (with_reducible refine More.alloc ?_ _) | (with_reducible refine More.more ?_ _ _) | (with_reducible refine More.drewN ?_ _) | (with_reducible refine More.drew ?_)))⟩
  · have d1 : decide (a1 < 1) = false := by simpa using c1
    by_cases c2 : a2 < 1
    · have d2 : decide (a2 < 1) = true := by simpa using c2
      go_enter Try.func3, Try.ntmps3
      go_wp2_with (go_at_call 13; refine (win_alive _).mono ?_; rintro e w' ⟨rfl, os, n_, rfl⟩)
      go_ret
      exact ⟨rfl, More.below (by repeat (first | (with_reducible assumption) | (with_reducible exact More.refl _) | (with_reducible refine More.alloc ?_ _) | (with_reducible refine More.more ?_ _ _) | (with_reducible refine More.drewN ?_ _) | (with_reducible refine More.drew ?_)))⟩
    · have d2 : decide (a2 < 1) = false := by simpa using c2
      by_cases c3 : 1099511627776 < a1
      · have d3 : decide (1099511627776 < a1) = true := by simpa using c3
        go_enter Try.func3, Try.ntmps3
        go_wp2_with (go_at_call 13; refine (win_alive _).mono ?_; rintro e w' ⟨rfl, os, n_, rfl⟩)
        go_ret
        exact ⟨rfl, More.below (by repeat (first | (with_reducible assumption) | (with_reducible exact More.refl _) | (with_reducible refine More.alloc ?_ _) | (with_reducible refine More.more ?_ _ _) | (with_reducible refine More.drewN ?_ _) | (with_reducible refine More.drew ?_)))⟩
      · have d3 : decide (1099511627776 < a1) = false := by simpa using c3
        by_cases c4 : 1099511627776 < a2
        · have d4 : decide (1099511627776 < a2) = true := by simpa using c4
          go_enter Try.func3, Try.ntmps3
          go_wp2_with (go_at_call 13; refine (win_alive _).mono ?_; rintro e w' ⟨rfl, os, n_, rfl⟩)
          go_ret
          exact ⟨rfl, More.below (by repeat (first | (with_reducible assumption) | (with_reducible exact More.refl _) | (with_reducible refine More.alloc ?_ _) | (with_reducible refine More.more ?_ _ _) | (with_reducible refine More.drewN ?_ _) | (with_reducible refine More.drew ?_)))⟩
        · have d4 : decide (1099511627776 < a2) = false := by simpa using c4
          have E1 := Lib.hid (eqRows_true (n := len0) (m := len0) (f := winOf ltB (winOf ltB x a2) a1) (g := winOf ltB x (a1 + a2 - 1)) ⟨rfl, fun k _ => win_twice ord_lt x (by omega) (by omega) k⟩)
          have e2 := (eqRows_true (n := len0) (m := len0) (f := winOf gtB (winOf gtB x a1) a2) (g := winOf gtB x (a2 + a1 - 1)) ⟨rfl, fun k _ => win_twice ord_gt x (by omega) (by omega) k⟩)
          rw [Int.add_comm a2 a1] at e2
          have E2 := Lib.hid e2
          clear e2
          go_enter Try.func3, Try.ntmps3
          go_wp2_with (go_at_call 13; refine (win_alive _).mono ?_; rintro e w' ⟨rfl, os, n_, rfl⟩)
          refine (wmin_any _ len0 _ x _ (by repeat (first | (with_reducible assumption) | (with_reducible exact Row.nil) | (with_reducible apply Row.drewN) | (with_reducible apply Row.drew) | (with_reducible apply Row.more) | (with_reducible apply Row.alloc))) (by omega) a2 (by omega) (by omega)).mono ?_
          rintro e w1 ⟨a_1, c_1, rfl, hc_1, hr_1, hb_1⟩
          obtain ⟨os_1, d_1, rfl⟩ := More.of_below hb_1
          go_wp2_with fail
          refine (wmin_any _ len0 _ _ _ (by repeat (first | (with_reducible assumption) | (with_reducible exact Row.nil) | (with_reducible apply Row.drewN) | (with_reducible apply Row.drew) | (with_reducible apply Row.more) | (with_reducible apply Row.alloc))) (by omega) a1 (by omega) (by omega)).mono ?_
          rintro e w1 ⟨a_2, c_2, rfl, hc_2, hr_2, hb_2⟩
          obtain ⟨os_2, d_2, rfl⟩ := More.of_below hb_2
          go_wp2_with fail
          refine (wmin_any _ len0 _ x _ (by repeat (first | (with_reducible assumption) | (with_reducible exact Row.nil) | (with_reducible apply Row.drewN) | (with_reducible apply Row.drew) | (with_reducible apply Row.more) | (with_reducible apply Row.alloc))) (by omega) (a1 + a2 - 1) (by omega) (by omega)).mono ?_
          rintro e w1 ⟨a_3, c_3, rfl, hc_3, hr_3, hb_3⟩
          obtain ⟨os_3, d_3, rfl⟩ := More.of_below hb_3
          go_wp2_with fail
          refine (equal_any _ _ len0 len0 _ _ _ _ _ (by repeat (first | (with_reducible assumption) | (with_reducible exact Row.nil) | (with_reducible apply Row.drewN) | (with_reducible apply Row.drew) | (with_reducible apply Row.more) | (with_reducible apply Row.alloc))) (by repeat (first | (with_reducible assumption) | (with_reducible exact Row.nil) | (with_reducible apply Row.drewN) | (with_reducible apply Row.drew) | (with_reducible apply Row.more) | (with_reducible apply Row.alloc))) (by omega) (by omega)).mono ?_
          rintro e w1 ⟨rfl, os_4, d_4, rfl⟩
          rw [E1.out]
          go_wp2_with fail
          refine (wmax_any _ len0 _ x _ (by repeat (first | (with_reducible assumption) | (with_reducible exact Row.nil) | (with_reducible apply Row.drewN) | (with_reducible apply Row.drew) | (with_reducible apply Row.more) | (with_reducible apply Row.alloc))) (by omega) a1 (by omega) (by omega)).mono ?_
          rintro e w1 ⟨a_5, c_5, rfl, hc_5, hr_5, hb_5⟩
          obtain ⟨os_5, d_5, rfl⟩ := More.of_below hb_5
          go_wp2_with fail
          refine (wmax_any _ len0 _ _ _ (by repeat (first | (with_reducible assumption) | (with_reducible exact Row.nil) | (with_reducible apply Row.drewN) | (with_reducible apply Row.drew) | (with_reducible apply Row.more) | (with_reducible apply Row.alloc))) (by omega) a2 (by omega) (by omega)).mono ?_
          rintro e w1 ⟨a_6, c_6, rfl, hc_6, hr_6, hb_6⟩
          obtain ⟨os_6, d_6, rfl⟩ := More.of_below hb_6
          go_wp2_with fail
          refine (wmax_any _ len0 _ x _ (by repeat (first | (with_reducible assumption) | (with_reducible exact Row.nil) | (with_reducible apply Row.drewN) | (with_reducible apply Row.drew) | (with_reducible apply Row.more) | (with_reducible apply Row.alloc))) (by omega) (a1 + a2 - 1) (by omega) (by omega)).mono ?_
          rintro e w1 ⟨a_7, c_7, rfl, hc_7, hr_7, hb_7⟩
          obtain ⟨os_7, d_7, rfl⟩ := More.of_below hb_7
          go_wp2_with fail
          refine (equal_any _ _ len0 len0 _ _ _ _ _ (by repeat (first | (with_reducible assumption) | (with_reducible exact Row.nil) | (with_reducible apply Row.drewN) | (with_reducible apply Row.drew) | (with_reducible apply Row.more) | (with_reducible apply Row.alloc))) (by repeat (first | (with_reducible assumption) | (with_reducible exact Row.nil) | (with_reducible apply Row.drewN) | (with_reducible apply Row.drew) | (with_reducible apply Row.more) | (with_reducible apply Row.alloc))) (by omega) (by omega)).mono ?_
          rintro e w1 ⟨rfl, os_8, d_8, rfl⟩
          rw [E2.out]
          go_wp2
          go_ret
          exact ⟨rfl, More.below (by repeat (first | (with_reducible assumption) | (with_reducible exact More.refl _) | (with_reducible refine More.alloc ?_ _) | (with_reducible refine More.more ?_ _ _) | (with_reducible refine More.drewN ?_ _) | (with_reducible refine More.drew ?_)))⟩
end Go.Proofs.Ytmlkebemkibipaa
