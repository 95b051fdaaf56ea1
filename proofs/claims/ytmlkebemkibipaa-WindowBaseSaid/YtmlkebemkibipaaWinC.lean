/- WindowBase: for every input the law returns true. Conditions: none. -/
import Derived.Test.YtmlkebemkibipaaWinA
set_option linter.unusedVariables false
set_option linter.unusedSimpArgs false
namespace Go.Proofs.Ytmlkebemkibipaa
open Go.RowKit Go.Tide
set_option linter.unusedVariables false
set_option linter.unusedSimpArgs false

set_option maxHeartbeats 2000000 in
theorem windowBase_walk (a0 : Option Addr) (len0 cap0 : Nat) (z0 : List Int) (a1 : Int) (a2 : Int) (w : World) (f0 : IsFlat w a0 len0 cap0 1 z0) (r0 : cap0 * 8 ≤ 140737488351232) (b1 : InI64 a1) (b2 : InI64 a2) :
    Calls Try.prog 5 #[.slice a0 len0 cap0, .int .i64 a1, .int .i64 a2] w fun e w' => e = .returned (.bool true) ∧ Below w.heap.size w w' := by
  have hle := f0.le
  have hs := f0.row
  generalize (fun k => z0.getD k 0) = x at hs
  clear f0
  by_cases c0 : a1 < 1
  · have d0 : decide (a1 < 1) = true := by simpa using c0
    go_enter Try.func5, Try.ntmps5
    go_wp2_with (go_at_call 13; refine (win_alive _).mono ?_; rintro e w' ⟨rfl, os, n_, rfl⟩)
    go_ret
    exact ⟨rfl, More.below (by repeat (first | (with_reducible assumption) | (with_reducible exact More.refl _) | (with_reducible refine More.alloc ?_ _) | (with_reducible refine More.more ?_ _ _) | (with_reducible refine More.drewN ?_ _) | (with_reducible refine More.drew ?_)))⟩
  · have d0 : decide (a1 < 1) = false := by simpa using c0
    by_cases c1 : a2 < 1
    · have d1 : decide (a2 < 1) = true := by simpa using c1
      go_enter Try.func5, Try.ntmps5
      go_wp2_with (go_at_call 13; refine (win_alive _).mono ?_; rintro e w' ⟨rfl, os, n_, rfl⟩)
      go_ret
      exact ⟨rfl, More.below (by repeat (first | (with_reducible assumption) | (with_reducible exact More.refl _) | (with_reducible refine More.alloc ?_ _) | (with_reducible refine More.more ?_ _ _) | (with_reducible refine More.drewN ?_ _) | (with_reducible refine More.drew ?_)))⟩
    · have d1 : decide (a2 < 1) = false := by simpa using c1
      by_cases c2 : 1073741824 < a1
      · have d2 : decide (1073741824 < a1) = true := by simpa using c2
        go_enter Try.func5, Try.ntmps5
        go_wp2_with (go_at_call 13; refine (win_alive _).mono ?_; rintro e w' ⟨rfl, os, n_, rfl⟩)
        go_ret
        exact ⟨rfl, More.below (by repeat (first | (with_reducible assumption) | (with_reducible exact More.refl _) | (with_reducible refine More.alloc ?_ _) | (with_reducible refine More.more ?_ _ _) | (with_reducible refine More.drewN ?_ _) | (with_reducible refine More.drew ?_)))⟩
      · have d2 : decide (1073741824 < a1) = false := by simpa using c2
        by_cases c3 : 1073741824 < a2
        · have d3 : decide (1073741824 < a2) = true := by simpa using c3
          go_enter Try.func5, Try.ntmps5
          go_wp2_with (go_at_call 13; refine (win_alive _).mono ?_; rintro e w' ⟨rfl, os, n_, rfl⟩)
          go_ret
          exact ⟨rfl, More.below (by repeat (first | (with_reducible assumption) | (with_reducible exact More.refl _) | (with_reducible refine More.alloc ?_ _) | (with_reducible refine More.more ?_ _ _) | (with_reducible refine More.drewN ?_ _) | (with_reducible refine More.drew ?_)))⟩
        · have d3 : decide (1073741824 < a2) = false := by simpa using c3
          have p1 : 0 ≤ a1 * a2 := Int.mul_nonneg (by omega) (by omega)
          have p2 : a1 * a2 ≤ 1152921504606846976 := by
            have := Int.mul_le_mul (show a1 ≤ 1073741824 by omega) (show a2 ≤ 1073741824 by omega) (by omega) (by omega)
            omega
          have p3 : 0 ≤ a1 * (a2 - 1) := Int.mul_nonneg (by omega) (by omega)
          have p4 : a1 * (a2 - 1) ≤ 1152921504606846976 := by
            have := Int.mul_le_mul (show a1 ≤ 1073741824 by omega) (show a2 - 1 ≤ 1073741824 by omega) (by omega) (by omega)
            omega
          have p5 : 1 ≤ a1 * a2 := by
            have := Int.mul_le_mul (show 1 ≤ a1 by omega) (show 1 ≤ a2 by omega) (by omega) (by omega)
            omega
          have HW : Hid (∀ k : Nat, winOf ltB x (a1 * a2) k ≤ baseOf x a1 a2 k) := fun k => base_wide (by omega) (by omega) k
          have HN : Hid (∀ k : Nat, baseOf x a1 a2 k ≤ winOf ltB x (a1 * (a2 - 1) + 1) k) := fun k => base_narrow (by omega) (by omega) k
          go_enter Try.func5, Try.ntmps5
          go_wp2_with (go_at_call 13; refine (win_alive _).mono ?_; rintro e w' ⟨rfl, os, n_, rfl⟩)
          refine (base_any _ len0 _ x _ (by repeat (first | (with_reducible assumption) | (with_reducible exact Row.nil) | (with_reducible apply Row.drewN) | (with_reducible apply Row.drew) | (with_reducible apply Row.more) | (with_reducible apply Row.alloc))) (by omega) a1 a2 (by omega) (by omega) (by omega) (by omega)).mono ?_
          rintro e w1 ⟨a_1, c_1, rfl, hc_1, hr_1, hb_1⟩
          obtain ⟨os_1, d_1, rfl⟩ := More.of_below hb_1
          go_wp2_with fail
          refine (wmin_any _ len0 _ x _ (by repeat (first | (with_reducible assumption) | (with_reducible exact Row.nil) | (with_reducible apply Row.drewN) | (with_reducible apply Row.drew) | (with_reducible apply Row.more) | (with_reducible apply Row.alloc))) (by omega) (a1 * a2) (by omega) (by omega)).mono ?_
          rintro e w1 ⟨a_2, c_2, rfl, hc_2, hr_2, hb_2⟩
          obtain ⟨os_2, d_2, rfl⟩ := More.of_below hb_2
          go_wp2_with fail
          refine (wmin_any _ len0 _ x _ (by repeat (first | (with_reducible assumption) | (with_reducible exact Row.nil) | (with_reducible apply Row.drewN) | (with_reducible apply Row.drew) | (with_reducible apply Row.more) | (with_reducible apply Row.alloc))) (by omega) (a1 * (a2 - 1) + 1) (by omega) (by omega)).mono ?_
          rintro e w1 ⟨a_3, c_3, rfl, hc_3, hr_3, hb_3⟩
          obtain ⟨os_3, d_3, rfl⟩ := More.of_below hb_3
          go_wp2_with fail
          have hLz : Row ((((w.more os n_).more os_1 d_1).more os_2 d_2).more os_3 d_3) a0 len0 (x) := (by repeat (first | (with_reducible assumption) | (with_reducible exact Row.nil) | (with_reducible apply Row.drewN) | (with_reducible apply Row.drew) | (with_reducible apply Row.more) | (with_reducible apply Row.alloc)))
          have hAz : Row ((((w.more os n_).more os_1 d_1).more os_2 d_2).more os_3 d_3) a_1 len0 (baseOf x a1 a2) := (by repeat (first | (with_reducible assumption) | (with_reducible exact Row.nil) | (with_reducible apply Row.drewN) | (with_reducible apply Row.drew) | (with_reducible apply Row.more) | (with_reducible apply Row.alloc)))
          have hBz : Row ((((w.more os n_).more os_1 d_1).more os_2 d_2).more os_3 d_3) a_2 len0 (winOf ltB x (a1 * a2)) := (by repeat (first | (with_reducible assumption) | (with_reducible exact Row.nil) | (with_reducible apply Row.drewN) | (with_reducible apply Row.drew) | (with_reducible apply Row.more) | (with_reducible apply Row.alloc)))
          have hCz : Row ((((w.more os n_).more os_1 d_1).more os_2 d_2).more os_3 d_3) a_3 len0 (winOf ltB x (a1 * (a2 - 1) + 1)) := (by repeat (first | (with_reducible assumption) | (with_reducible exact Row.nil) | (with_reducible apply Row.drewN) | (with_reducible apply Row.drew) | (with_reducible apply Row.more) | (with_reducible apply Row.alloc)))
          have hmz : More w ((((w.more os n_).more os_1 d_1).more os_2 d_2).more os_3 d_3) := (by repeat (first | (with_reducible assumption) | (with_reducible exact More.refl _) | (with_reducible refine More.alloc ?_ _) | (with_reducible refine More.more ?_ _ _) | (with_reducible refine More.drewN ?_ _) | (with_reducible refine More.drew ?_)))
          clear hr_1 hr_2 hr_3
          generalize ((((w.more os n_).more os_1 d_1).more os_2 d_2).more os_3 d_3) = wz at *
          go_loopw [64] (fun i wi => ∃ k dr : Nat, i = .int .i64 k ∧ k ≤ len0 ∧ wi = wz.drewN dr) (fun i _ => len0 - (intOf i).toNat)
          case atStart => exact ⟨0, 0, rfl, Nat.zero_le _, rfl⟩
          case round =>
            obtain ⟨k, dr, rfl, hk, rfl⟩ := hrel
            by_cases hlt : k < len0
            · obtain ⟨p1', o1, A, rfl, g1, k1, hA⟩ := hAz.at_ hlt
              obtain ⟨p2', o2, B, rfl, g2, k2, hB⟩ := hBz.at_ hlt
              obtain ⟨p3', o3, C, rfl, g3, k3, hC⟩ := hCz.at_ hlt
              have f1 := HW.out k
              have f2 := HN.out k
              rw [← hA.out] at f1 f2
              rw [← hB.out] at f1
              rw [← hC.out] at f2
              have e1 : decide (A < B) = false := by simp; omega
              have e2 : decide (C < A) = false := by simp; omega
              have q1 : (k : Int) < (len0 : Int) := by omega
              clear f1 f2
              go_wp2_with fail
              go_quiet (fail)
              go_wp2
              go_roundw
              case rel => exact ⟨k + 1, _, by go_num, by omega, rfl⟩
              case measure => simp [intOf]; omega
            · obtain rfl : k = len0 := by omega
              go_wp2
              go_ret
              exact ⟨rfl, (hmz.drewN _).below⟩
end Go.Proofs.Ytmlkebemkibipaa
