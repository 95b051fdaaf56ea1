/- WindowMore: for every input the law returns true. Conditions: none. -/
import Derived.Test.YtmlkebemkibipaaWinA
set_option linter.unusedVariables false
set_option linter.unusedSimpArgs false
namespace Go.Proofs.Ytmlkebemkibipaa
open Go.RowKit Go.Tide
set_option linter.unusedVariables false
set_option linter.unusedSimpArgs false

set_option maxHeartbeats 2000000 in
theorem windowMore_walk (a0 : Option Addr) (len0 cap0 : Nat) (z0 : List Int) (a1 : Int) (a2 : Int) (w : World) (f0 : IsFlat w a0 len0 cap0 1 z0) (r0 : cap0 * 8 ≤ 140737488351232) (b1 : InI64 a1) (b2 : InI64 a2) :
    Calls Try.prog 6 #[.slice a0 len0 cap0, .int .i64 a1, .int .i64 a2] w fun e w' => e = .returned (.bool true) ∧ Below w.heap.size w w' := by
  have hle := f0.le
  have hs := f0.row
  generalize (fun k => z0.getD k 0) = x at hs
  clear f0
  by_cases c0 : a1 < 1
  · have d0 : decide (a1 < 1) = true := by simpa using c0
    go_enter Try.func6, Try.ntmps6
    go_wp2_with (go_at_call 13; refine (win_alive _).mono ?_; rintro e w' ⟨rfl, os, n_, rfl⟩)
    go_ret
    exact ⟨rfl, More.below (by repeat (first | (with_reducible assumption) | (with_reducible exact More.refl _) | (with_reducible refine More.alloc ?_ _) | (with_reducible refine More.more ?_ _ _) | (with_reducible refine More.drewN ?_ _) | (with_reducible refine More.drew ?_)))⟩
  · have d0 : decide (a1 < 1) = false := by simpa using c0
    by_cases c1 : a2 < a1
    · have d1 : decide (a2 < a1) = true := by simpa using c1
      go_enter Try.func6, Try.ntmps6
      go_wp2_with (go_at_call 13; refine (win_alive _).mono ?_; rintro e w' ⟨rfl, os, n_, rfl⟩)
      go_ret
      exact ⟨rfl, More.below (by repeat (first | (with_reducible assumption) | (with_reducible exact More.refl _) | (with_reducible refine More.alloc ?_ _) | (with_reducible refine More.more ?_ _ _) | (with_reducible refine More.drewN ?_ _) | (with_reducible refine More.drew ?_)))⟩
    · have d1 : decide (a2 < a1) = false := by simpa using c1
      have HM : Hid (∀ k : Nat, winOf ltB x a2 k ≤ winOf ltB x a1 k) := fun k => win_more (by omega) (by omega) k
      have HX : Hid ((len0 : Int) ≤ a2 → ∀ k : Nat, k + 1 < len0 → winOf ltB x a2 (k + 1) ≤ winOf ltB x a2 k) := fun h k hk => win_wide (n := len0) (by omega) h hk
      go_enter Try.func6, Try.ntmps6
      go_wp2_with (go_at_call 13; refine (win_alive _).mono ?_; rintro e w' ⟨rfl, os, n_, rfl⟩)
      refine (wmin_any _ len0 _ x _ (by repeat (first | (with_reducible assumption) | (with_reducible exact Row.nil) | (with_reducible apply Row.drewN) | (with_reducible apply Row.drew) | (with_reducible apply Row.more) | (with_reducible apply Row.alloc))) (by omega) a1 (by omega) (by have := b1.2; omega)).mono ?_
      rintro e w1 ⟨a_1, c_1, rfl, hc_1, hr_1, hb_1⟩
      obtain ⟨os_1, d_1, rfl⟩ := More.of_below hb_1
      go_wp2_with fail
      refine (wmin_any _ len0 _ x _ (by repeat (first | (with_reducible assumption) | (with_reducible exact Row.nil) | (with_reducible apply Row.drewN) | (with_reducible apply Row.drew) | (with_reducible apply Row.more) | (with_reducible apply Row.alloc))) (by omega) a2 (by omega) (by have := b2.2; omega)).mono ?_
      rintro e w1 ⟨a_2, c_2, rfl, hc_2, hr_2, hb_2⟩
      obtain ⟨os_2, d_2, rfl⟩ := More.of_below hb_2
      go_wp2_with fail
      have hLz : Row (((w.more os n_).more os_1 d_1).more os_2 d_2) a0 len0 (x) := (by repeat (first | (with_reducible assumption) | (with_reducible exact Row.nil) | (with_reducible apply Row.drewN) | (with_reducible apply Row.drew) | (with_reducible apply Row.more) | (with_reducible apply Row.alloc)))
      have hAz : Row (((w.more os n_).more os_1 d_1).more os_2 d_2) a_1 len0 (winOf ltB x a1) := (by repeat (first | (with_reducible assumption) | (with_reducible exact Row.nil) | (with_reducible apply Row.drewN) | (with_reducible apply Row.drew) | (with_reducible apply Row.more) | (with_reducible apply Row.alloc)))
      have hBz : Row (((w.more os n_).more os_1 d_1).more os_2 d_2) a_2 len0 (winOf ltB x a2) := (by repeat (first | (with_reducible assumption) | (with_reducible exact Row.nil) | (with_reducible apply Row.drewN) | (with_reducible apply Row.drew) | (with_reducible apply Row.more) | (with_reducible apply Row.alloc)))
      have hmz : More w (((w.more os n_).more os_1 d_1).more os_2 d_2) := (by repeat (first | (with_reducible assumption) | (with_reducible exact More.refl _) | (with_reducible refine More.alloc ?_ _) | (with_reducible refine More.more ?_ _ _) | (with_reducible refine More.drewN ?_ _) | (with_reducible refine More.drew ?_)))
      clear hr_1 hr_2
      generalize (((w.more os n_).more os_1 d_1).more os_2 d_2) = wz at *
      go_loopw [39] (fun i wi => ∃ k dr : Nat, i = .int .i64 k ∧ k ≤ len0 ∧ wi = wz.drewN dr) (fun i _ => len0 - (intOf i).toNat)
      case atStart => exact ⟨0, 0, rfl, Nat.zero_le _, rfl⟩
      case round =>
        obtain ⟨k, dr, rfl, hk, rfl⟩ := hrel
        by_cases hlt : k < len0
        · obtain ⟨p1', o1, A, rfl, g1, k1, hA⟩ := hAz.at_ hlt
          obtain ⟨p2', o2, B, rfl, g2, k2, hB⟩ := hBz.at_ hlt
          have f1 := HM.out k
          rw [← hA.out, ← hB.out] at f1
          have e1 : decide (A < B) = false := by simp; omega
          have q1 : (k : Int) < (len0 : Int) := by omega
          clear f1
          by_cases hw : (len0 : Int) ≤ a2
          · have e2 : decide ((len0 : Int) ≤ a2) = true := by simpa using hw
            rcases Nat.eq_zero_or_pos k with h0 | h0
            · have e3 : decide ((0 : Int) < (k : Int)) = false := by simp; omega
              have e4 : decide (0 < k) = false := by simp; omega
              clear hw h0
              go_wp2_with fail
              go_quiet (fail)
              go_wp2
              go_roundw
              case rel => exact ⟨k + 1, _, by go_num, by omega, rfl⟩
              case measure => simp [intOf]; omega
            · obtain ⟨j, rfl⟩ : ∃ j, k = j + 1 := ⟨k - 1, by omega⟩
              obtain ⟨p4', o4, E, he, g4, k4, hE⟩ := hBz.at_ (show j < len0 by omega)
              injection he with he
              injection he with he1 he2
              subst he1 he2
              have f2 := HX.out hw j (by omega)
              rw [← hB.out, ← hE.out] at f2
              have e3 : decide (E < B) = false := by simp; omega
              have e4 : decide ((0 : Int) < (j : Int) + 1) = true := by first | (simp; done) | (simp; omega)
              have kw1 : IntKind.i64.wrap ((j : Int) + 1 - 1) = (j : Int) := by rw [IntWalk.i64_in _ (by omega)]; omega
              have kw2 : IntKind.i64.wrap (j : Int) = (j : Int) := IntWalk.i64_in _ (by omega)
              have q2 : (j : Int) < (len0 : Int) := by omega
              have q0 : (0 : Int) ≤ (j : Int) := by omega
              clear f2 hw
              go_wp2_with fail
              go_quiet (fail)
              go_wp2
              go_roundw
              case rel => exact ⟨j + 1 + 1, _, by go_num, by omega, rfl⟩
              case measure => simp [intOf]; omega
          · have e2 : decide ((len0 : Int) ≤ a2) = false := by simpa using hw
            clear hw
            go_wp2_with fail
            go_quiet (fail)
            go_wp2
            go_roundw
            case rel => exact ⟨k + 1, _, by go_num, by omega, rfl⟩
            case measure => simp [intOf]; omega
        · obtain rfl : k = len0 := by omega
          go_wp2
          go_ret
          exact ⟨rfl, (hmz.drewN _).below⟩
end Go.Proofs.Ytmlkebemkibipaa
