/- FilterStill: for every input the law returns true. Conditions: none. -/
import Derived.Test.YtpnnijficjfcjaaFilterAlive
import Derived.Test.YtpnnijficjfcjaaRepeat
import Derived.Test.YtpnnijficjfcjaaKitC
set_option linter.unusedVariables false
set_option linter.unusedSimpArgs false
namespace Go.Proofs.Ytpnnijficjfcjaa
open Go.RowKit Go.Tide
set_option linter.unusedVariables false
set_option linter.unusedSimpArgs false

theorem smAt_same (s : Nat) (x : Int) (k : Nat) : smAt s (fun _ => x) k = fitM x * 65536 := by
  induction k with
  | zero => rfl
  | succ k ih =>
    simp only [smAt, ih, Int.sub_self, Int.zero_ediv, Int.add_zero]
theorem smooth_same (s : Nat) (x : Int) (k : Nat) : smooth s (fun _ => x) k = fitM x := by
  unfold smooth
  rw [smAt_same]
  omega
theorem spread_same (s : Nat) (x : Int) (k : Nat) : spread s (fun _ => x) k = 0 := by
  have h : farOf s (fun _ => x) = fun _ => 0 := by
    funext j
    unfold farOf
    rw [smooth_same]
    show max (fitM x - fitM x) (fitM x - fitM x) = 0
    omega
  unfold spread
  rw [h, smooth_same]
  rfl

set_option maxRecDepth 20000 in
set_option maxHeartbeats 2000000 in
theorem filterStill_walk (a0 : Int) (a1 : Int) (a2 : Int) (w : World) (b0 : InI64 a0) (b1 : InI64 a1) (b2 : InI64 a2) :
    Calls Try.prog 6 #[.int .i64 a0, .int .i64 a1, .int .i64 a2] w fun e w' => e = .returned (.bool true) ∧ Below w.heap.size w w' := by
  by_cases c0 : a1 < 1
  · have d0 : decide (a1 < 1) = true := by simpa using c0
    go_enter Try.func6, Try.ntmps6
    go_wp2_with (go_at_call 27; refine (filter_alive _).mono ?_; rintro e w' ⟨rfl, os, n_, rfl⟩)
    go_ret
    exact ⟨rfl, More.below (by repeat (first | (with_reducible assumption) | (with_reducible exact More.refl _) | (with_reducible refine More.alloc ?_ _) | (with_reducible refine More.more ?_ _ _) | (with_reducible refine More.drewN ?_ _) | (with_reducible refine More.drew ?_)))⟩
  · have d0 : decide (a1 < 1) = false := by simpa using c0
    by_cases c1 : 300 < a1
    · have d1 : decide (300 < a1) = true := by simpa using c1
      go_enter Try.func6, Try.ntmps6
      go_wp2_with (go_at_call 27; refine (filter_alive _).mono ?_; rintro e w' ⟨rfl, os, n_, rfl⟩)
      go_ret
      exact ⟨rfl, More.below (by repeat (first | (with_reducible assumption) | (with_reducible exact More.refl _) | (with_reducible refine More.alloc ?_ _) | (with_reducible refine More.more ?_ _ _) | (with_reducible refine More.drewN ?_ _) | (with_reducible refine More.drew ?_)))⟩
    · have d1 : decide (300 < a1) = false := by simpa using c1
      by_cases c2 : a2 < 0
      · have d2 : decide (a2 < 0) = true := by simpa using c2
        go_enter Try.func6, Try.ntmps6
        go_wp2_with (go_at_call 27; refine (filter_alive _).mono ?_; rintro e w' ⟨rfl, os, n_, rfl⟩)
        go_ret
        exact ⟨rfl, More.below (by repeat (first | (with_reducible assumption) | (with_reducible exact More.refl _) | (with_reducible refine More.alloc ?_ _) | (with_reducible refine More.more ?_ _ _) | (with_reducible refine More.drewN ?_ _) | (with_reducible refine More.drew ?_)))⟩
      · have d2 : decide (a2 < 0) = false := by simpa using c2
        by_cases c3 : 16 < a2
        · have d3 : decide (16 < a2) = true := by simpa using c3
          go_enter Try.func6, Try.ntmps6
          go_wp2_with (go_at_call 27; refine (filter_alive _).mono ?_; rintro e w' ⟨rfl, os, n_, rfl⟩)
          go_ret
          exact ⟨rfl, More.below (by repeat (first | (with_reducible assumption) | (with_reducible exact More.refl _) | (with_reducible refine More.alloc ?_ _) | (with_reducible refine More.more ?_ _ _) | (with_reducible refine More.drewN ?_ _) | (with_reducible refine More.drew ?_)))⟩
        · have d3 : decide (16 < a2) = false := by simpa using c3
          obtain ⟨m, rfl⟩ : ∃ m : Nat, a1 = m := ⟨a1.toNat, by omega⟩
          have hm1 : 1 ≤ m := by omega
          have hm2 : m ≤ 300 := by omega
          clear c0 c1
          obtain ⟨X, hX⟩ : ∃ X, Hid (fitM a0 = X) := ⟨_, rfl⟩
          have hmn : (if 1099511627776 < fit a0 then 1099511627776 else fit a0) = X := by
            rw [← hX.out]
            unfold fit fitM
            omega
          go_enter Try.func6, Try.ntmps6
          go_wp2_with (go_at_call 27; refine (filter_alive _).mono ?_; rintro e w' ⟨rfl, os, n_, rfl⟩)
          have hr0 : Row ((w.more os n_).alloc (.cells #[.int .i64 a0] 3)) (some ⟨w.heap.size + os.size, 0, none⟩) 1 (rowOf [a0]) := Row.litR [a0] (by simp) rfl rfl
          refine (repeat_any _ 0 _ a0 m _ (by
            obtain ⟨b, off, e, hb, hc⟩ := hr0 (by omega)
            injection e with e
            injection e with e1 e2
            subst e1 e2
            exact hc 0 (by omega)) (by simp) hm1 hm2).mono ?_
          rintro e w1 ⟨a_1, c_1, rfl, hc_1, hr_1, hb_1⟩
          obtain ⟨os_1, d_1, rfl⟩ := More.of_below hb_1
          clear hb_1 hr0
          go_wp2_with (go_at_call 29; refine (fit_any _ _).mono ?_; rintro e w' ⟨rfl, rfl⟩)
          refine (smooth_int _ m _ (fun _ => a0) a2 _ (by repeat (first | (with_reducible assumption) | (with_reducible exact Row.nil) | (with_reducible apply Row.drewN) | (with_reducible apply Row.drew) | (with_reducible apply Row.more) | (with_reducible apply Row.alloc))) (by omega) (by omega) (by omega)).mono ?_
          rintro e w1 ⟨a_2, c_2, rfl, hc_2, hr_2, hb_2⟩
          obtain ⟨os_2, d_2, rfl⟩ := More.of_below hb_2
          have hmz : More w ((((w.more os n_).alloc (.cells #[.int .i64 a0] 3)).more os_1 d_1).more os_2 d_2) := (by repeat (first | (with_reducible assumption) | (with_reducible exact More.refl _) | (with_reducible refine More.alloc ?_ _) | (with_reducible refine More.more ?_ _ _) | (with_reducible refine More.drewN ?_ _) | (with_reducible refine More.drew ?_)))
          have hLz : Row ((((w.more os n_).alloc (.cells #[.int .i64 a0] 3)).more os_1 d_1).more os_2 d_2) a_1 m (fun _ => a0) := (by repeat (first | (with_reducible assumption) | (with_reducible exact Row.nil) | (with_reducible apply Row.drewN) | (with_reducible apply Row.drew) | (with_reducible apply Row.more) | (with_reducible apply Row.alloc)))
          have hYz : Row ((((w.more os n_).alloc (.cells #[.int .i64 a0] 3)).more os_1 d_1).more os_2 d_2) a_2 m (smooth a2.toNat (fun _ => a0)) := (by repeat (first | (with_reducible assumption) | (with_reducible exact Row.nil) | (with_reducible apply Row.drewN) | (with_reducible apply Row.drew) | (with_reducible apply Row.more) | (with_reducible apply Row.alloc)))
          clear hb_2 hr_1 hr_2
          generalize (((w.more os n_).alloc (.cells #[.int .i64 a0] 3)).more os_1 d_1).more os_2 d_2 = wz at *
          have hbz := hmz.below
          have hsz0 := hbz.size
          go_wp2_with fail
          clear hmn
          go_loopw [38] (fun i wr => ∃ k : Nat, i = .int .i64 k ∧ k ≤ m ∧ Below wz.heap.size wz wr) (fun i _ => m - (intOf i).toNat)
          case atStart => exact ⟨0, rfl, Nat.zero_le _, Below.refl _ _⟩
          case round =>
            obtain ⟨k, rfl, hk, hbe⟩ := hrel
            have hsz := hbe.size
            by_cases hlt : k < m
            · obtain ⟨p1, o1, Y, rfl, g1, k1, hY⟩ := (hYz.below hbe (Nat.le_refl _)).at_ hlt
              have hYX : Y = X := by rw [hY.out, smooth_same, hX.out]
              subst hYX
              have hL := hLz.below hbe (Nat.le_refl _)
              have t1 : (k : Int) < (m : Int) := by omega
              go_wp2_with fail
              refine (spread_int _ m _ (fun _ => a0) a2 _ hL (by omega) (by omega) (by omega)).mono ?_
              rintro e w1 ⟨a_3, c_3, rfl, hc_3, hr_3, hb_3⟩
              obtain ⟨p2, o2, Z, rfl, g2, k2, hZ⟩ := hr_3.at_ hlt
              have hZ0 : Z = 0 := by rw [hZ.out, spread_same]
              subst hZ0
              have hb4 : Below wz.heap.size wz w1 := hbe.trans (hb_3.mono hsz)
              go_wp2
              go_roundw
              case rel => exact ⟨k + 1, by go_num, by omega, hb4⟩
              case measure => simp [intOf]; omega
            · obtain rfl : k = m := by omega
              have hL := hLz.below hbe (Nat.le_refl _)
              go_wp2_with fail
              refine (smooth_int _ k _ (fun _ => a0) a2 _ hL (by omega) (by omega) (by omega)).mono ?_
              rintro e w1 ⟨a_3, c_3, rfl, hc_3, hr_3, hb_3⟩
              have hb4 : Below w.heap.size w w1 := hbz.trans ((hbe.trans (hb_3.mono hsz)).mono hsz0)
              go_wp2
              go_ret
              exact ⟨rfl, hb4⟩
end Go.Proofs.Ytpnnijficjfcjaa
