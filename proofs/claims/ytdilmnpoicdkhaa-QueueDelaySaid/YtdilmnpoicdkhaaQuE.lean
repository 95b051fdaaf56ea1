/- QueueDelay: for every input the law returns true. Conditions: none. -/
import Derived.Test.YtdilmnpoicdkhaaQuLaws
set_option linter.unusedVariables false
set_option linter.unusedSimpArgs false
namespace Go.Proofs.Ytdilmnpoicdkhaa
open Go.RowKit Go.Tide
set_option linter.unusedVariables false
set_option linter.unusedSimpArgs false

set_option maxHeartbeats 4000000 in
theorem queueDelay_walk (a0 : Int) (a1 : Option Addr) (len1 cap1 : Nat) (z1 : List Int) (w : World) (b0 : InI64 a0) (f1 : IsFlat w a1 len1 cap1 1 z1) (r1 : cap1 * 8 ≤ 140737488351232) :
    Calls Try.prog 13 #[.int .i64 a0, .slice a1 len1 cap1] w fun e w' => e = .returned (.bool true) ∧ Below w.heap.size w w' := by
  have hle := f1.le
  have hs := f1.row
  generalize (fun k => z1.getD k 0) = x at hs
  clear f1
  by_cases hr : bRight a0 1099511627776 len1 x = true
  · have RR := bRight_iff.1 hr
    have hn := RR.2.2.1
    have hR := RR.1
    have HR := Lib.hid RR
    clear hr
    rcases Nat.eq_zero_or_pos len1 with h0 | h0
    · subst h0
      clear RR
      go_enter Try.func13, Try.ntmps13
      go_wp2_with (go_at_call 25; refine (queue_alive _).mono ?_; rintro e w' ⟨rfl, os, n_, rfl⟩)
      refine (play_any a0 1099511627776 _ 0 _ x _ (by repeat (first | (with_reducible assumption) | (with_reducible exact Row.nil) | (with_reducible apply Row.drewN) | (with_reducible apply Row.drew) | (with_reducible apply Row.more) | (with_reducible apply Row.alloc))) HR.out).mono ?_
      rintro e w1 ⟨av_1, cv_1, al_1, cl_1, aw_1, cw_1, rfl, ⟨hcv_1, hcl_1, hcw_1⟩, ⟨hrv_1, hrl_1, hrw_1⟩, hb_1⟩
      obtain ⟨os_1, d_1, rfl⟩ := More.of_below hb_1
      go_wp2_with fail
      refine (delays_any a0 _ 0 _ x _ (by repeat (first | (with_reducible assumption) | (with_reducible exact Row.nil) | (with_reducible apply Row.drewN) | (with_reducible apply Row.drew) | (with_reducible apply Row.more) | (with_reducible apply Row.alloc))) HR.out).mono ?_
      rintro e w1 ⟨a_2, c_2, rfl, hc_2, hr_2, hb_2⟩
      obtain ⟨os_2, d_2, rfl⟩ := More.of_below hb_2
      go_wp2
      go_ret
      exact ⟨rfl, More.below (by repeat (first | (with_reducible assumption) | (with_reducible exact More.refl _) | (with_reducible refine More.alloc ?_ _) | (with_reducible refine More.more ?_ _ _) | (with_reducible refine More.drewN ?_ _) | (with_reducible refine More.drew ?_)))⟩
    · have hz : ((len1 : Int) == 0) = false := by simp; omega
      by_cases hm : 0 < mxOf len1 (quLost a0 1099511627776 x)
      · have hd : decide (0 < mxOf len1 (quLost a0 1099511627776 x)) = true := by simpa using hm
        clear RR hm
        go_enter Try.func13, Try.ntmps13
        go_wp2_with (go_at_call 25; refine (queue_alive _).mono ?_; rintro e w' ⟨rfl, os, n_, rfl⟩)
        refine (play_any a0 1099511627776 _ len1 _ x _ (by repeat (first | (with_reducible assumption) | (with_reducible exact Row.nil) | (with_reducible apply Row.drewN) | (with_reducible apply Row.drew) | (with_reducible apply Row.more) | (with_reducible apply Row.alloc))) HR.out).mono ?_
        rintro e w1 ⟨av_1, cv_1, al_1, cl_1, aw_1, cw_1, rfl, ⟨hcv_1, hcl_1, hcw_1⟩, ⟨hrv_1, hrl_1, hrw_1⟩, hb_1⟩
        obtain ⟨os_1, d_1, rfl⟩ := More.of_below hb_1
        go_wp2_with fail
        refine (delays_any a0 _ len1 _ x _ (by repeat (first | (with_reducible assumption) | (with_reducible exact Row.nil) | (with_reducible apply Row.drewN) | (with_reducible apply Row.drew) | (with_reducible apply Row.more) | (with_reducible apply Row.alloc))) HR.out).mono ?_
        rintro e w1 ⟨a_2, c_2, rfl, hc_2, hr_2, hb_2⟩
        obtain ⟨os_2, d_2, rfl⟩ := More.of_below hb_2
        go_wp2_with fail
        refine (max_eq _ len1 _ (quLost a0 1099511627776 x) _ (by repeat (first | (with_reducible assumption) | (with_reducible exact Row.nil) | (with_reducible apply Row.drewN) | (with_reducible apply Row.drew) | (with_reducible apply Row.more) | (with_reducible apply Row.alloc))) (by omega) h0).mono ?_
        rintro e w1 ⟨rfl, rfl⟩
        go_wp2
        go_ret
        exact ⟨rfl, More.below (by repeat (first | (with_reducible assumption) | (with_reducible exact More.refl _) | (with_reducible refine More.alloc ?_ _) | (with_reducible refine More.more ?_ _ _) | (with_reducible refine More.drewN ?_ _) | (with_reducible refine More.drew ?_)))⟩
      · have hd : decide (0 < mxOf len1 (quLost a0 1099511627776 x)) = false := by simpa using hm
        have hl := nolost RR h0 (by omega)
        have hx := fun k hk => (RR.2.2.2 k hk).1
        have HD : Hid (∀ t, t < len1 → delayOf len1 (isum x) (isum (quWent a0 1099511627776 x)) t = quWant a0 (quWait a0 1099511627776 x (t + 1)) len1 t) := fun t ht => delay_law hR.1 (by omega) hx hl ht
        have HS : Hid (∀ t, t < len1 → 0 ≤ quWait a0 1099511627776 x (t + 1) ∧ quWait a0 1099511627776 x (t + 1) ≤ 1099511627776) := fun t ht => qu_state hR.1 (by omega) hx (t + 1) (by omega)
        clear RR hm hl hx
        go_enter Try.func13, Try.ntmps13
        go_wp2_with (go_at_call 25; refine (queue_alive _).mono ?_; rintro e w' ⟨rfl, os, n_, rfl⟩)
        refine (play_any a0 1099511627776 _ len1 _ x _ (by repeat (first | (with_reducible assumption) | (with_reducible exact Row.nil) | (with_reducible apply Row.drewN) | (with_reducible apply Row.drew) | (with_reducible apply Row.more) | (with_reducible apply Row.alloc))) HR.out).mono ?_
        rintro e w1 ⟨av_1, cv_1, al_1, cl_1, aw_1, cw_1, rfl, ⟨hcv_1, hcl_1, hcw_1⟩, ⟨hrv_1, hrl_1, hrw_1⟩, hb_1⟩
        obtain ⟨os_1, d_1, rfl⟩ := More.of_below hb_1
        go_wp2_with fail
        refine (delays_any a0 _ len1 _ x _ (by repeat (first | (with_reducible assumption) | (with_reducible exact Row.nil) | (with_reducible apply Row.drewN) | (with_reducible apply Row.drew) | (with_reducible apply Row.more) | (with_reducible apply Row.alloc))) HR.out).mono ?_
        rintro e w1 ⟨a_2, c_2, rfl, hc_2, hr_2, hb_2⟩
        obtain ⟨os_2, d_2, rfl⟩ := More.of_below hb_2
        go_wp2_with fail
        refine (max_eq _ len1 _ (quLost a0 1099511627776 x) _ (by repeat (first | (with_reducible assumption) | (with_reducible exact Row.nil) | (with_reducible apply Row.drewN) | (with_reducible apply Row.drew) | (with_reducible apply Row.more) | (with_reducible apply Row.alloc))) (by omega) h0).mono ?_
        rintro e w1 ⟨rfl, rfl⟩
        have hmz : More w (((w.more os n_).more os_1 d_1).more os_2 d_2) := (by repeat (first | (with_reducible assumption) | (with_reducible exact More.refl _) | (with_reducible refine More.alloc ?_ _) | (with_reducible refine More.more ?_ _ _) | (with_reducible refine More.drewN ?_ _) | (with_reducible refine More.drew ?_)))
        have hrw : Row (((w.more os n_).more os_1 d_1).more os_2 d_2) aw_1 len1 (fun k => quWait a0 1099511627776 x (k + 1)) := (by repeat (first | (with_reducible assumption) | (with_reducible exact Row.nil) | (with_reducible apply Row.drewN) | (with_reducible apply Row.drew) | (with_reducible apply Row.more) | (with_reducible apply Row.alloc)))
        have hrd : Row (((w.more os n_).more os_1 d_1).more os_2 d_2) a_2 len1 (delayOf len1 (isum x) (isum (quWent a0 1099511627776 x))) := (by repeat (first | (with_reducible assumption) | (with_reducible exact Row.nil) | (with_reducible apply Row.drewN) | (with_reducible apply Row.drew) | (with_reducible apply Row.more) | (with_reducible apply Row.alloc)))
        clear hb_1 hb_2
        generalize (((w.more os n_).more os_1 d_1).more os_2 d_2) = wz at *
        go_wp2_with fail
        go_loopw [46] (fun i wr => ∃ k dr : Nat, i = .int .i64 k ∧ k ≤ len1 ∧ wr = wz.drewN dr) (fun i _ => len1 - (intOf i).toNat)
        case atStart => exact ⟨0, 0, rfl, Nat.zero_le _, rfl⟩
        case round =>
          obtain ⟨k, dr, rfl, hk, rfl⟩ := hrel
          by_cases hlt : k < len1
          · obtain ⟨p3, o3, W, rfl, g3, k3, hW⟩ := hrw.at_ hlt
            obtain ⟨p4, o4, Y, rfl, g4, k4, hY⟩ := hrd.at_ hlt
            have s1 := HS.out k hlt
            have s2 := HD.out k hlt
            rw [← hY.out] at s2
            have hW2 : Hid (W = quWait a0 1099511627776 x (k + 1)) := hW
            rw [← hW2.out] at s1 s2
            unfold quWant quTakes at s2
            have q4 : (k : Int) < (len1 : Int) := by omega
            have h63 : (len1 : Int) < 300 := by omega
            by_cases hw : 0 < W
            · have d1 : decide (0 < W) = true := by simpa using hw
              rcases Int.lt_or_eq_of_le hR.1 with hR0 | hR0
              · have d2 : decide (0 < a0) = true := by simpa using hR0
                have d3 : (a0 == 0) = false := by simp; omega
                obtain ⟨Q, hQ⟩ : ∃ Q, (W + a0 - 1) / a0 = Q := ⟨_, rfl⟩
                have hQ0 : 0 ≤ Q := by rw [← hQ]; exact Int.ediv_nonneg (by omega) (by omega)
                have hQ1 : Q ≤ W + a0 - 1 := by rw [← hQ]; exact Int.ediv_le_self a0 (by omega)
                have hQt : (W + a0 - 1).tdiv a0 = Q := by rw [Int.tdiv_eq_ediv_of_nonneg (by omega)]; exact hQ
                rw [hQ] at s2
                simp only [hw, hR0, and_self, if_true, show ¬ (a0 = 0) by omega, and_false, false_or] at s2
                have kw1 : IntKind.i64.wrap (W + a0) = W + a0 := IntWalk.i64_in _ (by omega)
                have kw2 : IntKind.i64.wrap (W + a0 - 1) = W + a0 - 1 := IntWalk.i64_in _ (by omega)
                have kw3 : IntKind.i64.wrap Q = Q := IntWalk.i64_in _ (by omega)
                have kw4 : IntKind.i64.wrap ((k : Int) + Q) = (k : Int) + Q := IntWalk.i64_in _ (by omega)
                have kx3 : wrap64 Q = Q := IntWalk.wrap64_in _ (by omega)
                have kx4 : wrap64 ((k : Int) + Q) = (k : Int) + Q := IntWalk.wrap64_in _ (by omega)
                clear hQ
                by_cases hq : (len1 : Int) ≤ k + Q
                · have d4 : decide ((len1 : Int) ≤ k + Q) = true := by simpa using hq
                  rw [if_pos hq] at s2
                  have d5 : (Y != -1) = false := by simp [s2]
                  clear s2
                  go_wp2_with fail
                  go_roundw
                  case rel => exact ⟨k + 1, _, by go_num, by omega, rfl⟩
                  case measure => simp [intOf]; omega
                · have d4 : decide ((len1 : Int) ≤ k + Q) = false := by simpa using hq
                  rw [if_neg hq] at s2
                  have d5 : (Y != Q) = false := by simp [s2]
                  clear s2
                  go_wp2_with fail
                  go_roundw
                  case rel => exact ⟨k + 1, _, by go_num, by omega, rfl⟩
                  case measure => simp [intOf]; omega
              · subst hR0
                rw [if_pos (.inl ⟨hw, rfl⟩)] at s2
                have d5 : (Y != -1) = false := by simp [s2]
                clear s2
                go_wp2_with fail
                go_roundw
                case rel => exact ⟨k + 1, _, by go_num, by omega, rfl⟩
                case measure => simp [intOf]; omega
            · simp only [hw, false_and, if_false, false_or] at s2
              rw [if_neg (by omega)] at s2
              subst s2
              obtain rfl : W = 0 := by omega
              have kk : IntKind.i64.wrap (k : Int) = (k : Int) := IntWalk.i64_in _ (by omega)
              have kd : decide ((len1 : Int) ≤ (k : Int)) = false := by simp; omega
              have kd2 : decide (len1 ≤ k) = false := by simp; omega
              clear hw s1 hW hW2 hY
              go_wp2_with fail
              go_roundw
              case rel => exact ⟨k + 1, _, by go_num, by omega, rfl⟩
              case measure => simp [intOf]; omega
          · obtain rfl : k = len1 := by omega
            go_wp2
            go_ret
            exact ⟨rfl, (hmz.drewN _).below⟩
  · have hr' : bRight a0 1099511627776 len1 x = false := by simpa using hr
    have E0 := Lib.hid hr'
    clear hr hr'
    go_enter Try.func13, Try.ntmps13
    go_wp2_with (go_at_call 25; refine (queue_alive _).mono ?_; rintro e w' ⟨rfl, os, n_, rfl⟩)
    refine (play_none a0 1099511627776 _ len1 _ x _ (by repeat (first | (with_reducible assumption) | (with_reducible exact Row.nil) | (with_reducible apply Row.drewN) | (with_reducible apply Row.drew) | (with_reducible apply Row.more) | (with_reducible apply Row.alloc))) (by omega) E0.out).mono ?_
    rintro e w1 ⟨rfl, os_1, d_1, rfl⟩
    go_wp2_with fail
    refine (delays_none a0 _ len1 _ x _ (by repeat (first | (with_reducible assumption) | (with_reducible exact Row.nil) | (with_reducible apply Row.drewN) | (with_reducible apply Row.drew) | (with_reducible apply Row.more) | (with_reducible apply Row.alloc))) (by omega) E0.out).mono ?_
    rintro e w1 ⟨rfl, os_2, d_2, rfl⟩
    go_wp2
    go_ret
    exact ⟨rfl, More.below (by repeat (first | (with_reducible assumption) | (with_reducible exact More.refl _) | (with_reducible refine More.alloc ?_ _) | (with_reducible refine More.more ?_ _ _) | (with_reducible refine More.drewN ?_ _) | (with_reducible refine More.drew ?_)))⟩
end Go.Proofs.Ytdilmnpoicdkhaa
