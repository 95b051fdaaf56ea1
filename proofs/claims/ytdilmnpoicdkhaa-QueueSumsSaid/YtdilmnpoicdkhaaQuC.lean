/- QueueSums: for every input the law returns true. Conditions: none. -/
import Derived.Test.YtdilmnpoicdkhaaQuLaws
set_option linter.unusedVariables false
set_option linter.unusedSimpArgs false
namespace Go.Proofs.Ytdilmnpoicdkhaa
open Go.RowKit Go.Tide
set_option linter.unusedVariables false
set_option linter.unusedSimpArgs false

set_option maxRecDepth 20000 in
set_option maxHeartbeats 4000000 in
theorem queueSums_walk (a0 : Int) (a1 : Int) (a2 : Option Addr) (len2 cap2 : Nat) (z2 : List Int) (w : World) (b0 : InI64 a0) (b1 : InI64 a1) (f2 : IsFlat w a2 len2 cap2 1 z2) (r2 : cap2 * 8 ≤ 140737488351232) :
    Calls Try.prog 3 #[.int .i64 a0, .int .i64 a1, .slice a2 len2 cap2] w fun e w' => e = .returned (.bool true) ∧ Below w.heap.size w w' := by
  have hle := f2.le
  have hs := f2.row
  generalize (fun k => z2.getD k 0) = x at hs
  clear f2
  by_cases hr : bRight a0 a1 len2 x = true
  · have RR := bRight_iff.1 hr
    have hn := RR.2.2.1
    have HR := Lib.hid RR
    clear hr
    go_enter Try.func3, Try.ntmps3
    go_wp2_with (go_at_call 25; refine (queue_alive _).mono ?_; rintro e w' ⟨rfl, os, n_, rfl⟩)
    refine (play_any a0 a1 _ len2 _ x _ (by repeat (first | (with_reducible assumption) | (with_reducible exact Row.nil) | (with_reducible apply Row.drewN) | (with_reducible apply Row.drew) | (with_reducible apply Row.more) | (with_reducible apply Row.alloc))) HR.out).mono ?_
    rintro e w1 ⟨av_1, cv_1, al_1, cl_1, aw_1, cw_1, rfl, ⟨hcv_1, hcl_1, hcw_1⟩, ⟨hrv_1, hrl_1, hrw_1⟩, hb_1⟩
    obtain ⟨os_1, d_1, rfl⟩ := More.of_below hb_1
    go_wp2_with fail
    refine (cof_any _ len2 _ (x) _ (by repeat (first | (with_reducible assumption) | (with_reducible exact Row.nil) | (with_reducible apply Row.drewN) | (with_reducible apply Row.drew) | (with_reducible apply Row.more) | (with_reducible apply Row.alloc))) (by omega)).mono ?_
    rintro e w1 ⟨a_2, c_2, rfl, hc_2, hr_2, hb_2⟩
    obtain ⟨os_2, d_2, rfl⟩ := More.of_below hb_2
    go_wp2_with fail
    refine (cof_any _ len2 _ (quWent a0 a1 x) _ (by repeat (first | (with_reducible assumption) | (with_reducible exact Row.nil) | (with_reducible apply Row.drewN) | (with_reducible apply Row.drew) | (with_reducible apply Row.more) | (with_reducible apply Row.alloc))) (by omega)).mono ?_
    rintro e w1 ⟨a_3, c_3, rfl, hc_3, hr_3, hb_3⟩
    obtain ⟨os_3, d_3, rfl⟩ := More.of_below hb_3
    go_wp2_with fail
    refine (cof_any _ len2 _ (quLost a0 a1 x) _ (by repeat (first | (with_reducible assumption) | (with_reducible exact Row.nil) | (with_reducible apply Row.drewN) | (with_reducible apply Row.drew) | (with_reducible apply Row.more) | (with_reducible apply Row.alloc))) (by omega)).mono ?_
    rintro e w1 ⟨a_4, c_4, rfl, hc_4, hr_4, hb_4⟩
    obtain ⟨os_4, d_4, rfl⟩ := More.of_below hb_4
    have hmz : More w (((((w.more os n_).more os_1 d_1).more os_2 d_2).more os_3 d_3).more os_4 d_4) := (by repeat (first | (with_reducible assumption) | (with_reducible exact More.refl _) | (with_reducible refine More.alloc ?_ _) | (with_reducible refine More.more ?_ _ _) | (with_reducible refine More.drewN ?_ _) | (with_reducible refine More.drew ?_)))
    have hrv : Row (((((w.more os n_).more os_1 d_1).more os_2 d_2).more os_3 d_3).more os_4 d_4) av_1 len2 (quWent a0 a1 x) := (by repeat (first | (with_reducible assumption) | (with_reducible exact Row.nil) | (with_reducible apply Row.drewN) | (with_reducible apply Row.drew) | (with_reducible apply Row.more) | (with_reducible apply Row.alloc)))
    have hrl : Row (((((w.more os n_).more os_1 d_1).more os_2 d_2).more os_3 d_3).more os_4 d_4) al_1 len2 (quLost a0 a1 x) := (by repeat (first | (with_reducible assumption) | (with_reducible exact Row.nil) | (with_reducible apply Row.drewN) | (with_reducible apply Row.drew) | (with_reducible apply Row.more) | (with_reducible apply Row.alloc)))
    have hrw : Row (((((w.more os n_).more os_1 d_1).more os_2 d_2).more os_3 d_3).more os_4 d_4) aw_1 len2 (fun k => quWait a0 a1 x (k + 1)) := (by repeat (first | (with_reducible assumption) | (with_reducible exact Row.nil) | (with_reducible apply Row.drewN) | (with_reducible apply Row.drew) | (with_reducible apply Row.more) | (with_reducible apply Row.alloc)))
    have hin : Row (((((w.more os n_).more os_1 d_1).more os_2 d_2).more os_3 d_3).more os_4 d_4) a_2 (len2 + 1) (isum x) := Row.congr (by repeat (first | (with_reducible assumption) | (with_reducible exact Row.nil) | (with_reducible apply Row.drewN) | (with_reducible apply Row.drew) | (with_reducible apply Row.more) | (with_reducible apply Row.alloc))) (fun k hk => RR.2.2.of k (by omega))
    have hout : Row (((((w.more os n_).more os_1 d_1).more os_2 d_2).more os_3 d_3).more os_4 d_4) a_3 (len2 + 1) (isum (quWent a0 a1 x)) := Row.congr (by repeat (first | (with_reducible assumption) | (with_reducible exact Row.nil) | (with_reducible apply Row.drewN) | (with_reducible apply Row.drew) | (with_reducible apply Row.more) | (with_reducible apply Row.alloc))) (fun k hk => (went_small RR).of k (by omega))
    have hgo : Row (((((w.more os n_).more os_1 d_1).more os_2 d_2).more os_3 d_3).more os_4 d_4) a_4 (len2 + 1) (isum (quLost a0 a1 x)) := Row.congr (by repeat (first | (with_reducible assumption) | (with_reducible exact Row.nil) | (with_reducible apply Row.drewN) | (with_reducible apply Row.drew) | (with_reducible apply Row.more) | (with_reducible apply Row.alloc))) (fun k hk => (lost_small RR).of k (by omega))
    clear hb_1 hb_2 hb_3 hb_4
    generalize (((((w.more os n_).more os_1 d_1).more os_2 d_2).more os_3 d_3).more os_4 d_4) = wz at *
    clear RR
    go_wp2_with fail
    go_loopw [45] (fun i wr => ∃ k dr : Nat, i = .int .i64 k ∧ k ≤ len2 ∧ wr = wz.drewN dr) (fun i _ => len2 - (intOf i).toNat)
    case atStart => exact ⟨0, 0, rfl, Nat.zero_le _, rfl⟩
    case round =>
      obtain ⟨k, dr, rfl, hk, rfl⟩ := hrel
      by_cases hlt : k < len2
      · obtain ⟨p1, o1, V, rfl, g1, k1, hV⟩ := hrv.at_ hlt
        obtain ⟨p2, o2, L, rfl, g2, k2, hL⟩ := hrl.at_ hlt
        obtain ⟨p3, o3, W, rfl, g3, k3, hW⟩ := hrw.at_ hlt
        obtain ⟨p4, o4, I, rfl, g4, k4, hI⟩ := hin.at_ (show k + 1 < len2 + 1 by omega)
        obtain ⟨p5, o5, O, rfl, g5, k5, hO⟩ := hout.at_ (show k + 1 < len2 + 1 by omega)
        obtain ⟨p6, o6, G, rfl, g6, k6, hG⟩ := hgo.at_ (show k + 1 < len2 + 1 by omega)
        have RR := HR.out
        have hx := fun k hk => (RR.2.2.2 k hk).1
        have s1 := qu_sums (R := a0) (M := a1) (x := x) (k + 1)
        have s2 := qu_state RR.1.1 RR.2.1.1 hx (k + 1) (by omega)
        have s3 := qu_bounds RR.1.1 RR.2.1.1 hx k hlt
        have s4 := qu_full RR.1.1 RR.2.1.1 hx k hlt
        have s5 := RR.2.2.sum (k + 1) (by omega)
        have s6 := (went_small RR).sum (k + 1) (by omega)
        have s7 := (lost_small RR).sum (k + 1) (by omega)
        have s8 := RR.2.2.2 k hlt
        have s9 := RR.2.1
        rw [← hI.out, ← hO.out, ← hG.out] at s1
        rw [← hI.out] at s5
        rw [← hO.out] at s6
        rw [← hG.out] at s7
        have hW' := hW.out
        rw [← hW'] at s1 s2 s4
        rw [← hV.out, ← hL.out] at s3 s4
        clear hW' hW hV hL hI hO hG hx RR
        have kw1 : IntKind.i64.wrap ((k : Int) + 1) = (k : Int) + 1 := IntWalk.i64_in _ (by omega)
        have kw2 : IntKind.i64.wrap (O + G) = O + G := IntWalk.i64_in _ (by omega)
        have kw3 : IntKind.i64.wrap (O + G + W) = O + G + W := IntWalk.i64_in _ (by omega)
        have kw4 : IntKind.i64.wrap (W + L) = W + L := IntWalk.i64_in _ (by omega)
        have e1 : (I != O + G + W) = false := by simp; omega
        have e2 : decide (W < 0) = false := by simp; omega
        have e3 : decide (a1 < W) = false := by simp; omega
        have e8 : decide (a0 < V) = false := by simp; omega
        have q1 : (0 : Int) ≤ (k : Int) + 1 := by omega
        have q2 : (k : Int) + 1 < (len2 : Int) + 1 := by omega
        have q3 : ((k : Int) + 1).toNat = k + 1 := by omega
        have q4 : (k : Int) < (len2 : Int) := by omega
        by_cases hL : 0 < L
        · have e4 : decide (0 < L) = true := by simpa using hL
          have e5 : (W != a1) = false := by simp; omega
          have e6 : decide (0 < W + L) = true := by simp; omega
          have e7 : (V != a0) = false := by simp; omega
          clear s1 s2 s3 s4 s5 s6 s7 s8 s9 hL
          go_wp2_with fail
          simp only [List.append, List.cons_append, List.nil_append]
          go_big_quiet (fail)
          go_wp2
          go_roundw
          case rel => exact ⟨k + 1, _, by go_num, by omega, rfl⟩
          case measure => simp [intOf]; omega
        · have e4 : decide (0 < L) = false := by simpa using hL
          by_cases hWL : 0 < W + L
          · have e6 : decide (0 < W + L) = true := by simpa using hWL
            have e7 : (V != a0) = false := by simp; omega
            clear s1 s2 s3 s4 s5 s6 s7 s8 s9 hL hWL
            go_wp2_with fail
            simp only [List.append, List.cons_append, List.nil_append]
            go_big_quiet (fail)
            go_wp2
            go_roundw
            case rel => exact ⟨k + 1, _, by go_num, by omega, rfl⟩
            case measure => simp [intOf]; omega
          · have e6 : decide (0 < W + L) = false := by simpa using hWL
            clear s1 s2 s3 s4 s5 s6 s7 s8 s9 hL hWL
            go_wp2_with fail
            simp only [List.append, List.cons_append, List.nil_append]
            go_big_quiet (fail)
            go_wp2
            go_roundw
            case rel => exact ⟨k + 1, _, by go_num, by omega, rfl⟩
            case measure => simp [intOf]; omega
      · obtain rfl : k = len2 := by omega
        go_wp2
        go_ret
        exact ⟨rfl, (hmz.drewN _).below⟩
  · have hr' : bRight a0 a1 len2 x = false := by simpa using hr
    have E0 := Lib.hid hr'
    clear hr hr'
    go_enter Try.func3, Try.ntmps3
    go_wp2_with (go_at_call 25; refine (queue_alive _).mono ?_; rintro e w' ⟨rfl, os, n_, rfl⟩)
    refine (play_none a0 a1 _ len2 _ x _ (by repeat (first | (with_reducible assumption) | (with_reducible exact Row.nil) | (with_reducible apply Row.drewN) | (with_reducible apply Row.drew) | (with_reducible apply Row.more) | (with_reducible apply Row.alloc))) (by omega) E0.out).mono ?_
    rintro e w1 ⟨rfl, os_1, d_1, rfl⟩
    go_wp2_with fail
    refine (cof_any _ len2 _ (x) _ (by repeat (first | (with_reducible assumption) | (with_reducible exact Row.nil) | (with_reducible apply Row.drewN) | (with_reducible apply Row.drew) | (with_reducible apply Row.more) | (with_reducible apply Row.alloc))) (by omega)).mono ?_
    rintro e w1 ⟨a_2, c_2, rfl, hc_2, hr_2, hb_2⟩
    obtain ⟨os_2, d_2, rfl⟩ := More.of_below hb_2
    go_wp2_with fail
    refine (cof_any none 0 0 (fun _ => 0) _ Row.nil (by omega)).mono ?_
    rintro e w1 ⟨a_3, c_3, rfl, hc_3, hr_3, hb_3⟩
    obtain ⟨os_3, d_3, rfl⟩ := More.of_below hb_3
    go_wp2_with fail
    refine (cof_any none 0 0 (fun _ => 0) _ Row.nil (by omega)).mono ?_
    rintro e w1 ⟨a_4, c_4, rfl, hc_4, hr_4, hb_4⟩
    obtain ⟨os_4, d_4, rfl⟩ := More.of_below hb_4
    have hmz : More w (((((w.more os n_).more os_1 d_1).more os_2 d_2).more os_3 d_3).more os_4 d_4) := (by repeat (first | (with_reducible assumption) | (with_reducible exact More.refl _) | (with_reducible refine More.alloc ?_ _) | (with_reducible refine More.more ?_ _ _) | (with_reducible refine More.drewN ?_ _) | (with_reducible refine More.drew ?_)))
    clear hb_2 hb_3 hb_4
    generalize (((((w.more os n_).more os_1 d_1).more os_2 d_2).more os_3 d_3).more os_4 d_4) = wz at *
    go_wp2_with fail
    go_loopw [45] (fun i wr => i = .int .i64 0 ∧ wr = wz) (fun _ _ => 0)
    case atStart => exact ⟨rfl, rfl⟩
    case round =>
      obtain ⟨rfl, rfl⟩ := hrel
      go_wp2
      go_ret
      exact ⟨rfl, hmz.below⟩
end Go.Proofs.Ytdilmnpoicdkhaa
