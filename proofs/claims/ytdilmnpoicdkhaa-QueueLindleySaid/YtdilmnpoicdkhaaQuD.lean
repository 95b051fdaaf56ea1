/- QueueLindley, QueueReich: for every input the law returns true. Conditions: none. -/
import Derived.Test.YtdilmnpoicdkhaaQuLaws
set_option linter.unusedVariables false
set_option linter.unusedSimpArgs false
namespace Go.Proofs.Ytdilmnpoicdkhaa
open Go.RowKit Go.Tide
set_option linter.unusedVariables false
set_option linter.unusedSimpArgs false

set_option maxHeartbeats 4000000 in
theorem queueLindley_walk (a0 : Int) (a1 : Option Addr) (len1 cap1 : Nat) (z1 : List Int) (w : World) (b0 : InI64 a0) (f1 : IsFlat w a1 len1 cap1 1 z1) (r1 : cap1 * 8 ≤ 140737488351232) :
    Calls Try.prog 11 #[.int .i64 a0, .slice a1 len1 cap1] w fun e w' => e = .returned (.bool true) ∧ Below w.heap.size w w' := by
  have hle := f1.le
  have hs := f1.row
  generalize (fun k => z1.getD k 0) = x at hs
  clear f1
  by_cases hr : bRight a0 1099511627776 len1 x = true
  · have RR := bRight_iff.1 hr
    have hn := RR.2.2.1
    have hR := RR.1
    have HR := Lib.hid RR
    clear hr
    go_enter Try.func11, Try.ntmps11
    go_wp2_with (go_at_call 25; refine (queue_alive _).mono ?_; rintro e w' ⟨rfl, os, n_, rfl⟩)
    refine (play_any a0 1099511627776 _ len1 _ x _ (by repeat (first | (with_reducible assumption) | (with_reducible exact Row.nil) | (with_reducible apply Row.drewN) | (with_reducible apply Row.drew) | (with_reducible apply Row.more) | (with_reducible apply Row.alloc))) HR.out).mono ?_
    rintro e w1 ⟨av_1, cv_1, al_1, cl_1, aw_1, cw_1, rfl, ⟨hcv_1, hcl_1, hcw_1⟩, ⟨hrv_1, hrl_1, hrw_1⟩, hb_1⟩
    obtain ⟨os_1, d_1, rfl⟩ := More.of_below hb_1
    have hmz : More w ((w.more os n_).more os_1 d_1) := (by repeat (first | (with_reducible assumption) | (with_reducible exact More.refl _) | (with_reducible refine More.alloc ?_ _) | (with_reducible refine More.more ?_ _ _) | (with_reducible refine More.drewN ?_ _) | (with_reducible refine More.drew ?_)))
    have hrl : Row ((w.more os n_).more os_1 d_1) al_1 len1 (quLost a0 1099511627776 x) := (by repeat (first | (with_reducible assumption) | (with_reducible exact Row.nil) | (with_reducible apply Row.drewN) | (with_reducible apply Row.drew) | (with_reducible apply Row.more) | (with_reducible apply Row.alloc)))
    have hrw : Row ((w.more os n_).more os_1 d_1) aw_1 len1 (fun k => quWait a0 1099511627776 x (k + 1)) := (by repeat (first | (with_reducible assumption) | (with_reducible exact Row.nil) | (with_reducible apply Row.drewN) | (with_reducible apply Row.drew) | (with_reducible apply Row.more) | (with_reducible apply Row.alloc)))
    have hrs : Row ((w.more os n_).more os_1 d_1) a1 len1 (x) := (by repeat (first | (with_reducible assumption) | (with_reducible exact Row.nil) | (with_reducible apply Row.drewN) | (with_reducible apply Row.drew) | (with_reducible apply Row.more) | (with_reducible apply Row.alloc)))
    clear hb_1
    generalize ((w.more os n_).more os_1 d_1) = wz at *
    clear RR
    go_wp2_with fail
    go_loopw [8, 22] (fun ws i wr => ∃ k dr : Nat, i = .int .i64 k ∧ k ≤ len1 ∧ ws = .int .i64 (quWait a0 1099511627776 x k) ∧ wr = wz.drewN dr) (fun _ i _ => len1 - (intOf i).toNat)
    case atStart => exact ⟨0, 0, rfl, Nat.zero_le _, rfl, rfl⟩
    case round =>
      obtain ⟨k, dr, rfl, hk, rfl, rfl⟩ := hrel
      by_cases hlt : k < len1
      · have h0 : 0 < len1 := by omega
        obtain ⟨p3, o3, W, rfl, g3, k3, hW⟩ := hrw.at_ hlt
        obtain ⟨p4, o4, X, rfl, g4, k4, hX⟩ := hrs.at_ hlt
        have RR := HR.out
        have hx := fun k hk => (RR.2.2.2 k hk).1
        have s2 := qu_state RR.1.1 RR.2.1.1 hx k hk
        have s8 := RR.2.2.2 k hlt
        rw [← hX.out] at s8
        have q4 : (k : Int) < (len1 : Int) := by omega
        have HW := hW
        have hW2 : Hid (W = quWait a0 1099511627776 x (k + 1)) := hW
        by_cases hm : mxOf len1 (quLost a0 1099511627776 x) = 0
        · have hl := nolost RR h0 (by omega)
          have hd : (mxOf len1 (quLost a0 1099511627776 x) == 0) = true := by simpa using hm
          have hli := qu_lindley (R := a0) (M := 1099511627776) (x := x) k (hl k hlt)
          rw [← hW2.out, ← hX.out] at hli
          generalize quWait a0 1099511627776 x k = U at *
          have kw1 : IntKind.i64.wrap (U + X) = U + X := IntWalk.i64_in _ (by omega)
          have kw2 : IntKind.i64.wrap (U + X - a0) = U + X - a0 := IntWalk.i64_in _ (by omega)
          have hmx : (if 0 < U + X - a0 then U + X - a0 else 0) = W := by omega
          have hne : (W != W) = false := by simp
          clear hli hl hm hx RR
          go_wp2_with fail
          refine (max_eq _ len1 _ (quLost a0 1099511627776 x) _ (by repeat (first | (with_reducible assumption) | (with_reducible exact Row.nil) | (with_reducible apply Row.drewN) | (with_reducible apply Row.drew) | (with_reducible apply Row.more) | (with_reducible apply Row.alloc))) (by omega) h0).mono ?_
          rintro e w1 ⟨rfl, rfl⟩
          go_wp2_with fail
          go_roundw
          case rel => exact ⟨k + 1, _, by go_num, by omega, by rw [hW2.out], rfl⟩
          case measure => simp [intOf]; omega
        · have hd : (mxOf len1 (quLost a0 1099511627776 x) == 0) = false := by simpa using hm
          generalize quWait a0 1099511627776 x k = U at *
          clear hm hx RR
          go_wp2_with fail
          refine (max_eq _ len1 _ (quLost a0 1099511627776 x) _ (by repeat (first | (with_reducible assumption) | (with_reducible exact Row.nil) | (with_reducible apply Row.drewN) | (with_reducible apply Row.drew) | (with_reducible apply Row.more) | (with_reducible apply Row.alloc))) (by omega) h0).mono ?_
          rintro e w1 ⟨rfl, rfl⟩
          go_wp2_with fail
          go_roundw
          case rel => exact ⟨k + 1, _, by go_num, by omega, by rw [hW2.out], rfl⟩
          case measure => simp [intOf]; omega
      · obtain rfl : k = len1 := by omega
        go_wp2
        go_ret
        exact ⟨rfl, (hmz.drewN _).below⟩
  · have hr' : bRight a0 1099511627776 len1 x = false := by simpa using hr
    have E0 := Lib.hid hr'
    clear hr hr'
    go_enter Try.func11, Try.ntmps11
    go_wp2_with (go_at_call 25; refine (queue_alive _).mono ?_; rintro e w' ⟨rfl, os, n_, rfl⟩)
    refine (play_none a0 1099511627776 _ len1 _ x _ (by repeat (first | (with_reducible assumption) | (with_reducible exact Row.nil) | (with_reducible apply Row.drewN) | (with_reducible apply Row.drew) | (with_reducible apply Row.more) | (with_reducible apply Row.alloc))) (by omega) E0.out).mono ?_
    rintro e w1 ⟨rfl, os_1, d_1, rfl⟩
    have hmz : More w ((w.more os n_).more os_1 d_1) := (by repeat (first | (with_reducible assumption) | (with_reducible exact More.refl _) | (with_reducible refine More.alloc ?_ _) | (with_reducible refine More.more ?_ _ _) | (with_reducible refine More.drewN ?_ _) | (with_reducible refine More.drew ?_)))
    generalize ((w.more os n_).more os_1 d_1) = wz at *
    go_wp2_with fail
    go_loopw [8, 22] (fun v i wr => i = .int .i64 0 ∧ wr = wz) (fun _ _ _ => 0)
    case atStart => exact ⟨rfl, rfl⟩
    case round =>
      obtain ⟨rfl, rfl⟩ := hrel
      go_wp2
      go_ret
      exact ⟨rfl, hmz.below⟩

set_option maxHeartbeats 4000000 in
theorem queueReich_walk (a0 : Int) (a1 : Option Addr) (len1 cap1 : Nat) (z1 : List Int) (w : World) (b0 : InI64 a0) (f1 : IsFlat w a1 len1 cap1 1 z1) (r1 : cap1 * 8 ≤ 140737488351232) :
    Calls Try.prog 12 #[.int .i64 a0, .slice a1 len1 cap1] w fun e w' => e = .returned (.bool true) ∧ Below w.heap.size w w' := by
  have hle := f1.le
  have hs := f1.row
  generalize (fun k => z1.getD k 0) = x at hs
  clear f1
  by_cases hr : bRight a0 1099511627776 len1 x = true
  · have RR := bRight_iff.1 hr
    have hn := RR.2.2.1
    have hR := RR.1
    have HR := Lib.hid RR
    clear hr
    go_enter Try.func12, Try.ntmps12
    go_wp2_with (go_at_call 25; refine (queue_alive _).mono ?_; rintro e w' ⟨rfl, os, n_, rfl⟩)
    refine (play_any a0 1099511627776 _ len1 _ x _ (by repeat (first | (with_reducible assumption) | (with_reducible exact Row.nil) | (with_reducible apply Row.drewN) | (with_reducible apply Row.drew) | (with_reducible apply Row.more) | (with_reducible apply Row.alloc))) HR.out).mono ?_
    rintro e w1 ⟨av_1, cv_1, al_1, cl_1, aw_1, cw_1, rfl, ⟨hcv_1, hcl_1, hcw_1⟩, ⟨hrv_1, hrl_1, hrw_1⟩, hb_1⟩
    obtain ⟨os_1, d_1, rfl⟩ := More.of_below hb_1
    have hmz : More w ((w.more os n_).more os_1 d_1) := (by repeat (first | (with_reducible assumption) | (with_reducible exact More.refl _) | (with_reducible refine More.alloc ?_ _) | (with_reducible refine More.more ?_ _ _) | (with_reducible refine More.drewN ?_ _) | (with_reducible refine More.drew ?_)))
    have hrl : Row ((w.more os n_).more os_1 d_1) al_1 len1 (quLost a0 1099511627776 x) := (by repeat (first | (with_reducible assumption) | (with_reducible exact Row.nil) | (with_reducible apply Row.drewN) | (with_reducible apply Row.drew) | (with_reducible apply Row.more) | (with_reducible apply Row.alloc)))
    have hrw : Row ((w.more os n_).more os_1 d_1) aw_1 len1 (fun k => quWait a0 1099511627776 x (k + 1)) := (by repeat (first | (with_reducible assumption) | (with_reducible exact Row.nil) | (with_reducible apply Row.drewN) | (with_reducible apply Row.drew) | (with_reducible apply Row.more) | (with_reducible apply Row.alloc)))
    have hrs : Row ((w.more os n_).more os_1 d_1) a1 len1 (x) := (by repeat (first | (with_reducible assumption) | (with_reducible exact Row.nil) | (with_reducible apply Row.drewN) | (with_reducible apply Row.drew) | (with_reducible apply Row.more) | (with_reducible apply Row.alloc)))
    clear hb_1
    generalize ((w.more os n_).more os_1 d_1) = wz at *
    clear RR
    go_wp2_with fail
    go_loopw [24] (fun i wr => ∃ k dr : Nat, i = .int .i64 k ∧ k ≤ len1 ∧ wr = wz.drewN dr) (fun i _ => len1 - (intOf i).toNat)
    case atStart => exact ⟨0, 0, rfl, Nat.zero_le _, rfl⟩
    case round =>
      obtain ⟨k, dr, rfl, hk, rfl⟩ := hrel
      by_cases hlt : k < len1
      · have h0 : 0 < len1 := by omega
        obtain ⟨p3, o3, W, rfl, g3, k3, hW⟩ := hrw.at_ hlt
        have hW2 : Hid (W = quWait a0 1099511627776 x (k + 1)) := hW
        have q4 : (k : Int) < (len1 : Int) := by omega
        have RR := HR.out
        by_cases hm : 0 < mxOf len1 (quLost a0 1099511627776 x)
        · have hd : decide (0 < mxOf len1 (quLost a0 1099511627776 x)) = true := by simpa using hm
          clear hm RR
          go_wp2_with fail
          refine (max_eq _ len1 _ (quLost a0 1099511627776 x) _ (by repeat (first | (with_reducible assumption) | (with_reducible exact Row.nil) | (with_reducible apply Row.drewN) | (with_reducible apply Row.drew) | (with_reducible apply Row.more) | (with_reducible apply Row.alloc))) (by omega) h0).mono ?_
          rintro e w1 ⟨rfl, rfl⟩
          go_wp2
          go_ret
          exact ⟨rfl, (hmz.drewN _).below⟩
        · have hd : decide (0 < mxOf len1 (quLost a0 1099511627776 x)) = false := by simpa using hm
          have hl := nolost RR h0 (by omega)
          have hre := reich_law (R := a0) (M := 1099511627776) RR.1.1 (by omega) (fun k hk => (RR.2.2.2 k hk).1) hl hlt
          rw [← hW2.out] at hre
          have HE := Lib.hid hre
          clear hm RR hl hre
          go_wp2_with fail
          refine (max_eq _ len1 _ (quLost a0 1099511627776 x) _ (by repeat (first | (with_reducible assumption) | (with_reducible exact Row.nil) | (with_reducible apply Row.drewN) | (with_reducible apply Row.drew) | (with_reducible apply Row.more) | (with_reducible apply Row.alloc))) (by omega) h0).mono ?_
          rintro e w1 ⟨rfl, rfl⟩
          go_wp2_with fail
          go_loopw [11, 10, 34] (fun sm bs i wi => ∃ j dj : Nat, i = .int .i64 j ∧ j ≤ k + 1 ∧ sm = .int .i64 (isum x (k + 1) - isum x (k + 1 - j)) ∧ bs = .int .i64 (reichTo a0 x k j) ∧ wi = wz.drewN dj) (fun _ _ i _ => k + 1 - (intOf i).toNat)
          case atStart => exact ⟨0, dr, rfl, Nat.zero_le _, by simp, rfl, rfl⟩
          case round =>
            obtain ⟨j, dj, rfl, hj, rfl, rfl, rfl⟩ := hrel
            by_cases hlj : j < k + 1
            · obtain ⟨q, hq⟩ : ∃ q, Hid (k - j = q) := ⟨_, rfl⟩
              have hqi : (k : Int) - (j : Int) = (q : Nat) := by have := hq.out; omega
              obtain ⟨p4, o4, X, rfl, g4, k4, hX⟩ := hrs.at_ (show q < len1 by have := hq.out; omega)
              have RR := HR.out
              have s1 := RR.2.2.sum (k + 1) (by omega)
              have s2 := RR.2.2.sum (k + 1 - j) (by omega)
              have s3 := RR.2.2.2 q (by have := hq.out; omega)
              rw [← hX.out] at s3
              have hS : Hid (isum x (k + 1) - isum x (k + 1 - (j + 1)) = isum x (k + 1) - isum x (k + 1 - j) + X) := by
                show _ = _
                rw [show k + 1 - j = q + 1 by have := hq.out; omega, show k + 1 - (j + 1) = q by have := hq.out; omega, hX.out]
                simp only [isum]
                omega
              have hB : Hid (reichTo a0 x k (j + 1) = max (reichTo a0 x k j) (isum x (k + 1) - isum x (k + 1 - j) + X - ((j : Int) + 1) * a0)) := by
                show _ = _
                rw [← hS.out, show k + 1 - (j + 1) = k - j by omega]
                rfl
              have s5 : 0 ≤ ((j : Int) + 1) * a0 := Int.mul_nonneg (by omega) hR.1
              have s6 : ((j : Int) + 1) * a0 ≤ 300 * 1099511627776 := Int.mul_le_mul (by omega) hR.2 hR.1 (by omega)
              have s7 : 0 ≤ reichTo a0 x k j ∧ reichTo a0 x k j ≤ 329853488332800 := ⟨(reichTo_ge j).1, reichTo_le (by omega) j (fun q hq => by
                have a1 := RR.2.2.sum (k + 1) (by omega)
                have a2 := RR.2.2.sum (k - q) (by omega)
                have a3 : 0 ≤ ((q : Int) + 1) * a0 := Int.mul_nonneg (by omega) hR.1
                omega)⟩
              have hSb : -329853488332800 ≤ isum x (k + 1) - isum x (k + 1 - j) ∧ isum x (k + 1) - isum x (k + 1 - j) ≤ 329853488332800 := by omega
              generalize isum x (k + 1) - isum x (k + 1 - j) = S at *
              generalize reichTo a0 x k j = B at *
              obtain ⟨P, hP⟩ : ∃ P, ((j : Int) + 1) * a0 = P := ⟨_, rfl⟩
              rw [hP] at s5 s6 hB
              have kw1 : IntKind.i64.wrap ((k : Int) - (j : Int)) = (q : Nat) := by rw [IntWalk.i64_in _ (by omega)]; omega
              have kw2 : IntKind.i64.wrap (S + X) = S + X := IntWalk.i64_in _ (by omega)
              have kw3 : IntKind.i64.wrap ((j : Int) + 1) = (j : Int) + 1 := IntWalk.i64_in _ (by omega)
              have kw4 : IntKind.i64.wrap P = P := IntWalk.i64_in _ (by omega)
              have kw5 : IntKind.i64.wrap (S + X - P) = S + X - P := IntWalk.i64_in _ (by omega)
              have kx1 : wrap64 P = P := IntWalk.wrap64_in _ (by omega)
              have kx2 : wrap64 (S + X - P) = S + X - P := IntWalk.wrap64_in _ (by omega)
              have hmx : (if B < S + X - P then S + X - P else B) = max B (S + X - P) := by omega
              have q1 : (0 : Int) ≤ (q : Int) := by omega
              have q2 : (q : Int) < (len1 : Int) := by have := hq.out; omega
              have q3 : (j : Int) < (k : Int) + 1 := by omega
              clear s1 s2 RR
              go_wp2_with fail
              go_roundw
              case rel => exact ⟨j + 1, _, by go_num, by omega, by rw [hS.out], by rw [hB.out], rfl⟩
              case measure => simp [intOf]; omega
            · obtain rfl : j = k + 1 := by omega
              have hB : Hid (reichTo a0 x k (k + 1) = W) := HE.out
              rw [hB.out]
              have hne : (W != W) = false := by simp
              go_wp2_with fail
              go_roundw
              case rel => exact ⟨k + 1, _, by go_num, by omega, rfl⟩
              case measure => simp [intOf]; omega
      · obtain rfl : k = len1 := by omega
        go_wp2
        go_ret
        exact ⟨rfl, (hmz.drewN _).below⟩
  · have hr' : bRight a0 1099511627776 len1 x = false := by simpa using hr
    have E0 := Lib.hid hr'
    clear hr hr'
    go_enter Try.func12, Try.ntmps12
    go_wp2_with (go_at_call 25; refine (queue_alive _).mono ?_; rintro e w' ⟨rfl, os, n_, rfl⟩)
    refine (play_none a0 1099511627776 _ len1 _ x _ (by repeat (first | (with_reducible assumption) | (with_reducible exact Row.nil) | (with_reducible apply Row.drewN) | (with_reducible apply Row.drew) | (with_reducible apply Row.more) | (with_reducible apply Row.alloc))) (by omega) E0.out).mono ?_
    rintro e w1 ⟨rfl, os_1, d_1, rfl⟩
    have hmz : More w ((w.more os n_).more os_1 d_1) := (by repeat (first | (with_reducible assumption) | (with_reducible exact More.refl _) | (with_reducible refine More.alloc ?_ _) | (with_reducible refine More.more ?_ _ _) | (with_reducible refine More.drewN ?_ _) | (with_reducible refine More.drew ?_)))
    generalize ((w.more os n_).more os_1 d_1) = wz at *
    go_wp2_with fail
    go_loopw [24] (fun i wr => i = .int .i64 0 ∧ wr = wz) (fun _ _ => 0)
    case atStart => exact ⟨rfl, rfl⟩
    case round =>
      obtain ⟨rfl, rfl⟩ := hrel
      go_wp2
      go_ret
      exact ⟨rfl, hmz.below⟩
end Go.Proofs.Ytdilmnpoicdkhaa
