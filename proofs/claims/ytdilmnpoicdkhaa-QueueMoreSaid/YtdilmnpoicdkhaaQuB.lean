/- QueueMore: for every input the law returns true. Conditions: none. -/
import Derived.Test.YtdilmnpoicdkhaaQuLaws
set_option linter.unusedVariables false
set_option linter.unusedSimpArgs false
namespace Go.Tide
theorem wrap_up {r f r' : Int} (hr : 0 ≤ r ∧ r ≤ 1099511627776) (hf : -9223372036854775808 ≤ f ∧ f ≤ 9223372036854775807) (h0 : 0 ≤ f) (hr' : 0 ≤ r' ∧ r' ≤ 1099511627776) (h : RowKit.wrap64 (r + f) = r') : r ≤ r' := by
  simp only [RowKit.wrap64] at h
  omega
end Go.Tide
namespace Go.Proofs.Ytdilmnpoicdkhaa
open Go.RowKit Go.Tide
set_option linter.unusedVariables false
set_option linter.unusedSimpArgs false

set_option maxHeartbeats 4000000 in
theorem queueMore_walk (a0 : Int) (a1 : Int) (a2 : Int) (a3 : Int) (a4 : Option Addr) (len4 cap4 : Nat) (z4 : List Int) (w : World) (b0 : InI64 a0) (b1 : InI64 a1) (b2 : InI64 a2) (b3 : InI64 a3) (f4 : IsFlat w a4 len4 cap4 1 z4) (r4 : cap4 * 8 ≤ 140737488351232) :
    Calls Try.prog 8 #[.int .i64 a0, .int .i64 a1, .int .i64 a2, .int .i64 a3, .slice a4 len4 cap4] w fun e w' => e = .returned (.bool true) ∧ Below w.heap.size w w' := by
  have hle := f4.le
  have hs := f4.row
  generalize (fun k => z4.getD k 0) = x at hs
  clear f4
  by_cases h2 : a2 < 0
  · have d2 : decide (a2 < 0) = true := by simpa using h2
    clear h2
    go_enter Try.func8, Try.ntmps8
    go_wp2_with (go_at_call 25; refine (queue_alive _).mono ?_; rintro e w' ⟨rfl, os, n_, rfl⟩)
    go_ret
    exact ⟨rfl, More.below (by repeat (first | (with_reducible assumption) | (with_reducible exact More.refl _) | (with_reducible refine More.alloc ?_ _) | (with_reducible refine More.more ?_ _ _) | (with_reducible refine More.drewN ?_ _) | (with_reducible refine More.drew ?_)))⟩
  · have d2 : decide (a2 < 0) = false := by simpa using h2
    by_cases h3 : a3 < 0
    · have d3 : decide (a3 < 0) = true := by simpa using h3
      clear h2 h3
      go_enter Try.func8, Try.ntmps8
      go_wp2_with (go_at_call 25; refine (queue_alive _).mono ?_; rintro e w' ⟨rfl, os, n_, rfl⟩)
      go_ret
      exact ⟨rfl, More.below (by repeat (first | (with_reducible assumption) | (with_reducible exact More.refl _) | (with_reducible refine More.alloc ?_ _) | (with_reducible refine More.more ?_ _ _) | (with_reducible refine More.drewN ?_ _) | (with_reducible refine More.drew ?_)))⟩
    · have d3 : decide (a3 < 0) = false := by simpa using h3
      obtain ⟨r', hr'⟩ : ∃ r', wrap64 (a0 + a2) = r' := ⟨_, rfl⟩
      obtain ⟨m', hm'⟩ : ∃ m', wrap64 (a1 + a3) = m' := ⟨_, rfl⟩
      by_cases hA : bRight r' m' len4 x = true
      · by_cases hB : bRight a0 a1 len4 x = true
        · have RA := bRight_iff.1 hA
          have RB := bRight_iff.1 hB
          have hn := RB.2.2.1
          have E1 := Lib.hid hA
          have E2 := Lib.hid hB
          have l1 : a0 ≤ r' := wrap_up RB.1 b2 (by omega) RA.1 hr'
          have l2 : a1 ≤ m' := wrap_up RB.2.1 b3 (by omega) RA.2.1 hm'
          have hmo := qu_more (x := x) l1 l2
          have E3 := Lib.hid (cWithin_true (n := len4 + 1) (m := len4 + 1) (f := ofRow (quLost r' m' x)) (g := ofRow (quLost a0 a1 x)) (fun t ht _ => by
            rw [Small.of (lost_small RA) t (by omega), Small.of (lost_small RB) t (by omega)]
            exact fit_mono (hmo t).2))
          have E4 := Lib.hid (cWithin_true (n := len4 + 1) (m := len4 + 1) (f := ofRow (quWent a0 a1 x)) (g := ofRow (quWent r' m' x)) (fun t ht _ => by
            rw [Small.of (went_small RA) t (by omega), Small.of (went_small RB) t (by omega)]
            exact fit_mono (hmo t).1))
          have HA := Lib.hid RA
          have HB := Lib.hid RB
          clear hA hB RA RB l1 l2 hmo h2 h3
          go_enter Try.func8, Try.ntmps8
          go_wp2_with (go_at_call 25; refine (queue_alive _).mono ?_; rintro e w' ⟨rfl, os, n_, rfl⟩)
          refine (qright_any r' m' _ len4 _ x _ (by repeat (first | (with_reducible assumption) | (with_reducible exact Row.nil) | (with_reducible apply Row.drewN) | (with_reducible apply Row.drew) | (with_reducible apply Row.more) | (with_reducible apply Row.alloc))) (by omega)).mono ?_
          rintro e w1 ⟨rfl, os_1, d_1, rfl⟩
          rw [E1.out]
          go_wp2_with fail
          refine (qright_any a0 a1 _ len4 _ x _ (by repeat (first | (with_reducible assumption) | (with_reducible exact Row.nil) | (with_reducible apply Row.drewN) | (with_reducible apply Row.drew) | (with_reducible apply Row.more) | (with_reducible apply Row.alloc))) (by omega)).mono ?_
          rintro e w1 ⟨rfl, os_2, d_2, rfl⟩
          rw [E2.out]
          go_wp2_with fail
          refine (play_any a0 a1 _ len4 _ x _ (by repeat (first | (with_reducible assumption) | (with_reducible exact Row.nil) | (with_reducible apply Row.drewN) | (with_reducible apply Row.drew) | (with_reducible apply Row.more) | (with_reducible apply Row.alloc))) HB.out).mono ?_
          rintro e w1 ⟨av_3, cv_3, al_3, cl_3, aw_3, cw_3, rfl, ⟨hcv_3, hcl_3, hcw_3⟩, ⟨hrv_3, hrl_3, hrw_3⟩, hb_3⟩
          obtain ⟨os_3, d_3, rfl⟩ := More.of_below hb_3
          go_wp2_with fail
          refine (play_any r' m' _ len4 _ x _ (by repeat (first | (with_reducible assumption) | (with_reducible exact Row.nil) | (with_reducible apply Row.drewN) | (with_reducible apply Row.drew) | (with_reducible apply Row.more) | (with_reducible apply Row.alloc))) HA.out).mono ?_
          rintro e w1 ⟨av_4, cv_4, al_4, cl_4, aw_4, cw_4, rfl, ⟨hcv_4, hcl_4, hcw_4⟩, ⟨hrv_4, hrl_4, hrw_4⟩, hb_4⟩
          obtain ⟨os_4, d_4, rfl⟩ := More.of_below hb_4
          go_wp2_with fail
          refine (cof_any _ len4 _ (quLost r' m' x) _ (by repeat (first | (with_reducible assumption) | (with_reducible exact Row.nil) | (with_reducible apply Row.drewN) | (with_reducible apply Row.drew) | (with_reducible apply Row.more) | (with_reducible apply Row.alloc))) (by omega)).mono ?_
          rintro e w1 ⟨a_5, c_5, rfl, hc_5, hr_5, hb_5⟩
          obtain ⟨os_5, d_5, rfl⟩ := More.of_below hb_5
          go_wp2_with fail
          refine (cof_any _ len4 _ (quLost a0 a1 x) _ (by repeat (first | (with_reducible assumption) | (with_reducible exact Row.nil) | (with_reducible apply Row.drewN) | (with_reducible apply Row.drew) | (with_reducible apply Row.more) | (with_reducible apply Row.alloc))) (by omega)).mono ?_
          rintro e w1 ⟨a_6, c_6, rfl, hc_6, hr_6, hb_6⟩
          obtain ⟨os_6, d_6, rfl⟩ := More.of_below hb_6
          go_wp2_with fail
          refine (cwithin_any _ _ (len4 + 1) (len4 + 1) _ _ (ofRow (quLost r' m' x)) (ofRow (quLost a0 a1 x)) _ (by repeat (first | (with_reducible assumption) | (with_reducible exact Row.nil) | (with_reducible apply Row.drewN) | (with_reducible apply Row.drew) | (with_reducible apply Row.more) | (with_reducible apply Row.alloc))) (by repeat (first | (with_reducible assumption) | (with_reducible exact Row.nil) | (with_reducible apply Row.drewN) | (with_reducible apply Row.drew) | (with_reducible apply Row.more) | (with_reducible apply Row.alloc))) (by omega) (by omega)).mono ?_
          rintro e w1 ⟨rfl, os_7, d_7, rfl⟩
          rw [E3.out]
          go_wp2_with fail
          refine (cof_any _ len4 _ (quWent a0 a1 x) _ (by repeat (first | (with_reducible assumption) | (with_reducible exact Row.nil) | (with_reducible apply Row.drewN) | (with_reducible apply Row.drew) | (with_reducible apply Row.more) | (with_reducible apply Row.alloc))) (by omega)).mono ?_
          rintro e w1 ⟨a_8, c_8, rfl, hc_8, hr_8, hb_8⟩
          obtain ⟨os_8, d_8, rfl⟩ := More.of_below hb_8
          go_wp2_with fail
          refine (cof_any _ len4 _ (quWent r' m' x) _ (by repeat (first | (with_reducible assumption) | (with_reducible exact Row.nil) | (with_reducible apply Row.drewN) | (with_reducible apply Row.drew) | (with_reducible apply Row.more) | (with_reducible apply Row.alloc))) (by omega)).mono ?_
          rintro e w1 ⟨a_9, c_9, rfl, hc_9, hr_9, hb_9⟩
          obtain ⟨os_9, d_9, rfl⟩ := More.of_below hb_9
          go_wp2_with fail
          refine (cwithin_any _ _ (len4 + 1) (len4 + 1) _ _ (ofRow (quWent a0 a1 x)) (ofRow (quWent r' m' x)) _ (by repeat (first | (with_reducible assumption) | (with_reducible exact Row.nil) | (with_reducible apply Row.drewN) | (with_reducible apply Row.drew) | (with_reducible apply Row.more) | (with_reducible apply Row.alloc))) (by repeat (first | (with_reducible assumption) | (with_reducible exact Row.nil) | (with_reducible apply Row.drewN) | (with_reducible apply Row.drew) | (with_reducible apply Row.more) | (with_reducible apply Row.alloc))) (by omega) (by omega)).mono ?_
          rintro e w1 ⟨rfl, os_10, d_10, rfl⟩
          rw [E4.out]
          go_wp2
          go_ret
          exact ⟨rfl, More.below (by repeat (first | (with_reducible assumption) | (with_reducible exact More.refl _) | (with_reducible refine More.alloc ?_ _) | (with_reducible refine More.more ?_ _ _) | (with_reducible refine More.drewN ?_ _) | (with_reducible refine More.drew ?_)))⟩
        · have hB' : bRight a0 a1 len4 x = false := by simpa using hB
          have E1 := Lib.hid hA
          have E2 := Lib.hid hB'
          clear hA hB hB' h2 h3
          go_enter Try.func8, Try.ntmps8
          go_wp2_with (go_at_call 25; refine (queue_alive _).mono ?_; rintro e w' ⟨rfl, os, n_, rfl⟩)
          refine (qright_any r' m' _ len4 _ x _ (by repeat (first | (with_reducible assumption) | (with_reducible exact Row.nil) | (with_reducible apply Row.drewN) | (with_reducible apply Row.drew) | (with_reducible apply Row.more) | (with_reducible apply Row.alloc))) (by omega)).mono ?_
          rintro e w1 ⟨rfl, os_1, d_1, rfl⟩
          rw [E1.out]
          go_wp2_with fail
          refine (qright_any a0 a1 _ len4 _ x _ (by repeat (first | (with_reducible assumption) | (with_reducible exact Row.nil) | (with_reducible apply Row.drewN) | (with_reducible apply Row.drew) | (with_reducible apply Row.more) | (with_reducible apply Row.alloc))) (by omega)).mono ?_
          rintro e w1 ⟨rfl, os_2, d_2, rfl⟩
          rw [E2.out]
          go_wp2
          go_ret
          exact ⟨rfl, More.below (by repeat (first | (with_reducible assumption) | (with_reducible exact More.refl _) | (with_reducible refine More.alloc ?_ _) | (with_reducible refine More.more ?_ _ _) | (with_reducible refine More.drewN ?_ _) | (with_reducible refine More.drew ?_)))⟩
      · have hA' : bRight r' m' len4 x = false := by simpa using hA
        have E1 := Lib.hid hA'
        clear hA hA' h2 h3
        go_enter Try.func8, Try.ntmps8
        go_wp2_with (go_at_call 25; refine (queue_alive _).mono ?_; rintro e w' ⟨rfl, os, n_, rfl⟩)
        refine (qright_any r' m' _ len4 _ x _ (by repeat (first | (with_reducible assumption) | (with_reducible exact Row.nil) | (with_reducible apply Row.drewN) | (with_reducible apply Row.drew) | (with_reducible apply Row.more) | (with_reducible apply Row.alloc))) (by omega)).mono ?_
        rintro e w1 ⟨rfl, os_1, d_1, rfl⟩
        rw [E1.out]
        go_wp2
        go_ret
        exact ⟨rfl, More.below (by repeat (first | (with_reducible assumption) | (with_reducible exact More.refl _) | (with_reducible refine More.alloc ?_ _) | (with_reducible refine More.more ?_ _ _) | (with_reducible refine More.drewN ?_ _) | (with_reducible refine More.drew ?_)))⟩
end Go.Proofs.Ytdilmnpoicdkhaa
