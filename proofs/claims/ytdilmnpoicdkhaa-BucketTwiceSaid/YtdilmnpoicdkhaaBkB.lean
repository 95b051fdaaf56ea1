/- BucketGreedy, BucketTwice: for every input the law returns true. Conditions: none. -/
import Derived.Test.YtdilmnpoicdkhaaBkLaws
set_option linter.unusedVariables false
set_option linter.unusedSimpArgs false
namespace Go.Proofs.Ytdilmnpoicdkhaa
open Go.RowKit Go.Tide
set_option linter.unusedVariables false
set_option linter.unusedSimpArgs false

set_option maxHeartbeats 4000000 in
theorem bucketGreedy_walk (a0_0 a0_1 : Int) (a1 : Option Addr) (len1 cap1 : Nat) (z1 : List Int) (a2 : Option Addr) (len2 cap2 : Nat) (z2 : List Int) (w : World) (b0_0 : InI64 a0_0) (b0_1 : InI64 a0_1) (f1 : IsFlat w a1 len1 cap1 1 z1) (r1 : cap1 * 8 ≤ 140737488351232) (f2 : IsFlat w a2 len2 cap2 1 z2) (r2 : cap2 * 8 ≤ 140737488351232) :
    Calls Try.prog 15 #[.agg #[.int .i64 a0_0, .int .i64 a0_1], .slice a1 len1 cap1, .slice a2 len2 cap2] w fun e w' => e = .returned (.bool true) ∧ Below w.heap.size w w' := by
  have hle := f1.le
  have hs := f1.row
  generalize (fun k => z1.getD k 0) = x at hs
  clear f1
  have hle2 := f2.le
  have hy := f2.row
  generalize (fun k => z2.getD k 0) = y at hy
  clear f2
  by_cases hr : bRight a0_0 a0_1 len1 x = true
  · have R := bRight_iff.1 hr
    have RN := R.now
    have hn := R.2.2.1
    have E0 := Lib.hid hr
    clear hr
    have HR := Lib.hid R
    by_cases hl : len2 = len1
    · subst hl
      by_cases hk : (bRight a0_0 a0_1 len2 y && bKept a0_0 a0_1 len2 y) = true
      · have hk2 := hk
        rw [Bool.and_eq_true, bRight_iff, bKept_iff] at hk2
        obtain ⟨RY, KY⟩ := hk2
        have E1 := Lib.hid hk
        by_cases hw : cWithin (len2 + 1) (len2 + 1) (ofRow y) (ofRow x) = true
        · have E2 := Lib.hid hw
          have hw2 := sums_within RY R (cWithin_iff.1 hw)
          have E3 := Lib.hid (cWithin_true (within_sums RY RN (bk_greedy R.1.1 R.2.1.1 (fun k hk => (R.2.2.2 k hk).1) KY hw2)))
          clear hk hw hw2 KY RY R RN
          go_enter Try.func15, Try.ntmps15
          go_wp2_with (go_at_call 37; refine (bucket_alive _).mono ?_; rintro e w' ⟨rfl, os, n_, rfl⟩)
          refine (bright_any a0_0 a0_1 _ len2 _ (x) _ (by repeat (first | (with_reducible assumption) | (with_reducible exact Row.nil) | (with_reducible apply Row.drewN) | (with_reducible apply Row.drew) | (with_reducible apply Row.more) | (with_reducible apply Row.alloc))) (by omega)).mono ?_
          rintro e w1 ⟨rfl, os_1, d_1, rfl⟩
          rw [E0.out]
          go_wp2_with fail
          refine (bkeeps_full a0_0 a0_1 _ len2 _ (y) _ (by repeat (first | (with_reducible assumption) | (with_reducible exact Row.nil) | (with_reducible apply Row.drewN) | (with_reducible apply Row.drew) | (with_reducible apply Row.more) | (with_reducible apply Row.alloc))) (by omega)).mono ?_
          rintro e w1 ⟨rfl, os_2, d_2, rfl⟩
          rw [E1.out]
          go_wp2_with fail
          refine (cof_any _ len2 _ (y) _ (by repeat (first | (with_reducible assumption) | (with_reducible exact Row.nil) | (with_reducible apply Row.drewN) | (with_reducible apply Row.drew) | (with_reducible apply Row.more) | (with_reducible apply Row.alloc))) (by omega)).mono ?_
          rintro e w1 ⟨a_3, c_3, rfl, hc_3, hr_3, hb_3⟩
          obtain ⟨os_3, d_3, rfl⟩ := More.of_below hb_3
          go_wp2_with fail
          refine (cof_any _ len2 _ (x) _ (by repeat (first | (with_reducible assumption) | (with_reducible exact Row.nil) | (with_reducible apply Row.drewN) | (with_reducible apply Row.drew) | (with_reducible apply Row.more) | (with_reducible apply Row.alloc))) (by omega)).mono ?_
          rintro e w1 ⟨a_4, c_4, rfl, hc_4, hr_4, hb_4⟩
          obtain ⟨os_4, d_4, rfl⟩ := More.of_below hb_4
          go_wp2_with fail
          refine (cwithin_any _ _ (len2 + 1) (len2 + 1) _ _ (ofRow y) (ofRow x) _ (by repeat (first | (with_reducible assumption) | (with_reducible exact Row.nil) | (with_reducible apply Row.drewN) | (with_reducible apply Row.drew) | (with_reducible apply Row.more) | (with_reducible apply Row.alloc))) (by repeat (first | (with_reducible assumption) | (with_reducible exact Row.nil) | (with_reducible apply Row.drewN) | (with_reducible apply Row.drew) | (with_reducible apply Row.more) | (with_reducible apply Row.alloc))) (by omega) (by omega)).mono ?_
          rintro e w1 ⟨rfl, os_5, d_5, rfl⟩
          rw [E2.out]
          go_wp2_with fail
          have hk6_0 : Blk (((((((w.alloc (.cells #[.int .i64 a0_0, .int .i64 a0_1] 35)).more os n_).more os_1 d_1).more os_2 d_2).more os_3 d_3).more os_4 d_4).more os_5 d_5) w.heap.size 35 #[.int .i64 a0_0, .int .i64 a0_1] := (by repeat (first | (with_reducible assumption) | ((with_reducible refine Blk.new' ?_); (simp [Nat.add_assoc]; done)) | (with_reducible refine Blk.alloc ?_ _) | (with_reducible refine Blk.more ?_ _ _) | (with_reducible refine Blk.drew ?_) | (with_reducible refine Blk.drewN ?_ _)))
          have hm_6 : More w (((((((w.alloc (.cells #[.int .i64 a0_0, .int .i64 a0_1] 35)).more os n_).more os_1 d_1).more os_2 d_2).more os_3 d_3).more os_4 d_4).more os_5 d_5) := (by repeat (first | (with_reducible assumption) | (with_reducible exact More.refl _) | (with_reducible refine More.alloc ?_ _) | (with_reducible refine More.more ?_ _ _) | (with_reducible refine More.drewN ?_ _) | (with_reducible refine More.drew ?_)))
          have hw6_0 : Row (((((((w.alloc (.cells #[.int .i64 a0_0, .int .i64 a0_1] 35)).more os n_).more os_1 d_1).more os_2 d_2).more os_3 d_3).more os_4 d_4).more os_5 d_5) a1 len2 (x) := (by repeat (first | (with_reducible assumption) | (with_reducible exact Row.nil) | (with_reducible apply Row.drewN) | (with_reducible apply Row.drew) | (with_reducible apply Row.more) | (with_reducible apply Row.alloc)))
          have hw6_1 : Row (((((((w.alloc (.cells #[.int .i64 a0_0, .int .i64 a0_1] 35)).more os n_).more os_1 d_1).more os_2 d_2).more os_3 d_3).more os_4 d_4).more os_5 d_5) a2 len2 (y) := (by repeat (first | (with_reducible assumption) | (with_reducible exact Row.nil) | (with_reducible apply Row.drewN) | (with_reducible apply Row.drew) | (with_reducible apply Row.more) | (with_reducible apply Row.alloc)))
          have hg6_0 := hk6_0.lt
          have hp6_0 : (((((((w.alloc (.cells #[.int .i64 a0_0, .int .i64 a0_1] 35)).more os n_).more os_1 d_1).more os_2 d_2).more os_3 d_3).more os_4 d_4).more os_5 d_5).cell? ⟨w.heap.size, 0, none⟩ = some (.int .i64 a0_0) := hk6_0.cell 0
          have hq6_0 : (((((((w.alloc (.cells #[.int .i64 a0_0, .int .i64 a0_1] 35)).more os n_).more os_1 d_1).more os_2 d_2).more os_3 d_3).more os_4 d_4).more os_5 d_5).cell? ⟨w.heap.size, 1, none⟩ = some (.int .i64 a0_1) := hk6_0.cell 1
          generalize (((((((w.alloc (.cells #[.int .i64 a0_0, .int .i64 a0_1] 35)).more os n_).more os_1 d_1).more os_2 d_2).more os_3 d_3).more os_4 d_4).more os_5 d_5) = wb_6 at *
          have keep_6 : ∀ w', More wb_6 w' → w'.cell? ⟨w.heap.size, 0, none⟩ = some (.int .i64 a0_0) ∧ w'.cell? ⟨w.heap.size, 1, none⟩ = some (.int .i64 a0_1) ∧ More wb_6 w' := fun w' h => ⟨(h.cell hg6_0).trans hp6_0, (h.cell hg6_0).trans hq6_0, h⟩
          first | (go_region_held (fun w' => w'.cell? ⟨w.heap.size, 0, none⟩ = some (.int .i64 a0_0) ∧ w'.cell? ⟨w.heap.size, 1, none⟩ = some (.int .i64 a0_1) ∧ More wb_6 w') (exact keep_6 _ (by repeat (first | (with_reducible assumption) | (with_reducible exact More.refl _) | (with_reducible refine More.alloc ?_ _) | (with_reducible refine More.more ?_ _ _) | (with_reducible refine More.drewN ?_ _) | (with_reducible refine More.drew ?_)))) (first
              | (go_at_call_of 27 a2; refine (cof_any _ len2 _ (y) _ (by repeat (first | (with_reducible assumption) | (with_reducible exact Row.nil) | (with_reducible apply Row.drewN) | (with_reducible apply Row.drew) | (with_reducible apply Row.more) | (with_reducible apply Row.alloc))) (by omega)).mono ?_; rintro e w' ⟨a_y, c_y, rfl, hc_y, hr_y, hb_y⟩; obtain ⟨os_y, d_y, rfl⟩ := More.of_below hb_y; clear hb_y; replace hr_y : Row (wb_6.more os_y d_y) a_y (len2 + 1) (ofRow y) := hr_y)
              | (go_at_call_of 39 a1; refine (bpass_any a0_0 a0_1 _ len2 _ (x) _ (by repeat (first | (with_reducible assumption) | (with_reducible exact Row.nil) | (with_reducible apply Row.drewN) | (with_reducible apply Row.drew) | (with_reducible apply Row.more) | (with_reducible apply Row.alloc))) HR.out).mono ?_; rintro e w' ⟨a_p, c_p, rfl, hc_p, hr_p, hb_p⟩; obtain ⟨os_p, d_p, rfl⟩ := More.of_below hb_p; clear hb_p)
              | (go_at_call_of 27 a_p; refine (cof_any _ len2 _ (bkNow a0_0 a0_1 x) _ (by repeat (first | (with_reducible assumption) | (with_reducible exact Row.nil) | (with_reducible apply Row.drewN) | (with_reducible apply Row.drew) | (with_reducible apply Row.more) | (with_reducible apply Row.alloc))) (by omega)).mono ?_; rintro e w' ⟨a_q, c_q, rfl, hc_q, hr_q, hb_q⟩; obtain ⟨os_q, d_q, rfl⟩ := More.of_below hb_q; clear hb_q)
              | (go_at_call_of 34 a_q; refine (cwithin_any _ _ (len2 + 1) (len2 + 1) _ _ (ofRow y) (ofRow (bkNow a0_0 a0_1 x)) _ (by repeat (first | (with_reducible assumption) | (with_reducible exact Row.nil) | (with_reducible apply Row.drewN) | (with_reducible apply Row.drew) | (with_reducible apply Row.more) | (with_reducible apply Row.alloc))) (by repeat (first | (with_reducible assumption) | (with_reducible exact Row.nil) | (with_reducible apply Row.drewN) | (with_reducible apply Row.drew) | (with_reducible apply Row.more) | (with_reducible apply Row.alloc))) (by omega) (by omega)).mono ?_; rintro e w' ⟨rfl, os_e, d_e, rfl⟩; rw [E3.out]))) | fail
          all_goals
            go_wp2
            go_ret
            exact ⟨rfl, More.below (by repeat (first | (with_reducible assumption) | (with_reducible exact More.refl _) | (with_reducible refine More.alloc ?_ _) | (with_reducible refine More.more ?_ _ _) | (with_reducible refine More.drewN ?_ _) | (with_reducible refine More.drew ?_)))⟩
        · have hw' : cWithin (len2 + 1) (len2 + 1) (ofRow y) (ofRow x) = false := by simpa using hw
          have E2 := Lib.hid hw'
          clear hk hw hw' KY RY R RN
          go_enter Try.func15, Try.ntmps15
          go_wp2_with (go_at_call 37; refine (bucket_alive _).mono ?_; rintro e w' ⟨rfl, os, n_, rfl⟩)
          refine (bright_any a0_0 a0_1 _ len2 _ (x) _ (by repeat (first | (with_reducible assumption) | (with_reducible exact Row.nil) | (with_reducible apply Row.drewN) | (with_reducible apply Row.drew) | (with_reducible apply Row.more) | (with_reducible apply Row.alloc))) (by omega)).mono ?_
          rintro e w1 ⟨rfl, os_1, d_1, rfl⟩
          rw [E0.out]
          go_wp2_with fail
          refine (bkeeps_full a0_0 a0_1 _ len2 _ (y) _ (by repeat (first | (with_reducible assumption) | (with_reducible exact Row.nil) | (with_reducible apply Row.drewN) | (with_reducible apply Row.drew) | (with_reducible apply Row.more) | (with_reducible apply Row.alloc))) (by omega)).mono ?_
          rintro e w1 ⟨rfl, os_2, d_2, rfl⟩
          rw [E1.out]
          go_wp2_with fail
          refine (cof_any _ len2 _ (y) _ (by repeat (first | (with_reducible assumption) | (with_reducible exact Row.nil) | (with_reducible apply Row.drewN) | (with_reducible apply Row.drew) | (with_reducible apply Row.more) | (with_reducible apply Row.alloc))) (by omega)).mono ?_
          rintro e w1 ⟨a_3, c_3, rfl, hc_3, hr_3, hb_3⟩
          obtain ⟨os_3, d_3, rfl⟩ := More.of_below hb_3
          go_wp2_with fail
          refine (cof_any _ len2 _ (x) _ (by repeat (first | (with_reducible assumption) | (with_reducible exact Row.nil) | (with_reducible apply Row.drewN) | (with_reducible apply Row.drew) | (with_reducible apply Row.more) | (with_reducible apply Row.alloc))) (by omega)).mono ?_
          rintro e w1 ⟨a_4, c_4, rfl, hc_4, hr_4, hb_4⟩
          obtain ⟨os_4, d_4, rfl⟩ := More.of_below hb_4
          go_wp2_with fail
          refine (cwithin_any _ _ (len2 + 1) (len2 + 1) _ _ (ofRow y) (ofRow x) _ (by repeat (first | (with_reducible assumption) | (with_reducible exact Row.nil) | (with_reducible apply Row.drewN) | (with_reducible apply Row.drew) | (with_reducible apply Row.more) | (with_reducible apply Row.alloc))) (by repeat (first | (with_reducible assumption) | (with_reducible exact Row.nil) | (with_reducible apply Row.drewN) | (with_reducible apply Row.drew) | (with_reducible apply Row.more) | (with_reducible apply Row.alloc))) (by omega) (by omega)).mono ?_
          rintro e w1 ⟨rfl, os_5, d_5, rfl⟩
          rw [E2.out]
          go_wp2
          go_ret
          exact ⟨rfl, More.below (by repeat (first | (with_reducible assumption) | (with_reducible exact More.refl _) | (with_reducible refine More.alloc ?_ _) | (with_reducible refine More.more ?_ _ _) | (with_reducible refine More.drewN ?_ _) | (with_reducible refine More.drew ?_)))⟩
      · have hk' : (bRight a0_0 a0_1 len2 y && bKept a0_0 a0_1 len2 y) = false := by simpa using hk
        have E1 := Lib.hid hk'
        clear hk hk' R RN
        go_enter Try.func15, Try.ntmps15
        go_wp2_with (go_at_call 37; refine (bucket_alive _).mono ?_; rintro e w' ⟨rfl, os, n_, rfl⟩)
        refine (bright_any a0_0 a0_1 _ len2 _ (x) _ (by repeat (first | (with_reducible assumption) | (with_reducible exact Row.nil) | (with_reducible apply Row.drewN) | (with_reducible apply Row.drew) | (with_reducible apply Row.more) | (with_reducible apply Row.alloc))) (by omega)).mono ?_
        rintro e w1 ⟨rfl, os_1, d_1, rfl⟩
        rw [E0.out]
        go_wp2_with fail
        refine (bkeeps_full a0_0 a0_1 _ len2 _ (y) _ (by repeat (first | (with_reducible assumption) | (with_reducible exact Row.nil) | (with_reducible apply Row.drewN) | (with_reducible apply Row.drew) | (with_reducible apply Row.more) | (with_reducible apply Row.alloc))) (by omega)).mono ?_
        rintro e w1 ⟨rfl, os_2, d_2, rfl⟩
        rw [E1.out]
        go_wp2
        go_ret
        exact ⟨rfl, More.below (by repeat (first | (with_reducible assumption) | (with_reducible exact More.refl _) | (with_reducible refine More.alloc ?_ _) | (with_reducible refine More.more ?_ _ _) | (with_reducible refine More.drewN ?_ _) | (with_reducible refine More.drew ?_)))⟩
    · have hne : ((len2 : Int) != (len1 : Int)) = true := by simp; omega
      clear R RN
      go_enter Try.func15, Try.ntmps15
      go_wp2_with (go_at_call 37; refine (bucket_alive _).mono ?_; rintro e w' ⟨rfl, os, n_, rfl⟩)
      refine (bright_any a0_0 a0_1 _ len1 _ (x) _ (by repeat (first | (with_reducible assumption) | (with_reducible exact Row.nil) | (with_reducible apply Row.drewN) | (with_reducible apply Row.drew) | (with_reducible apply Row.more) | (with_reducible apply Row.alloc))) (by omega)).mono ?_
      rintro e w1 ⟨rfl, os_1, d_1, rfl⟩
      rw [E0.out]
      go_wp2
      go_ret
      exact ⟨rfl, More.below (by repeat (first | (with_reducible assumption) | (with_reducible exact More.refl _) | (with_reducible refine More.alloc ?_ _) | (with_reducible refine More.more ?_ _ _) | (with_reducible refine More.drewN ?_ _) | (with_reducible refine More.drew ?_)))⟩
  · have hr' : bRight a0_0 a0_1 len1 x = false := by simpa using hr
    have E0 := Lib.hid hr'
    clear hr hr'
    go_enter Try.func15, Try.ntmps15
    go_wp2_with (go_at_call 37; refine (bucket_alive _).mono ?_; rintro e w' ⟨rfl, os, n_, rfl⟩)
    refine (bright_any a0_0 a0_1 _ len1 _ (x) _ (by repeat (first | (with_reducible assumption) | (with_reducible exact Row.nil) | (with_reducible apply Row.drewN) | (with_reducible apply Row.drew) | (with_reducible apply Row.more) | (with_reducible apply Row.alloc))) (by omega)).mono ?_
    rintro e w1 ⟨rfl, os_1, d_1, rfl⟩
    rw [E0.out]
    go_wp2
    go_ret
    exact ⟨rfl, More.below (by repeat (first | (with_reducible assumption) | (with_reducible exact More.refl _) | (with_reducible refine More.alloc ?_ _) | (with_reducible refine More.more ?_ _ _) | (with_reducible refine More.drewN ?_ _) | (with_reducible refine More.drew ?_)))⟩

set_option maxHeartbeats 4000000 in
theorem bucketTwice_walk (a0_0 a0_1 : Int) (a1_0 a1_1 : Int) (a2 : Option Addr) (len2 cap2 : Nat) (z2 : List Int) (w : World) (b0_0 : InI64 a0_0) (b0_1 : InI64 a0_1) (b1_0 : InI64 a1_0) (b1_1 : InI64 a1_1) (f2 : IsFlat w a2 len2 cap2 1 z2) (r2 : cap2 * 8 ≤ 140737488351232) :
    Calls Try.prog 7 #[.agg #[.int .i64 a0_0, .int .i64 a0_1], .agg #[.int .i64 a1_0, .int .i64 a1_1], .slice a2 len2 cap2] w fun e w' => e = .returned (.bool true) ∧ Below w.heap.size w w' := by
  have hle := f2.le
  have hs := f2.row
  generalize (fun k => z2.getD k 0) = x at hs
  clear f2
  by_cases hr : bRight a0_0 a0_1 len2 x = true
  · have RA := bRight_iff.1 hr
    have hn := RA.2.2.1
    have E0 := Lib.hid hr
    clear hr
    by_cases hb : bRight a1_0 a1_1 0 (fun _ => 0) = true
    · have RB0 := bRight_iff.1 hb
      have E1 := Lib.hid hb
      clear hb
      have RB : BRight a1_0 a1_1 len2 x := ⟨RB0.1, RB0.2.1, RA.2.2⟩
      have RAN := RA.now
      have RBN := RB.now
      have RAB : BRight a0_0 a0_1 len2 (bkNow a1_0 a1_1 x) := ⟨RA.1, RA.2.1, RBN.2.2⟩
      have RBA : BRight a1_0 a1_1 len2 (bkNow a0_0 a0_1 x) := ⟨RB.1, RB.2.1, RAN.2.2⟩
      have tw := bk_twice RA.1.1 RA.2.1.1 RB.1.1 RB.2.1.1 (x := x) (n := len2) (fun k hk => (RA.2.2.2 k hk).1)
      have E2 := Lib.hid (eqLit (n := len2) (m := len2) rfl tw)
      have E3 := Lib.hid (eqLit (n := len2) (m := len2) rfl (bk_once RA.1.1 RA.2.1.1 (x := x) (n := len2) (fun k hk => (RA.2.2.2 k hk).1)))
      have RX : BRight a0_0 a0_1 len2 (bkNow a0_0 a0_1 (bkNow a1_0 a1_1 x)) := RAB.now
      have RX2 : BRight a1_0 a1_1 len2 (bkNow a0_0 a0_1 (bkNow a1_0 a1_1 x)) := ⟨RB.1, RB.2.1, RX.2.2⟩
      have E4 := Lib.hid (bKept_true RAB.kept)
      have E5 := Lib.hid (bKept_true (RBA.kept.congr (fun k hk => (tw k hk).symm)))
      have HA := Lib.hid RA
      have HB := Lib.hid RB
      have HAB := Lib.hid RAB
      have HBA := Lib.hid RBA
      have HAN := Lib.hid RAN
      have HX := Lib.hid RX
      have HX2 := Lib.hid RX2
      clear tw RA RB RAN RBN RAB RBA RX RX2 RB0
      go_enter Try.func7, Try.ntmps7
      go_wp2_with (go_at_call 37; refine (bucket_alive _).mono ?_; rintro e w' ⟨rfl, os, n_, rfl⟩)
      refine (bright_any a0_0 a0_1 _ len2 _ (x) _ (by repeat (first | (with_reducible assumption) | (with_reducible exact Row.nil) | (with_reducible apply Row.drewN) | (with_reducible apply Row.drew) | (with_reducible apply Row.more) | (with_reducible apply Row.alloc))) (by omega)).mono ?_
      rintro e w1 ⟨rfl, os_1, d_1, rfl⟩
      rw [E0.out]
      go_wp2_with fail
      refine (bright_any a1_0 a1_1 none 0 0 (fun _ => 0) _ Row.nil (by omega)).mono ?_
      rintro e w1 ⟨rfl, os_2, d_2, rfl⟩
      rw [E1.out]
      go_wp2_with fail
      have hk3_0 : Blk (((((w.alloc (.cells #[.int .i64 a0_0, .int .i64 a0_1] 35)).alloc (.cells #[.int .i64 a1_0, .int .i64 a1_1] 35)).more os n_).more os_1 d_1).more os_2 d_2) w.heap.size 35 #[.int .i64 a0_0, .int .i64 a0_1] := (by repeat (first | (with_reducible assumption) | ((with_reducible refine Blk.new' ?_); (simp [Nat.add_assoc]; done)) | (with_reducible refine Blk.alloc ?_ _) | (with_reducible refine Blk.more ?_ _ _) | (with_reducible refine Blk.drew ?_) | (with_reducible refine Blk.drewN ?_ _)))
      have hk3_1 : Blk (((((w.alloc (.cells #[.int .i64 a0_0, .int .i64 a0_1] 35)).alloc (.cells #[.int .i64 a1_0, .int .i64 a1_1] 35)).more os n_).more os_1 d_1).more os_2 d_2) (w.heap.size + 1) 35 #[.int .i64 a1_0, .int .i64 a1_1] := (by repeat (first | (with_reducible assumption) | ((with_reducible refine Blk.new' ?_); (simp [Nat.add_assoc]; done)) | (with_reducible refine Blk.alloc ?_ _) | (with_reducible refine Blk.more ?_ _ _) | (with_reducible refine Blk.drew ?_) | (with_reducible refine Blk.drewN ?_ _)))
      have hm_3 : More w (((((w.alloc (.cells #[.int .i64 a0_0, .int .i64 a0_1] 35)).alloc (.cells #[.int .i64 a1_0, .int .i64 a1_1] 35)).more os n_).more os_1 d_1).more os_2 d_2) := (by repeat (first | (with_reducible assumption) | (with_reducible exact More.refl _) | (with_reducible refine More.alloc ?_ _) | (with_reducible refine More.more ?_ _ _) | (with_reducible refine More.drewN ?_ _) | (with_reducible refine More.drew ?_)))
      have hw3_0 : Row (((((w.alloc (.cells #[.int .i64 a0_0, .int .i64 a0_1] 35)).alloc (.cells #[.int .i64 a1_0, .int .i64 a1_1] 35)).more os n_).more os_1 d_1).more os_2 d_2) a2 len2 (x) := (by repeat (first | (with_reducible assumption) | (with_reducible exact Row.nil) | (with_reducible apply Row.drewN) | (with_reducible apply Row.drew) | (with_reducible apply Row.more) | (with_reducible apply Row.alloc)))
      have hg3_0 := hk3_0.lt
      have hp3_0 : (((((w.alloc (.cells #[.int .i64 a0_0, .int .i64 a0_1] 35)).alloc (.cells #[.int .i64 a1_0, .int .i64 a1_1] 35)).more os n_).more os_1 d_1).more os_2 d_2).cell? ⟨w.heap.size, 0, none⟩ = some (.int .i64 a0_0) := hk3_0.cell 0
      have hq3_0 : (((((w.alloc (.cells #[.int .i64 a0_0, .int .i64 a0_1] 35)).alloc (.cells #[.int .i64 a1_0, .int .i64 a1_1] 35)).more os n_).more os_1 d_1).more os_2 d_2).cell? ⟨w.heap.size, 1, none⟩ = some (.int .i64 a0_1) := hk3_0.cell 1
      have hg3_1 := hk3_1.lt
      have hp3_1 : (((((w.alloc (.cells #[.int .i64 a0_0, .int .i64 a0_1] 35)).alloc (.cells #[.int .i64 a1_0, .int .i64 a1_1] 35)).more os n_).more os_1 d_1).more os_2 d_2).cell? ⟨(w.heap.size + 1), 0, none⟩ = some (.int .i64 a1_0) := hk3_1.cell 0
      have hq3_1 : (((((w.alloc (.cells #[.int .i64 a0_0, .int .i64 a0_1] 35)).alloc (.cells #[.int .i64 a1_0, .int .i64 a1_1] 35)).more os n_).more os_1 d_1).more os_2 d_2).cell? ⟨(w.heap.size + 1), 1, none⟩ = some (.int .i64 a1_1) := hk3_1.cell 1
      generalize (((((w.alloc (.cells #[.int .i64 a0_0, .int .i64 a0_1] 35)).alloc (.cells #[.int .i64 a1_0, .int .i64 a1_1] 35)).more os n_).more os_1 d_1).more os_2 d_2) = wb_3 at *
      have keep_3 : ∀ w', More wb_3 w' → w'.cell? ⟨w.heap.size, 0, none⟩ = some (.int .i64 a0_0) ∧ w'.cell? ⟨w.heap.size, 1, none⟩ = some (.int .i64 a0_1) ∧ w'.cell? ⟨(w.heap.size + 1), 0, none⟩ = some (.int .i64 a1_0) ∧ w'.cell? ⟨(w.heap.size + 1), 1, none⟩ = some (.int .i64 a1_1) ∧ More wb_3 w' := fun w' h => ⟨(h.cell hg3_0).trans hp3_0, (h.cell hg3_0).trans hq3_0, (h.cell hg3_1).trans hp3_1, (h.cell hg3_1).trans hq3_1, h⟩
      first | (go_region_held (fun w' => w'.cell? ⟨w.heap.size, 0, none⟩ = some (.int .i64 a0_0) ∧ w'.cell? ⟨w.heap.size, 1, none⟩ = some (.int .i64 a0_1) ∧ w'.cell? ⟨(w.heap.size + 1), 0, none⟩ = some (.int .i64 a1_0) ∧ w'.cell? ⟨(w.heap.size + 1), 1, none⟩ = some (.int .i64 a1_1) ∧ More wb_3 w') (exact keep_3 _ (by repeat (first | (with_reducible assumption) | (with_reducible exact More.refl _) | (with_reducible refine More.alloc ?_ _) | (with_reducible refine More.more ?_ _ _) | (with_reducible refine More.drewN ?_ _) | (with_reducible refine More.drew ?_)))) (first
          | (go_at_call_of 39 a1_0; refine (bpass_any a1_0 a1_1 _ len2 _ (x) _ (by repeat (first | (with_reducible assumption) | (with_reducible exact Row.nil) | (with_reducible apply Row.drewN) | (with_reducible apply Row.drew) | (with_reducible apply Row.more) | (with_reducible apply Row.alloc))) HB.out).mono ?_; rintro e w' ⟨a_b, c_b, rfl, hc_b, hr_b, hb_b⟩; obtain ⟨os_b, d_b, rfl⟩ := More.of_below hb_b; clear hb_b; replace hr_b : Row (wb_3.more os_b d_b) a_b len2 ((bkNow a1_0 a1_1 x)) := hr_b)
          | (go_at_call_of 39 a0_0; refine (bpass_any a0_0 a0_1 _ len2 _ ((bkNow a1_0 a1_1 x)) _ (by repeat (first | (with_reducible assumption) | (with_reducible exact Row.nil) | (with_reducible apply Row.drewN) | (with_reducible apply Row.drew) | (with_reducible apply Row.more) | (with_reducible apply Row.alloc))) HAB.out).mono ?_; rintro e w' ⟨a_x, c_x, rfl, hc_x, hr_x, hb_x⟩; obtain ⟨os_x, d_x, rfl⟩ := More.of_below hb_x; clear hb_x))) | fail
      all_goals
        go_wp2_with fail
        have hk4_0 : Blk ((wb_3.more os_b d_b).more os_x d_x) w.heap.size 35 #[.int .i64 a0_0, .int .i64 a0_1] := (by repeat (first | (with_reducible assumption) | ((with_reducible refine Blk.new' ?_); (simp [Nat.add_assoc]; done)) | (with_reducible refine Blk.alloc ?_ _) | (with_reducible refine Blk.more ?_ _ _) | (with_reducible refine Blk.drew ?_) | (with_reducible refine Blk.drewN ?_ _)))
        have hk4_1 : Blk ((wb_3.more os_b d_b).more os_x d_x) (w.heap.size + 1) 35 #[.int .i64 a1_0, .int .i64 a1_1] := (by repeat (first | (with_reducible assumption) | ((with_reducible refine Blk.new' ?_); (simp [Nat.add_assoc]; done)) | (with_reducible refine Blk.alloc ?_ _) | (with_reducible refine Blk.more ?_ _ _) | (with_reducible refine Blk.drew ?_) | (with_reducible refine Blk.drewN ?_ _)))
        have hm_4 : More w ((wb_3.more os_b d_b).more os_x d_x) := (by repeat (first | (with_reducible assumption) | (with_reducible exact More.refl _) | (with_reducible refine More.alloc ?_ _) | (with_reducible refine More.more ?_ _ _) | (with_reducible refine More.drewN ?_ _) | (with_reducible refine More.drew ?_)))
        have hw4_0 : Row ((wb_3.more os_b d_b).more os_x d_x) a2 len2 (x) := (by repeat (first | (with_reducible assumption) | (with_reducible exact Row.nil) | (with_reducible apply Row.drewN) | (with_reducible apply Row.drew) | (with_reducible apply Row.more) | (with_reducible apply Row.alloc)))
        have hw4_1 : Row ((wb_3.more os_b d_b).more os_x d_x) a_x len2 ((bkNow a0_0 a0_1 (bkNow a1_0 a1_1 x))) := (by repeat (first | (with_reducible assumption) | (with_reducible exact Row.nil) | (with_reducible apply Row.drewN) | (with_reducible apply Row.drew) | (with_reducible apply Row.more) | (with_reducible apply Row.alloc)))
        have hg4_0 := hk4_0.lt
        have hp4_0 : ((wb_3.more os_b d_b).more os_x d_x).cell? ⟨w.heap.size, 0, none⟩ = some (.int .i64 a0_0) := hk4_0.cell 0
        have hq4_0 : ((wb_3.more os_b d_b).more os_x d_x).cell? ⟨w.heap.size, 1, none⟩ = some (.int .i64 a0_1) := hk4_0.cell 1
        have hg4_1 := hk4_1.lt
        have hp4_1 : ((wb_3.more os_b d_b).more os_x d_x).cell? ⟨(w.heap.size + 1), 0, none⟩ = some (.int .i64 a1_0) := hk4_1.cell 0
        have hq4_1 : ((wb_3.more os_b d_b).more os_x d_x).cell? ⟨(w.heap.size + 1), 1, none⟩ = some (.int .i64 a1_1) := hk4_1.cell 1
        generalize ((wb_3.more os_b d_b).more os_x d_x) = wb_4 at *
        have keep_4 : ∀ w', More wb_4 w' → w'.cell? ⟨w.heap.size, 0, none⟩ = some (.int .i64 a0_0) ∧ w'.cell? ⟨w.heap.size, 1, none⟩ = some (.int .i64 a0_1) ∧ w'.cell? ⟨(w.heap.size + 1), 0, none⟩ = some (.int .i64 a1_0) ∧ w'.cell? ⟨(w.heap.size + 1), 1, none⟩ = some (.int .i64 a1_1) ∧ More wb_4 w' := fun w' h => ⟨(h.cell hg4_0).trans hp4_0, (h.cell hg4_0).trans hq4_0, (h.cell hg4_1).trans hp4_1, (h.cell hg4_1).trans hq4_1, h⟩
        first | (go_region_held (fun w' => w'.cell? ⟨w.heap.size, 0, none⟩ = some (.int .i64 a0_0) ∧ w'.cell? ⟨w.heap.size, 1, none⟩ = some (.int .i64 a0_1) ∧ w'.cell? ⟨(w.heap.size + 1), 0, none⟩ = some (.int .i64 a1_0) ∧ w'.cell? ⟨(w.heap.size + 1), 1, none⟩ = some (.int .i64 a1_1) ∧ More wb_4 w') (exact keep_4 _ (by repeat (first | (with_reducible assumption) | (with_reducible exact More.refl _) | (with_reducible refine More.alloc ?_ _) | (with_reducible refine More.more ?_ _ _) | (with_reducible refine More.drewN ?_ _) | (with_reducible refine More.drew ?_)))) (first
            | (go_at_call_of 39 a0_0; go_at_call_of 39 a2; refine (bpass_any a0_0 a0_1 _ len2 _ (x) _ (by repeat (first | (with_reducible assumption) | (with_reducible exact Row.nil) | (with_reducible apply Row.drewN) | (with_reducible apply Row.drew) | (with_reducible apply Row.more) | (with_reducible apply Row.alloc))) HA.out).mono ?_; rintro e w' ⟨a_p, c_p, rfl, hc_p, hr_p, hb_p⟩; obtain ⟨os_p, d_p, rfl⟩ := More.of_below hb_p; clear hb_p; replace hr_p : Row (wb_4.more os_p d_p) a_p len2 ((bkNow a0_0 a0_1 x)) := hr_p)
            | (go_at_call_of 39 a0_0; go_at_call_of 39 a2; refine (bpass_any a0_0 a0_1 _ len2 _ (x) _ (by repeat (first | (with_reducible assumption) | (with_reducible exact Row.nil) | (with_reducible apply Row.drewN) | (with_reducible apply Row.drew) | (with_reducible apply Row.more) | (with_reducible apply Row.alloc))) HA.out).mono ?_; rintro e w' ⟨a_p2, c_p2, rfl, hc_p2, hr_p2, hb_p2⟩; obtain ⟨os_p2, d_p2, rfl⟩ := More.of_below hb_p2; clear hb_p2)
            | (go_at_call_of 39 a1_0; refine (bpass_any a1_0 a1_1 _ len2 _ ((bkNow a0_0 a0_1 x)) _ (by repeat (first | (with_reducible assumption) | (with_reducible exact Row.nil) | (with_reducible apply Row.drewN) | (with_reducible apply Row.drew) | (with_reducible apply Row.more) | (with_reducible apply Row.alloc))) HBA.out).mono ?_; rintro e w' ⟨a_q, c_q, rfl, hc_q, hr_q, hb_q⟩; obtain ⟨os_q, d_q, rfl⟩ := More.of_below hb_q; clear hb_q)
            | (go_at_call_of 39 a0_0; refine (bpass_any a0_0 a0_1 _ len2 _ ((bkNow a0_0 a0_1 x)) _ (by repeat (first | (with_reducible assumption) | (with_reducible exact Row.nil) | (with_reducible apply Row.drewN) | (with_reducible apply Row.drew) | (with_reducible apply Row.more) | (with_reducible apply Row.alloc))) HAN.out).mono ?_; rintro e w' ⟨a_r, c_r, rfl, hc_r, hr_r, hb_r⟩; obtain ⟨os_r, d_r, rfl⟩ := More.of_below hb_r; clear hb_r)
            | (go_at_call_of 32 a_x; refine (equal_any _ _ len2 len2 _ _ ((bkNow a0_0 a0_1 (bkNow a1_0 a1_1 x))) ((bkNow a1_0 a1_1 (bkNow a0_0 a0_1 x))) _ (by repeat (first | (with_reducible assumption) | (with_reducible exact Row.nil) | (with_reducible apply Row.drewN) | (with_reducible apply Row.drew) | (with_reducible apply Row.more) | (with_reducible apply Row.alloc))) (by repeat (first | (with_reducible assumption) | (with_reducible exact Row.nil) | (with_reducible apply Row.drewN) | (with_reducible apply Row.drew) | (with_reducible apply Row.more) | (with_reducible apply Row.alloc))) (by omega) (by omega)).mono ?_; rintro e w' ⟨rfl, os_s, d_s, rfl⟩; rw [E2.out])
            | (go_at_call_of 32 a_r; refine (equal_any _ _ len2 len2 _ _ ((bkNow a0_0 a0_1 (bkNow a0_0 a0_1 x))) ((bkNow a0_0 a0_1 x)) _ (by repeat (first | (with_reducible assumption) | (with_reducible exact Row.nil) | (with_reducible apply Row.drewN) | (with_reducible apply Row.drew) | (with_reducible apply Row.more) | (with_reducible apply Row.alloc))) (by repeat (first | (with_reducible assumption) | (with_reducible exact Row.nil) | (with_reducible apply Row.drewN) | (with_reducible apply Row.drew) | (with_reducible apply Row.more) | (with_reducible apply Row.alloc))) (by omega) (by omega)).mono ?_; rintro e w' ⟨rfl, os_t, d_t, rfl⟩; rw [E3.out])
            | (go_at_call_of 40 a0_0; refine (bkeeps_any a0_0 a0_1 _ len2 _ ((bkNow a0_0 a0_1 (bkNow a1_0 a1_1 x))) _ (by repeat (first | (with_reducible assumption) | (with_reducible exact Row.nil) | (with_reducible apply Row.drewN) | (with_reducible apply Row.drew) | (with_reducible apply Row.more) | (with_reducible apply Row.alloc))) HX.out).mono ?_; rintro e w' ⟨rfl, os_u, d_u, rfl⟩; rw [E4.out])
            | (go_at_call_of 40 a1_0; refine (bkeeps_any a1_0 a1_1 _ len2 _ ((bkNow a0_0 a0_1 (bkNow a1_0 a1_1 x))) _ (by repeat (first | (with_reducible assumption) | (with_reducible exact Row.nil) | (with_reducible apply Row.drewN) | (with_reducible apply Row.drew) | (with_reducible apply Row.more) | (with_reducible apply Row.alloc))) HX2.out).mono ?_; rintro e w' ⟨rfl, os_v, d_v, rfl⟩; rw [E5.out]))) | fail
        all_goals
          go_wp2
          go_ret
          exact ⟨rfl, More.below (by repeat (first | (with_reducible assumption) | (with_reducible exact More.refl _) | (with_reducible refine More.alloc ?_ _) | (with_reducible refine More.more ?_ _ _) | (with_reducible refine More.drewN ?_ _) | (with_reducible refine More.drew ?_)))⟩
    · have hb' : bRight a1_0 a1_1 0 (fun _ => 0) = false := by simpa using hb
      have E1 := Lib.hid hb'
      clear hb hb' RA
      go_enter Try.func7, Try.ntmps7
      go_wp2_with (go_at_call 37; refine (bucket_alive _).mono ?_; rintro e w' ⟨rfl, os, n_, rfl⟩)
      refine (bright_any a0_0 a0_1 _ len2 _ (x) _ (by repeat (first | (with_reducible assumption) | (with_reducible exact Row.nil) | (with_reducible apply Row.drewN) | (with_reducible apply Row.drew) | (with_reducible apply Row.more) | (with_reducible apply Row.alloc))) (by omega)).mono ?_
      rintro e w1 ⟨rfl, os_1, d_1, rfl⟩
      rw [E0.out]
      go_wp2_with fail
      refine (bright_any a1_0 a1_1 none 0 0 (fun _ => 0) _ Row.nil (by omega)).mono ?_
      rintro e w1 ⟨rfl, os_2, d_2, rfl⟩
      rw [E1.out]
      go_wp2
      go_ret
      exact ⟨rfl, More.below (by repeat (first | (with_reducible assumption) | (with_reducible exact More.refl _) | (with_reducible refine More.alloc ?_ _) | (with_reducible refine More.more ?_ _ _) | (with_reducible refine More.drewN ?_ _) | (with_reducible refine More.drew ?_)))⟩
  · have hr' : bRight a0_0 a0_1 len2 x = false := by simpa using hr
    have E0 := Lib.hid hr'
    clear hr hr'
    go_enter Try.func7, Try.ntmps7
    go_wp2_with (go_at_call 37; refine (bucket_alive _).mono ?_; rintro e w' ⟨rfl, os, n_, rfl⟩)
    refine (bright_any a0_0 a0_1 _ len2 _ (x) _ (by repeat (first | (with_reducible assumption) | (with_reducible exact Row.nil) | (with_reducible apply Row.drewN) | (with_reducible apply Row.drew) | (with_reducible apply Row.more) | (with_reducible apply Row.alloc))) (by omega)).mono ?_
    rintro e w1 ⟨rfl, os_1, d_1, rfl⟩
    rw [E0.out]
    go_wp2
    go_ret
    exact ⟨rfl, More.below (by repeat (first | (with_reducible assumption) | (with_reducible exact More.refl _) | (with_reducible refine More.alloc ?_ _) | (with_reducible refine More.more ?_ _ _) | (with_reducible refine More.drewN ?_ _) | (with_reducible refine More.drew ?_)))⟩
end Go.Proofs.Ytdilmnpoicdkhaa
