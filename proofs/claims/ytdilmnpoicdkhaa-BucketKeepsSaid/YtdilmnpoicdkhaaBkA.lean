/- BucketKeeps, BucketConv: for every input the law returns true. Conditions: none. -/
import Derived.Test.YtdilmnpoicdkhaaBkLaws
set_option linter.unusedVariables false
set_option linter.unusedSimpArgs false
namespace Go.Proofs.Ytdilmnpoicdkhaa
open Go.RowKit Go.Tide
set_option linter.unusedVariables false
set_option linter.unusedSimpArgs false

set_option maxHeartbeats 4000000 in
theorem bucketKeeps_walk (a0_0 a0_1 : Int) (a1 : Option Addr) (len1 cap1 : Nat) (z1 : List Int) (w : World) (b0_0 : InI64 a0_0) (b0_1 : InI64 a0_1) (f1 : IsFlat w a1 len1 cap1 1 z1) (r1 : cap1 * 8 ≤ 140737488351232) :
    Calls Try.prog 14 #[.agg #[.int .i64 a0_0, .int .i64 a0_1], .slice a1 len1 cap1] w fun e w' => e = .returned (.bool true) ∧ Below w.heap.size w w' := by
  have hle := f1.le
  have hs := f1.row
  generalize (fun k => z1.getD k 0) = x at hs
  clear f1
  by_cases hr : bRight a0_0 a0_1 len1 x = true
  · have R := bRight_iff.1 hr
    have RN := R.now
    have hn := R.2.2.1
    have E0 := Lib.hid hr
    clear hr
    have E1 := Lib.hid (bKept_true R.kept)
    have E2 := Lib.hid (cWithin_true (within_sums RN R (fun t ht => bk_within R.1.1 R.2.1.1 (fun k hk => (R.2.2.2 k hk).1) t ht)))
    have h3 := bk_equal R
    obtain ⟨q, hq⟩ : ∃ q, Hid (bKept a0_0 a0_1 len1 x = q) := ⟨_, rfl⟩
    rw [hq.out] at h3
    have E3 := Lib.hid h3
    have HR := Lib.hid R
    have HRN := Lib.hid RN
    clear h3 R RN
    go_enter Try.func14, Try.ntmps14
    go_wp2_with (go_at_call 37; refine (bucket_alive _).mono ?_; rintro e w' ⟨rfl, os, n_, rfl⟩)
    refine (bpass_any a0_0 a0_1 _ len1 _ (x) _ (by repeat (first | (with_reducible assumption) | (with_reducible exact Row.nil) | (with_reducible apply Row.drewN) | (with_reducible apply Row.drew) | (with_reducible apply Row.more) | (with_reducible apply Row.alloc))) HR.out).mono ?_
    rintro e w1 ⟨a_1, c_1, rfl, hc_1, hr_1, hb_1⟩
    obtain ⟨os_1, d_1, rfl⟩ := More.of_below hb_1
    go_wp2_with fail
    refine (bright_any a0_0 a0_1 _ len1 _ (x) _ (by repeat (first | (with_reducible assumption) | (with_reducible exact Row.nil) | (with_reducible apply Row.drewN) | (with_reducible apply Row.drew) | (with_reducible apply Row.more) | (with_reducible apply Row.alloc))) (by omega)).mono ?_
    rintro e w1 ⟨rfl, os_2, d_2, rfl⟩
    rw [E0.out]
    go_wp2_with fail
    refine (bkeeps_any a0_0 a0_1 _ len1 _ (bkNow a0_0 a0_1 x) _ (by repeat (first | (with_reducible assumption) | (with_reducible exact Row.nil) | (with_reducible apply Row.drewN) | (with_reducible apply Row.drew) | (with_reducible apply Row.more) | (with_reducible apply Row.alloc))) HRN.out).mono ?_
    rintro e w1 ⟨rfl, os_3, d_3, rfl⟩
    rw [E1.out]
    go_wp2_with fail
    refine (cof_any _ len1 _ (bkNow a0_0 a0_1 x) _ (by repeat (first | (with_reducible assumption) | (with_reducible exact Row.nil) | (with_reducible apply Row.drewN) | (with_reducible apply Row.drew) | (with_reducible apply Row.more) | (with_reducible apply Row.alloc))) (by omega)).mono ?_
    rintro e w1 ⟨a_4, c_4, rfl, hc_4, hr_4, hb_4⟩
    obtain ⟨os_4, d_4, rfl⟩ := More.of_below hb_4
    go_wp2_with fail
    refine (cof_any _ len1 _ (x) _ (by repeat (first | (with_reducible assumption) | (with_reducible exact Row.nil) | (with_reducible apply Row.drewN) | (with_reducible apply Row.drew) | (with_reducible apply Row.more) | (with_reducible apply Row.alloc))) (by omega)).mono ?_
    rintro e w1 ⟨a_5, c_5, rfl, hc_5, hr_5, hb_5⟩
    obtain ⟨os_5, d_5, rfl⟩ := More.of_below hb_5
    go_wp2_with fail
    refine (cwithin_any _ _ (len1 + 1) (len1 + 1) _ _ (ofRow (bkNow a0_0 a0_1 x)) (ofRow x) _ (by repeat (first | (with_reducible assumption) | (with_reducible exact Row.nil) | (with_reducible apply Row.drewN) | (with_reducible apply Row.drew) | (with_reducible apply Row.more) | (with_reducible apply Row.alloc))) (by repeat (first | (with_reducible assumption) | (with_reducible exact Row.nil) | (with_reducible apply Row.drewN) | (with_reducible apply Row.drew) | (with_reducible apply Row.more) | (with_reducible apply Row.alloc))) (by omega) (by omega)).mono ?_
    rintro e w1 ⟨rfl, os_6, d_6, rfl⟩
    rw [E2.out]
    go_wp2_with fail
    refine (bkeeps_any a0_0 a0_1 _ len1 _ (x) _ (by repeat (first | (with_reducible assumption) | (with_reducible exact Row.nil) | (with_reducible apply Row.drewN) | (with_reducible apply Row.drew) | (with_reducible apply Row.more) | (with_reducible apply Row.alloc))) HR.out).mono ?_
    rintro e w1 ⟨rfl, os_7, d_7, rfl⟩
    rw [hq.out]
    go_wp2_with fail
    refine (equal_any _ _ len1 len1 _ _ (bkNow a0_0 a0_1 x) (x) _ (by repeat (first | (with_reducible assumption) | (with_reducible exact Row.nil) | (with_reducible apply Row.drewN) | (with_reducible apply Row.drew) | (with_reducible apply Row.more) | (with_reducible apply Row.alloc))) (by repeat (first | (with_reducible assumption) | (with_reducible exact Row.nil) | (with_reducible apply Row.drewN) | (with_reducible apply Row.drew) | (with_reducible apply Row.more) | (with_reducible apply Row.alloc))) (by omega) (by omega)).mono ?_
    rintro e w1 ⟨rfl, os_8, d_8, rfl⟩
    rw [E3.out]
    go_wp2
    go_ret
    exact ⟨rfl, More.below (by repeat (first | (with_reducible assumption) | (with_reducible exact More.refl _) | (with_reducible refine More.alloc ?_ _) | (with_reducible refine More.more ?_ _ _) | (with_reducible refine More.drewN ?_ _) | (with_reducible refine More.drew ?_)))⟩
  · have hr' : bRight a0_0 a0_1 len1 x = false := by simpa using hr
    have E0 := Lib.hid hr'
    clear hr hr'
    go_enter Try.func14, Try.ntmps14
    go_wp2_with (go_at_call 37; refine (bucket_alive _).mono ?_; rintro e w' ⟨rfl, os, n_, rfl⟩)
    refine (bpass_none a0_0 a0_1 _ len1 _ x _ (by repeat (first | (with_reducible assumption) | (with_reducible exact Row.nil) | (with_reducible apply Row.drewN) | (with_reducible apply Row.drew) | (with_reducible apply Row.more) | (with_reducible apply Row.alloc))) (by omega) E0.out).mono ?_
    rintro e w1 ⟨rfl, os_1, d_1, rfl⟩
    go_wp2_with fail
    refine (bright_any a0_0 a0_1 _ len1 _ (x) _ (by repeat (first | (with_reducible assumption) | (with_reducible exact Row.nil) | (with_reducible apply Row.drewN) | (with_reducible apply Row.drew) | (with_reducible apply Row.more) | (with_reducible apply Row.alloc))) (by omega)).mono ?_
    rintro e w1 ⟨rfl, os_2, d_2, rfl⟩
    rw [E0.out]
    go_wp2
    go_ret
    exact ⟨rfl, More.below (by repeat (first | (with_reducible assumption) | (with_reducible exact More.refl _) | (with_reducible refine More.alloc ?_ _) | (with_reducible refine More.more ?_ _ _) | (with_reducible refine More.drewN ?_ _) | (with_reducible refine More.drew ?_)))⟩

set_option maxHeartbeats 4000000 in
theorem bucketConv_walk (a0_0 a0_1 : Int) (a1 : Option Addr) (len1 cap1 : Nat) (z1 : List Int) (w : World) (b0_0 : InI64 a0_0) (b0_1 : InI64 a0_1) (f1 : IsFlat w a1 len1 cap1 1 z1) (r1 : cap1 * 8 ≤ 140737488351232) :
    Calls Try.prog 17 #[.agg #[.int .i64 a0_0, .int .i64 a0_1], .slice a1 len1 cap1] w fun e w' => e = .returned (.bool true) ∧ Below w.heap.size w w' := by
  have hle := f1.le
  have hs := f1.row
  generalize (fun k => z1.getD k 0) = x at hs
  clear f1
  by_cases hr : bRight a0_0 a0_1 len1 x = true
  · have R := bRight_iff.1 hr
    have RN := R.now
    have hn := R.2.2.1
    have E0 := Lib.hid hr
    clear hr
    have E1 := Lib.hid (eqLit (n := len1 + 1) (m := len1 + 1) rfl (bk_conv R))
    have HR := Lib.hid R
    have h0 := R.1
    have h1 := R.2.1
    have kw : IntKind.i64.wrap ((len1 : Int) + 1) = (len1 : Int) + 1 := IntWalk.i64_in _ (by omega)
    clear R RN
    go_enter Try.func17, Try.ntmps17
    go_wp2_with (go_at_call 37; refine (bucket_alive _).mono ?_; rintro e w' ⟨rfl, os, n_, rfl⟩)
    refine (bright_any a0_0 a0_1 _ len1 _ (x) _ (by repeat (first | (with_reducible assumption) | (with_reducible exact Row.nil) | (with_reducible apply Row.drewN) | (with_reducible apply Row.drew) | (with_reducible apply Row.more) | (with_reducible apply Row.alloc))) (by omega)).mono ?_
    rintro e w1 ⟨rfl, os_1, d_1, rfl⟩
    rw [E0.out]
    go_wp2_with fail
    have hk2_0 : Blk (((w.alloc (.cells #[.int .i64 a0_0, .int .i64 a0_1] 35)).more os n_).more os_1 d_1) w.heap.size 35 #[.int .i64 a0_0, .int .i64 a0_1] := (by repeat (first | (with_reducible assumption) | ((with_reducible refine Blk.new' ?_); (simp [Nat.add_assoc]; done)) | (with_reducible refine Blk.alloc ?_ _) | (with_reducible refine Blk.more ?_ _ _) | (with_reducible refine Blk.drew ?_) | (with_reducible refine Blk.drewN ?_ _)))
    have hm_2 : More w (((w.alloc (.cells #[.int .i64 a0_0, .int .i64 a0_1] 35)).more os n_).more os_1 d_1) := (by repeat (first | (with_reducible assumption) | (with_reducible exact More.refl _) | (with_reducible refine More.alloc ?_ _) | (with_reducible refine More.more ?_ _ _) | (with_reducible refine More.drewN ?_ _) | (with_reducible refine More.drew ?_)))
    have hw2_0 : Row (((w.alloc (.cells #[.int .i64 a0_0, .int .i64 a0_1] 35)).more os n_).more os_1 d_1) a1 len1 (x) := (by repeat (first | (with_reducible assumption) | (with_reducible exact Row.nil) | (with_reducible apply Row.drewN) | (with_reducible apply Row.drew) | (with_reducible apply Row.more) | (with_reducible apply Row.alloc)))
    have hg2_0 := hk2_0.lt
    have hp2_0 : (((w.alloc (.cells #[.int .i64 a0_0, .int .i64 a0_1] 35)).more os n_).more os_1 d_1).cell? ⟨w.heap.size, 0, none⟩ = some (.int .i64 a0_0) := hk2_0.cell 0
    have hq2_0 : (((w.alloc (.cells #[.int .i64 a0_0, .int .i64 a0_1] 35)).more os n_).more os_1 d_1).cell? ⟨w.heap.size, 1, none⟩ = some (.int .i64 a0_1) := hk2_0.cell 1
    generalize (((w.alloc (.cells #[.int .i64 a0_0, .int .i64 a0_1] 35)).more os n_).more os_1 d_1) = wb_2 at *
    have keep_2 : ∀ w', More wb_2 w' → w'.cell? ⟨w.heap.size, 0, none⟩ = some (.int .i64 a0_0) ∧ w'.cell? ⟨w.heap.size, 1, none⟩ = some (.int .i64 a0_1) ∧ More wb_2 w' := fun w' h => ⟨(h.cell hg2_0).trans hp2_0, (h.cell hg2_0).trans hq2_0, h⟩
    first | (go_region_held (fun w' => w'.cell? ⟨w.heap.size, 0, none⟩ = some (.int .i64 a0_0) ∧ w'.cell? ⟨w.heap.size, 1, none⟩ = some (.int .i64 a0_1) ∧ More wb_2 w') (exact keep_2 _ (by repeat (first | (with_reducible assumption) | (with_reducible exact More.refl _) | (with_reducible refine More.alloc ?_ _) | (with_reducible refine More.more ?_ _ _) | (with_reducible refine More.drewN ?_ _) | (with_reducible refine More.drew ?_)))) (first
        | (go_at_call_of 39 a0_0; refine (bpass_any a0_0 a0_1 _ len1 _ (x) _ (by repeat (first | (with_reducible assumption) | (with_reducible exact Row.nil) | (with_reducible apply Row.drewN) | (with_reducible apply Row.drew) | (with_reducible apply Row.more) | (with_reducible apply Row.alloc))) HR.out).mono ?_; rintro e w' ⟨a_p, c_p, rfl, hc_p, hr_p, hb_p⟩; obtain ⟨os_p, d_p, rfl⟩ := More.of_below hb_p; clear hb_p; replace hr_p : Row (wb_2.more os_p d_p) a_p len1 (bkNow a0_0 a0_1 x) := hr_p)
        | (go_at_call_of 27 a_p; refine (cof_any _ len1 _ (bkNow a0_0 a0_1 x) _ (by repeat (first | (with_reducible assumption) | (with_reducible exact Row.nil) | (with_reducible apply Row.drewN) | (with_reducible apply Row.drew) | (with_reducible apply Row.more) | (with_reducible apply Row.alloc))) (by omega)).mono ?_; rintro e w' ⟨a_q, c_q, rfl, hc_q, hr_q, hb_q⟩; obtain ⟨os_q, d_q, rfl⟩ := More.of_below hb_q; clear hb_q)
        | (go_at_call_of 27 a1; refine (cof_any _ len1 _ (x) _ (by repeat (first | (with_reducible assumption) | (with_reducible exact Row.nil) | (with_reducible apply Row.drewN) | (with_reducible apply Row.drew) | (with_reducible apply Row.more) | (with_reducible apply Row.alloc))) (by omega)).mono ?_; rintro e w' ⟨a_s, c_s, rfl, hc_s, hr_s, hb_s⟩; obtain ⟨os_s, d_s, rfl⟩ := More.of_below hb_s; clear hb_s)
        | (go_at_call_of 50 a0_0; refine (bline_succ a0_0 a0_1 len1 _ h0 h1 (by omega)).mono ?_; rintro e w' ⟨a_l, c_l, rfl, hc_l, hr_l, hb_l⟩; obtain ⟨os_l, d_l, rfl⟩ := More.of_below hb_l; clear hb_l)
        | (go_at_call_of 44 a_l; refine (conv_any _ _ (len1 + 1) (len1 + 1) _ _ (ofRow x) (lineOf a0_0 a0_1) _ (by repeat (first | (with_reducible assumption) | (with_reducible exact Row.nil) | (with_reducible apply Row.drewN) | (with_reducible apply Row.drew) | (with_reducible apply Row.more) | (with_reducible apply Row.alloc))) (by repeat (first | (with_reducible assumption) | (with_reducible exact Row.nil) | (with_reducible apply Row.drewN) | (with_reducible apply Row.drew) | (with_reducible apply Row.more) | (with_reducible apply Row.alloc))) (by omega) (by omega)).mono ?_; rw [Nat.min_self]; rintro e w' ⟨a_c, c_c, rfl, hc_c, hr_c, hb_c⟩; obtain ⟨os_c, d_c, rfl⟩ := More.of_below hb_c; clear hb_c)
        | (go_at_call_of 32 a_q; refine (equal_any _ _ (len1 + 1) (len1 + 1) _ _ (ofRow (bkNow a0_0 a0_1 x)) (conv (ofRow x) (lineOf a0_0 a0_1)) _ (by repeat (first | (with_reducible assumption) | (with_reducible exact Row.nil) | (with_reducible apply Row.drewN) | (with_reducible apply Row.drew) | (with_reducible apply Row.more) | (with_reducible apply Row.alloc))) (by repeat (first | (with_reducible assumption) | (with_reducible exact Row.nil) | (with_reducible apply Row.drewN) | (with_reducible apply Row.drew) | (with_reducible apply Row.more) | (with_reducible apply Row.alloc))) (by omega) (by omega)).mono ?_; rintro e w' ⟨rfl, os_e, d_e, rfl⟩; rw [E1.out]))) | fail
    all_goals
      go_wp2
      go_ret
      exact ⟨rfl, More.below (by repeat (first | (with_reducible assumption) | (with_reducible exact More.refl _) | (with_reducible refine More.alloc ?_ _) | (with_reducible refine More.more ?_ _ _) | (with_reducible refine More.drewN ?_ _) | (with_reducible refine More.drew ?_)))⟩
  · have hr' : bRight a0_0 a0_1 len1 x = false := by simpa using hr
    have E0 := Lib.hid hr'
    clear hr hr'
    go_enter Try.func17, Try.ntmps17
    go_wp2_with (go_at_call 37; refine (bucket_alive _).mono ?_; rintro e w' ⟨rfl, os, n_, rfl⟩)
    refine (bright_any a0_0 a0_1 _ len1 _ (x) _ (by repeat (first | (with_reducible assumption) | (with_reducible exact Row.nil) | (with_reducible apply Row.drewN) | (with_reducible apply Row.drew) | (with_reducible apply Row.more) | (with_reducible apply Row.alloc))) (by omega)).mono ?_
    rintro e w1 ⟨rfl, os_1, d_1, rfl⟩
    rw [E0.out]
    go_wp2
    go_ret
    exact ⟨rfl, More.below (by repeat (first | (with_reducible assumption) | (with_reducible exact More.refl _) | (with_reducible refine More.alloc ?_ _) | (with_reducible refine More.more ?_ _ _) | (with_reducible refine More.drewN ?_ _) | (with_reducible refine More.drew ?_)))⟩
end Go.Proofs.Ytdilmnpoicdkhaa
