/- BucketLine: for every input the law returns true. Conditions: none. -/
import Derived.Test.YtdilmnpoicdkhaaBkLaws
set_option linter.unusedVariables false
set_option linter.unusedSimpArgs false
namespace Go.Proofs.Ytdilmnpoicdkhaa
open Go.RowKit Go.Tide
set_option linter.unusedVariables false
set_option linter.unusedSimpArgs false

set_option maxHeartbeats 4000000 in
theorem bucketLine_walk (a0_0 a0_1 : Int) (a1 : Int) (w : World) (b0_0 : InI64 a0_0) (b0_1 : InI64 a0_1) (b1 : InI64 a1) :
    Calls Try.prog 22 #[.agg #[.int .i64 a0_0, .int .i64 a0_1], .int .i64 a1] w fun e w' => e = .returned (.bool true) ∧ Below w.heap.size w w' := by
  by_cases hr : bRight a0_0 a0_1 0 (fun _ => 0) = true
  · have R := bRight_iff.1 hr
    clear hr
    have h0 := R.1
    have h1 := R.2.1
    obtain ⟨k, hk⟩ : ∃ k : Nat, (k : Int) = min (max a1 0) 300 := ⟨(min (max a1 0) 300).toNat, by omega⟩
    have hk3 : k ≤ 300 := by omega
    have hP := line_Parts h0.1 h1 hk3
    have hfit : ∀ t, t < k → fit (lineOf a0_0 a0_1 t) = lineOf a0_0 a0_1 t := fun t ht => by
      have := line_bounds h0.1 h1.1 h1.2 t (by omega)
      exact fit_of this.1 (by omega)
    have E1 := Lib.hid (parts_iff.2 hP)
    have E3 := Lib.hid (eqLit (n := k) (m := k) rfl (cl_still hP rfl hfit))
    rcases Nat.eq_zero_or_pos k with hk0 | hk0
    · subst hk0
      clear hP hfit R
      go_enter Try.func22, Try.ntmps22
      go_wp2_with (go_at_call 37; refine (bucket_alive _).mono ?_; rintro e w' ⟨rfl, os, n_, rfl⟩)
      refine (bline_int a0_0 a0_1 a1 0 _ h0 h1 hk).mono ?_
      rintro e w1 ⟨a_1, c_1, rfl, hc_1, hr_1, hb_1⟩
      obtain ⟨os_1, d_1, rfl⟩ := More.of_below hb_1
      go_wp2_with fail
      refine (mparts_any _ 0 _ (lineOf a0_0 a0_1) _ (by repeat (first | (with_reducible assumption) | (with_reducible exact Row.nil) | (with_reducible apply Row.drewN) | (with_reducible apply Row.drew) | (with_reducible apply Row.more) | (with_reducible apply Row.alloc))) (by omega)).mono ?_
      rintro e w1 ⟨rfl, os_2, d_2, rfl⟩
      rw [E1.out]
      go_wp2_with fail
      refine (close_any _ 0 _ (lineOf a0_0 a0_1) _ (by repeat (first | (with_reducible assumption) | (with_reducible exact Row.nil) | (with_reducible apply Row.drewN) | (with_reducible apply Row.drew) | (with_reducible apply Row.more) | (with_reducible apply Row.alloc))) (by omega)).mono ?_
      rintro e w1 ⟨a_3, c_3, rfl, hc_3, hr_3, hb_3⟩
      obtain ⟨os_3, d_3, rfl⟩ := More.of_below hb_3
      go_wp2_with fail
      refine (equal_any _ _ 0 0 _ _ (clOf (lineOf a0_0 a0_1)) (lineOf a0_0 a0_1) _ (by repeat (first | (with_reducible assumption) | (with_reducible exact Row.nil) | (with_reducible apply Row.drewN) | (with_reducible apply Row.drew) | (with_reducible apply Row.more) | (with_reducible apply Row.alloc))) (by repeat (first | (with_reducible assumption) | (with_reducible exact Row.nil) | (with_reducible apply Row.drewN) | (with_reducible apply Row.drew) | (with_reducible apply Row.more) | (with_reducible apply Row.alloc))) (by omega) (by omega)).mono ?_
      rintro e w1 ⟨rfl, os_4, d_4, rfl⟩
      rw [E3.out]
      go_wp2
      go_ret
      exact ⟨rfl, More.below (by repeat (first | (with_reducible assumption) | (with_reducible exact More.refl _) | (with_reducible refine More.alloc ?_ _) | (with_reducible refine More.more ?_ _ _) | (with_reducible refine More.drewN ?_ _) | (with_reducible refine More.drew ?_)))⟩
    · have E2 := Lib.hid (cRight_iff.2 (⟨hk0, rfl, line_sorted h0.1 h1.1 k, hfit (k - 1) (by omega)⟩ : CRight k (lineOf a0_0 a0_1)))
      have hkb : ((k : Int) == 0) = false := by simp; omega
      clear hP hfit R
      go_enter Try.func22, Try.ntmps22
      go_wp2_with (go_at_call 37; refine (bucket_alive _).mono ?_; rintro e w' ⟨rfl, os, n_, rfl⟩)
      refine (bline_int a0_0 a0_1 a1 k _ h0 h1 hk).mono ?_
      rintro e w1 ⟨a_1, c_1, rfl, hc_1, hr_1, hb_1⟩
      obtain ⟨os_1, d_1, rfl⟩ := More.of_below hb_1
      go_wp2_with fail
      refine (mparts_any _ k _ (lineOf a0_0 a0_1) _ (by repeat (first | (with_reducible assumption) | (with_reducible exact Row.nil) | (with_reducible apply Row.drewN) | (with_reducible apply Row.drew) | (with_reducible apply Row.more) | (with_reducible apply Row.alloc))) (by omega)).mono ?_
      rintro e w1 ⟨rfl, os_2, d_2, rfl⟩
      rw [E1.out]
      go_wp2_with fail
      refine (cright_any _ k _ (lineOf a0_0 a0_1) _ (by repeat (first | (with_reducible assumption) | (with_reducible exact Row.nil) | (with_reducible apply Row.drewN) | (with_reducible apply Row.drew) | (with_reducible apply Row.more) | (with_reducible apply Row.alloc))) (by omega)).mono ?_
      rintro e w1 ⟨rfl, os_3, d_3, rfl⟩
      rw [E2.out]
      go_wp2_with fail
      refine (close_any _ k _ (lineOf a0_0 a0_1) _ (by repeat (first | (with_reducible assumption) | (with_reducible exact Row.nil) | (with_reducible apply Row.drewN) | (with_reducible apply Row.drew) | (with_reducible apply Row.more) | (with_reducible apply Row.alloc))) (by omega)).mono ?_
      rintro e w1 ⟨a_4, c_4, rfl, hc_4, hr_4, hb_4⟩
      obtain ⟨os_4, d_4, rfl⟩ := More.of_below hb_4
      go_wp2_with fail
      refine (equal_any _ _ k k _ _ (clOf (lineOf a0_0 a0_1)) (lineOf a0_0 a0_1) _ (by repeat (first | (with_reducible assumption) | (with_reducible exact Row.nil) | (with_reducible apply Row.drewN) | (with_reducible apply Row.drew) | (with_reducible apply Row.more) | (with_reducible apply Row.alloc))) (by repeat (first | (with_reducible assumption) | (with_reducible exact Row.nil) | (with_reducible apply Row.drewN) | (with_reducible apply Row.drew) | (with_reducible apply Row.more) | (with_reducible apply Row.alloc))) (by omega) (by omega)).mono ?_
      rintro e w1 ⟨rfl, os_5, d_5, rfl⟩
      rw [E3.out]
      go_wp2
      go_ret
      exact ⟨rfl, More.below (by repeat (first | (with_reducible assumption) | (with_reducible exact More.refl _) | (with_reducible refine More.alloc ?_ _) | (with_reducible refine More.more ?_ _ _) | (with_reducible refine More.drewN ?_ _) | (with_reducible refine More.drew ?_)))⟩
  · have hr' : bRight a0_0 a0_1 0 (fun _ => 0) = false := by simpa using hr
    have E0 := Lib.hid hr'
    have hP0 : Parts 0 (fun _ => 0) := .inl rfl
    have E1 := Lib.hid (parts_iff.2 hP0)
    have E3 := Lib.hid (eqLit (n := 0) (m := 0) (f := clOf (fun _ => 0)) (g := fun _ => 0) rfl (fun k hk => by omega))
    clear hr hr'
    go_enter Try.func22, Try.ntmps22
    go_wp2_with (go_at_call 37; refine (bucket_alive _).mono ?_; rintro e w' ⟨rfl, os, n_, rfl⟩)
    refine (bline_none a0_0 a0_1 a1 _ E0.out).mono ?_
    rintro e w1 ⟨rfl, os_1, d_1, rfl⟩
    go_wp2_with fail
    refine (mparts_any none 0 0 (fun _ => 0) _ Row.nil (by omega)).mono ?_
    rintro e w1 ⟨rfl, os_2, d_2, rfl⟩
    rw [E1.out]
    go_wp2_with fail
    refine (close_any none 0 0 (fun _ => 0) _ Row.nil (by omega)).mono ?_
    rintro e w1 ⟨a_3, c_3, rfl, hc_3, hr_3, hb_3⟩
    obtain ⟨os_3, d_3, rfl⟩ := More.of_below hb_3
    go_wp2_with fail
    refine (equal_any _ _ 0 0 _ _ (clOf (fun _ => 0)) (fun _ => 0) _ (by repeat (first | (with_reducible assumption) | (with_reducible exact Row.nil) | (with_reducible apply Row.drewN) | (with_reducible apply Row.drew) | (with_reducible apply Row.more) | (with_reducible apply Row.alloc))) Row.nil (by omega) (by omega)).mono ?_
    rintro e w1 ⟨rfl, os_4, d_4, rfl⟩
    rw [E3.out]
    go_wp2
    go_ret
    exact ⟨rfl, More.below (by repeat (first | (with_reducible assumption) | (with_reducible exact More.refl _) | (with_reducible refine More.alloc ?_ _) | (with_reducible refine More.more ?_ _ _) | (with_reducible refine More.drewN ?_ _) | (with_reducible refine More.drew ?_)))⟩
end Go.Proofs.Ytdilmnpoicdkhaa
