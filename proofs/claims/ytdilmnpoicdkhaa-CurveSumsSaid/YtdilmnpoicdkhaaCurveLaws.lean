/- CurveBack, CurveLower, CurveSums: for every input the laws return true. Conditions: none. -/
import Derived.Test.YtdilmnpoicdkhaaMpLaw
import Derived.Test.YtdilmnpoicdkhaaKit3
import Derived.Test.YtdilmnpoicdkhaaIsFlat
set_option linter.unusedVariables false
set_option linter.unusedSimpArgs false
namespace Go.Proofs.Ytdilmnpoicdkhaa
open Go.RowKit Go.Tide

set_option maxHeartbeats 1000000 in
theorem curve_alive (w : World) : Calls Try.prog 28 #[] w fun e w' => e = .returned (.bool true) ∧ More w w' := by
  have e1 : eqRows 4 4 (ofRow (rowOf [2, 0, 3])) (rowOf [0, 2, 2, 5]) = true := eqLit rfl (by decide +kernel)
  have e2 : cRight 4 (ofRow (rowOf [2, 0, 3])) = true := cRight_iff.2 (ofRow_right _ 3)
  have e3 : eqRows 3 3 (stepsOf (ofRow (rowOf [2, 0, 3]))) (rowOf [2, 0, 3]) = true := eqLit rfl (by decide +kernel)
  have e4 : atOf 4 (ofRow (rowOf [2, 0, 3])) 9 = 5 := by decide +kernel
  have e5 : cWithin 4 2 (ofRow (rowOf [2, 0, 3])) (rowOf [0, 1]) = false := cWithin_false fun h => by have := h 1 (by omega) (by omega); revert this; decide +kernel
  have e6 : eqRows 4 4 (sumOf (ofRow (rowOf [2, 0, 3])) (ofRow (rowOf [2, 0, 3]))) (rowOf [0, 4, 4, 10]) = true := eqLit rfl (by decide +kernel)
  have E1 := Lib.hid e1
  have E2 := Lib.hid e2
  have E3 := Lib.hid e3
  have E4 := Lib.hid e4
  have E5 := Lib.hid e5
  have E6 := Lib.hid e6
  clear e1 e2 e3 e4 e5 e6
  go_enter Try.func28, Try.ntmps28
  go_wp2_with fail
  refine (cof_any _ 3 _ _ _ (by repeat (first | (with_reducible apply Row.drewN) | (with_reducible apply Row.more) | (refine Row.litR [2, 0, 3] (by simp [Nat.add_assoc]; done) (by rfl) (by rfl)) | (with_reducible apply Row.alloc))) (by omega)).mono ?_
  rintro e w1 ⟨a1, c1, rfl, hc1, hr1, hb1⟩
  obtain ⟨os1, d1, rfl⟩ := More.of_below hb1
  simp only [Nat.reduceAdd] at hr1 hc1
  go_wp2_with fail
  refine (equal_any _ _ 4 4 _ _ _ _ _ (by repeat (first | (with_reducible assumption) | (with_reducible exact Row.nil) | (with_reducible apply Row.drewN) | (with_reducible apply Row.drew) | (with_reducible apply Row.more) | (with_reducible apply Row.alloc))) (by repeat (first | (with_reducible apply Row.drewN) | (with_reducible apply Row.more) | (refine Row.litR [0, 2, 2, 5] (by simp [Nat.add_assoc]; done) (by rfl) (by rfl)) | (with_reducible apply Row.alloc))) (by omega) (by omega)).mono ?_
  rintro e w2 ⟨rfl, os2, d2, rfl⟩
  rw [E1.out]
  go_wp2_with fail
  refine (cright_any _ 4 _ _ _ (by repeat (first | (with_reducible assumption) | (with_reducible exact Row.nil) | (with_reducible apply Row.drewN) | (with_reducible apply Row.drew) | (with_reducible apply Row.more) | (with_reducible apply Row.alloc))) (by omega)).mono ?_
  rintro e w3 ⟨rfl, os3, d3, rfl⟩
  rw [E2.out]
  go_wp2_with fail
  refine (csteps_any _ 4 _ _ _ (by repeat (first | (with_reducible assumption) | (with_reducible exact Row.nil) | (with_reducible apply Row.drewN) | (with_reducible apply Row.drew) | (with_reducible apply Row.more) | (with_reducible apply Row.alloc))) (by omega)).mono ?_
  rintro e w4 ⟨a4, c4, rfl, hc4, hr4, hb4⟩
  obtain ⟨os4, d4, rfl⟩ := More.of_below hb4
  simp only [Nat.reduceSub] at hr4 hc4
  go_wp2_with fail
  refine (equal_any _ _ 3 3 _ _ _ _ _ (by repeat (first | (with_reducible assumption) | (with_reducible exact Row.nil) | (with_reducible apply Row.drewN) | (with_reducible apply Row.drew) | (with_reducible apply Row.more) | (with_reducible apply Row.alloc))) (by repeat (first | (with_reducible apply Row.drewN) | (with_reducible apply Row.more) | (refine Row.litR [2, 0, 3] (by simp [Nat.add_assoc]; done) (by rfl) (by rfl)) | (with_reducible apply Row.alloc))) (by omega) (by omega)).mono ?_
  rintro e w5 ⟨rfl, os5, d5, rfl⟩
  rw [E3.out]
  go_wp2_with fail
  refine (cat_any _ 4 _ _ 9 _ (by repeat (first | (with_reducible assumption) | (with_reducible exact Row.nil) | (with_reducible apply Row.drewN) | (with_reducible apply Row.drew) | (with_reducible apply Row.more) | (with_reducible apply Row.alloc))) (by omega)).mono ?_
  rintro e w6 ⟨rfl, rfl⟩
  rw [E4.out]
  go_wp2_with fail
  refine (cwithin_any _ _ 4 2 _ _ _ _ _ (by repeat (first | (with_reducible assumption) | (with_reducible exact Row.nil) | (with_reducible apply Row.drewN) | (with_reducible apply Row.drew) | (with_reducible apply Row.more) | (with_reducible apply Row.alloc))) (by repeat (first | (with_reducible apply Row.drewN) | (with_reducible apply Row.more) | (refine Row.litR [0, 1] (by simp [Nat.add_assoc]; done) (by rfl) (by rfl)) | (with_reducible apply Row.alloc))) (by omega) (by omega)).mono ?_
  rintro e w7 ⟨rfl, os7, d7, rfl⟩
  rw [E5.out]
  go_wp2_with fail
  refine (csum_any _ _ 4 4 _ _ _ _ _ (by repeat (first | (with_reducible assumption) | (with_reducible exact Row.nil) | (with_reducible apply Row.drewN) | (with_reducible apply Row.drew) | (with_reducible apply Row.more) | (with_reducible apply Row.alloc))) (by repeat (first | (with_reducible assumption) | (with_reducible exact Row.nil) | (with_reducible apply Row.drewN) | (with_reducible apply Row.drew) | (with_reducible apply Row.more) | (with_reducible apply Row.alloc))) (by omega) (by omega)).mono ?_
  rintro e w8 ⟨a8, c8, rfl, hc8, hr8, hb8⟩
  obtain ⟨os8, d8, rfl⟩ := More.of_below hb8
  simp only [Nat.min_self] at hr8 hc8
  go_wp2_with fail
  refine (equal_any _ _ 4 4 _ _ _ _ _ (by repeat (first | (with_reducible assumption) | (with_reducible exact Row.nil) | (with_reducible apply Row.drewN) | (with_reducible apply Row.drew) | (with_reducible apply Row.more) | (with_reducible apply Row.alloc))) (by repeat (first | (with_reducible apply Row.drewN) | (with_reducible apply Row.more) | (refine Row.litR [0, 4, 4, 10] (by simp [Nat.add_assoc]; done) (by rfl) (by rfl)) | (with_reducible apply Row.alloc))) (by omega) (by omega)).mono ?_
  rintro e w9 ⟨rfl, os9, d9, rfl⟩
  rw [E6.out]
  go_wp2_with fail
  refine (clower_any _ none 4 0 _ _ _ (fun _ => 0) _ (by repeat (first | (with_reducible assumption) | (with_reducible exact Row.nil) | (with_reducible apply Row.drewN) | (with_reducible apply Row.drew) | (with_reducible apply Row.more) | (with_reducible apply Row.alloc))) Row.nil (by omega) (by omega)).mono ?_
  rintro e w10 ⟨a10, c10, rfl, hc10, hr10, hb10⟩
  obtain ⟨os10, d10, rfl⟩ := More.of_below hb10
  go_wp2
  go_ret
  exact ⟨rfl, (by repeat (first | (with_reducible exact More.refl _) | (with_reducible refine More.alloc ?_ _) | (with_reducible refine More.more ?_ _ _) | (with_reducible refine More.drewN ?_ _) | (with_reducible refine More.drew ?_)))⟩

set_option maxHeartbeats 2000000 in
theorem curveBack_walk (a0 : Option Addr) (len0 cap0 : Nat) (z0 : List Int) (a1 : Option Addr) (len1 cap1 : Nat) (z1 : List Int) (w : World) (f0 : IsFlat w a0 len0 cap0 1 z0) (r0 : cap0 * 8 ≤ 140737488351232) (f1 : IsFlat w a1 len1 cap1 1 z1) (r1 : cap1 * 8 ≤ 140737488351232) :
    Calls Try.prog 4 #[.slice a0 len0 cap0, .slice a1 len1 cap1] w fun e w' => e = .returned (.bool true) ∧ Below w.heap.size w w' := by
  have hle := f0.le
  have hle1 := f1.le
  have hf := f0.row
  have hg := f1.row
  generalize (fun k => z0.getD k 0) = f at hf
  generalize (fun k => z1.getD k 0) = g at hg
  clear f0 f1
  have E1 := Lib.hid (cRight_iff.2 (ofRow_right f len0))
  have E2 : Hid ((((len0 + 1 : Nat) : Int) != (len0 : Int) + 1) = false) := by show _ = _; simp
  go_enter Try.func4, Try.ntmps4
  go_wp2_with (go_at_call 28; refine (curve_alive _).mono ?_; rintro e w' ⟨rfl, os, n, rfl⟩)
  refine (cof_any _ len0 _ f _ (by repeat (first | (with_reducible assumption) | (with_reducible exact Row.nil) | (with_reducible apply Row.drewN) | (with_reducible apply Row.drew) | (with_reducible apply Row.more) | (with_reducible apply Row.alloc))) (by omega)).mono ?_
  rintro e w1 ⟨as1, cs1, rfl, hcs1, hrs, hb1⟩
  obtain ⟨os1, d1, rfl⟩ := More.of_below hb1
  go_wp2_with fail
  refine (cright_any _ (len0 + 1) _ _ _ (by repeat (first | (with_reducible assumption) | (with_reducible exact Row.nil) | (with_reducible apply Row.drewN) | (with_reducible apply Row.drew) | (with_reducible apply Row.more) | (with_reducible apply Row.alloc))) (by omega)).mono ?_
  rintro e w3 ⟨rfl, os3, d3, rfl⟩
  rw [E1.out]
  go_wp2_with fail
  refine (csteps_any _ (len0 + 1) _ _ _ (by repeat (first | (with_reducible assumption) | (with_reducible exact Row.nil) | (with_reducible apply Row.drewN) | (with_reducible apply Row.drew) | (with_reducible apply Row.more) | (with_reducible apply Row.alloc))) (by omega)).mono ?_
  rintro e w4 ⟨ab, cb, rfl, hcb, hrb, hb4⟩
  have hm4 : More w w4 := More.trans (by repeat (first | (with_reducible exact More.refl _) | (with_reducible refine More.alloc ?_ _) | (with_reducible refine More.more ?_ _ _) | (with_reducible refine More.drewN ?_ _) | (with_reducible refine More.drew ?_))) (More.of_below hb4)
  simp only [Nat.add_sub_cancel] at hrb hcb ⊢
  have hf4 : Row w4 a0 len0 f := Row.below (by repeat (first | (with_reducible assumption) | (with_reducible exact Row.nil) | (with_reducible apply Row.drewN) | (with_reducible apply Row.drew) | (with_reducible apply Row.more) | (with_reducible apply Row.alloc))) hb4 (Nat.le_refl _)
  have hrs4 : Row w4 as1 (len0 + 1) (ofRow f) := Row.below (by repeat (first | (with_reducible assumption) | (with_reducible exact Row.nil) | (with_reducible apply Row.drewN) | (with_reducible apply Row.drew) | (with_reducible apply Row.more) | (with_reducible apply Row.alloc))) hb4 (Nat.le_refl _)
  have hg4 : Row w4 a1 len1 g := Row.below (by repeat (first | (with_reducible assumption) | (with_reducible exact Row.nil) | (with_reducible apply Row.drewN) | (with_reducible apply Row.drew) | (with_reducible apply Row.more) | (with_reducible apply Row.alloc))) hb4 (Nat.le_refl _)
  clear hb4 hb1 hf hg hrs
  go_wp2_with fail
  go_loopw [28] (fun i wr => ∃ (k d : Nat), i = .int .i64 k ∧ k ≤ len0 ∧ wr = w4.drewN d) (fun i _ => len0 - (intOf i).toNat)
  case atStart => exact ⟨0, 0, rfl, Nat.zero_le _, rfl⟩
  case round =>
    obtain ⟨k, d, rfl, hk, rfl⟩ := hrel
    by_cases hlt : k < len0
    · obtain ⟨b2, o2, x, rfl, hb2, hc2, hx⟩ := hf4.at_ hlt
      obtain ⟨b3, o3, S, rfl, hb3, hc3, hS⟩ := hrs4.at_ (show len0 < len0 + 1 by omega)
      obtain ⟨b4, o4, B, rfl, hb4', hc4, hB⟩ := hrb.at_ hlt
      by_cases hs : S < 1152921504606846976
      · have hd : decide (S < 1152921504606846976) = true := by simpa using hs
        have hBx : B = fit x := by rw [hB.out, hx.out]; exact steps_back (n := len0) (by rw [← hS.out]; exact hs) k hlt
        have hne : (B != fit x) = false := by rw [hBx]; simp
        have HB := Lib.hid hBx
        clear hBx hs
        go_wp2_with fail
        go_quiet ((go_at_call 31; first | exact quiet_left (fit_any _ _) | exact quiet_add_left (fit_any _ _)))
        go_wp2
        go_roundw
        case rel => exact ⟨k + 1, _, by go_num, by omega, rfl⟩
        case measure => simp [intOf]; omega
      · have hd : decide (S < 1152921504606846976) = false := by simpa using hs
        clear hs
        go_wp2_with fail
        go_quiet (fail)
        go_wp2
        go_roundw
        case rel => exact ⟨k + 1, _, by go_num, by omega, rfl⟩
        case measure => simp [intOf]; omega
    · by_cases hr : cRight len1 g = true
      · have E7 := Lib.hid hr
        have E8 := Lib.hid (eqLit (n := len1) (m := len1) rfl (of_steps (cRight_iff.1 hr)))
        have hpos : 0 < len1 := (cRight_iff.1 hr).1
        clear hr
        go_wp2_with fail
        refine (cright_any _ len1 _ _ _ (by repeat (first | (with_reducible assumption) | (with_reducible exact Row.nil) | (with_reducible apply Row.drewN) | (with_reducible apply Row.drew) | (with_reducible apply Row.more) | (with_reducible apply Row.alloc))) (by omega)).mono ?_
        rintro e w5 ⟨rfl, os5, d5, rfl⟩
        rw [E7.out]
        go_wp2_with fail
        refine (csteps_any _ len1 _ _ _ (by repeat (first | (with_reducible assumption) | (with_reducible exact Row.nil) | (with_reducible apply Row.drewN) | (with_reducible apply Row.drew) | (with_reducible apply Row.more) | (with_reducible apply Row.alloc))) (by omega)).mono ?_
        rintro e w6 ⟨a6, c6, rfl, hc6, hr6, hb6⟩
        obtain ⟨os6, d6, rfl⟩ := More.of_below hb6
        go_wp2_with fail
        refine (cof_any _ (len1 - 1) _ _ _ (by repeat (first | (with_reducible assumption) | (with_reducible exact Row.nil) | (with_reducible apply Row.drewN) | (with_reducible apply Row.drew) | (with_reducible apply Row.more) | (with_reducible apply Row.alloc))) (by omega)).mono ?_
        rintro e w7 ⟨a7, c7, rfl, hc7, hr7, hb7⟩
        obtain ⟨os7, d7, rfl⟩ := More.of_below hb7
        rw [show len1 - 1 + 1 = len1 by omega] at hr7 ⊢
        go_wp2_with fail
        refine (equal_any _ _ len1 len1 _ _ _ _ _ (by repeat (first | (with_reducible assumption) | (with_reducible exact Row.nil) | (with_reducible apply Row.drewN) | (with_reducible apply Row.drew) | (with_reducible apply Row.more) | (with_reducible apply Row.alloc))) (by repeat (first | (with_reducible assumption) | (with_reducible exact Row.nil) | (with_reducible apply Row.drewN) | (with_reducible apply Row.drew) | (with_reducible apply Row.more) | (with_reducible apply Row.alloc))) (by omega) (by omega)).mono ?_
        rintro e w8 ⟨rfl, os8, d8, rfl⟩
        rw [E8.out]
        go_wp2
        go_ret
        exact ⟨rfl, More.below (by repeat (first | (with_reducible assumption) | (with_reducible exact More.refl _) | (with_reducible refine More.alloc ?_ _) | (with_reducible refine More.more ?_ _ _) | (with_reducible refine More.drewN ?_ _) | (with_reducible refine More.drew ?_)))⟩
      · have hr' : cRight len1 g = false := by simpa using hr
        have E7 := Lib.hid hr'
        clear hr hr'
        go_wp2_with fail
        refine (cright_any _ len1 _ _ _ (by repeat (first | (with_reducible assumption) | (with_reducible exact Row.nil) | (with_reducible apply Row.drewN) | (with_reducible apply Row.drew) | (with_reducible apply Row.more) | (with_reducible apply Row.alloc))) (by omega)).mono ?_
        rintro e w5 ⟨rfl, os5, d5, rfl⟩
        rw [E7.out]
        go_wp2
        go_ret
        exact ⟨rfl, More.below (by repeat (first | (with_reducible assumption) | (with_reducible exact More.refl _) | (with_reducible refine More.alloc ?_ _) | (with_reducible refine More.more ?_ _ _) | (with_reducible refine More.drewN ?_ _) | (with_reducible refine More.drew ?_)))⟩

set_option maxHeartbeats 2000000 in
theorem curveLower_walk (a0 : Option Addr) (len0 cap0 : Nat) (z0 : List Int) (a1 : Option Addr) (len1 cap1 : Nat) (z1 : List Int) (a2 : Option Addr) (len2 cap2 : Nat) (z2 : List Int) (w : World) (f0 : IsFlat w a0 len0 cap0 1 z0) (r0 : cap0 * 8 ≤ 140737488351232) (f1 : IsFlat w a1 len1 cap1 1 z1) (r1 : cap1 * 8 ≤ 140737488351232) (f2 : IsFlat w a2 len2 cap2 1 z2) (r2 : cap2 * 8 ≤ 140737488351232) :
    Calls Try.prog 5 #[.slice a0 len0 cap0, .slice a1 len1 cap1, .slice a2 len2 cap2] w fun e w' => e = .returned (.bool true) ∧ Below w.heap.size w w' := by
  have hle := f0.le
  have hle1 := f1.le
  have hle2 := f2.le
  have hf := f0.row
  have hg := f1.row
  have hh := f2.row
  generalize (fun k => z0.getD k 0) = f at hf
  generalize (fun k => z1.getD k 0) = g at hg
  generalize (fun k => z2.getD k 0) = h at hh
  clear f0 f1 f2
  obtain ⟨q, hq⟩ : ∃ q, Hid (min len0 len1 = q) := ⟨_, rfl⟩
  have hqb : q ≤ len0 := by have := hq.out; omega
  have E1 := Lib.hid (cWithin_true (lower_left q len0 f g))
  have E2 := Lib.hid (cWithin_true (lower_right q len1 f g))
  by_cases hl : len2 = q
  · subst hl
    have hgr := lower_greatest (n := len0) (m := len1) (f := f) (g := g) (h := h)
    rw [hq.out] at hgr
    have HG := Lib.hid hgr
    clear hgr
    go_enter Try.func5, Try.ntmps5
    go_wp2_with (go_at_call 28; refine (curve_alive _).mono ?_; rintro e w' ⟨rfl, os, n, rfl⟩)
    refine (clower_any _ _ len0 len1 _ _ f g _ (by repeat (first | (with_reducible assumption) | (with_reducible exact Row.nil) | (with_reducible apply Row.drewN) | (with_reducible apply Row.drew) | (with_reducible apply Row.more) | (with_reducible apply Row.alloc))) (by repeat (first | (with_reducible assumption) | (with_reducible exact Row.nil) | (with_reducible apply Row.drewN) | (with_reducible apply Row.drew) | (with_reducible apply Row.more) | (with_reducible apply Row.alloc))) (by omega) (by omega)).mono ?_
    rw [hq.out]
    rintro e w1 ⟨al, cl, rfl, hcl, hrl, hb1⟩
    obtain ⟨os1, d1, rfl⟩ := More.of_below hb1
    go_wp2_with fail
    refine (cwithin_any _ _ len2 len0 _ _ _ _ _ (by repeat (first | (with_reducible assumption) | (with_reducible exact Row.nil) | (with_reducible apply Row.drewN) | (with_reducible apply Row.drew) | (with_reducible apply Row.more) | (with_reducible apply Row.alloc))) (by repeat (first | (with_reducible assumption) | (with_reducible exact Row.nil) | (with_reducible apply Row.drewN) | (with_reducible apply Row.drew) | (with_reducible apply Row.more) | (with_reducible apply Row.alloc))) (by omega) (by omega)).mono ?_
    rintro e w2 ⟨rfl, os2, d2, rfl⟩
    rw [E1.out]
    go_wp2_with fail
    refine (cwithin_any _ _ len2 len1 _ _ _ _ _ (by repeat (first | (with_reducible assumption) | (with_reducible exact Row.nil) | (with_reducible apply Row.drewN) | (with_reducible apply Row.drew) | (with_reducible apply Row.more) | (with_reducible apply Row.alloc))) (by repeat (first | (with_reducible assumption) | (with_reducible exact Row.nil) | (with_reducible apply Row.drewN) | (with_reducible apply Row.drew) | (with_reducible apply Row.more) | (with_reducible apply Row.alloc))) (by omega) (by omega)).mono ?_
    rintro e w3 ⟨rfl, os3, d3, rfl⟩
    rw [E2.out]
    go_wp2_with fail
    refine (cwithin_any _ _ len2 len2 _ _ _ _ _ (by repeat (first | (with_reducible assumption) | (with_reducible exact Row.nil) | (with_reducible apply Row.drewN) | (with_reducible apply Row.drew) | (with_reducible apply Row.more) | (with_reducible apply Row.alloc))) (by repeat (first | (with_reducible assumption) | (with_reducible exact Row.nil) | (with_reducible apply Row.drewN) | (with_reducible apply Row.drew) | (with_reducible apply Row.more) | (with_reducible apply Row.alloc))) (by omega) (by omega)).mono ?_
    rintro e w4 ⟨rfl, os4, d4, rfl⟩
    by_cases h5 : cWithin len2 len0 h f = true
    · have H5 := Lib.hid h5
      clear h5
      go_wp2_with fail
      refine (cwithin_any _ _ len2 len0 _ _ _ _ _ (by repeat (first | (with_reducible assumption) | (with_reducible exact Row.nil) | (with_reducible apply Row.drewN) | (with_reducible apply Row.drew) | (with_reducible apply Row.more) | (with_reducible apply Row.alloc))) (by repeat (first | (with_reducible assumption) | (with_reducible exact Row.nil) | (with_reducible apply Row.drewN) | (with_reducible apply Row.drew) | (with_reducible apply Row.more) | (with_reducible apply Row.alloc))) (by omega) (by omega)).mono ?_
      rintro e w5 ⟨rfl, os5, d5, rfl⟩
      rw [H5.out]
      go_wp2_with fail
      refine (cwithin_any _ _ len2 len1 _ _ _ _ _ (by repeat (first | (with_reducible assumption) | (with_reducible exact Row.nil) | (with_reducible apply Row.drewN) | (with_reducible apply Row.drew) | (with_reducible apply Row.more) | (with_reducible apply Row.alloc))) (by repeat (first | (with_reducible assumption) | (with_reducible exact Row.nil) | (with_reducible apply Row.drewN) | (with_reducible apply Row.drew) | (with_reducible apply Row.more) | (with_reducible apply Row.alloc))) (by omega) (by omega)).mono ?_
      rintro e w6 ⟨rfl, os6, d6, rfl⟩
      have h6 : cWithin len2 len2 h (lowerOf f g) = cWithin len2 len1 h g := by
        rw [Bool.eq_iff_iff, cWithin_iff, cWithin_iff, HG.out]
        exact ⟨fun x => x.2, fun x => ⟨cWithin_iff.1 H5.out, x⟩⟩
      rw [h6]
      go_wp2
      go_ret
      exact ⟨ret_bool (by simp), More.below (by repeat (first | (with_reducible exact More.refl _) | (with_reducible refine More.alloc ?_ _) | (with_reducible refine More.more ?_ _ _) | (with_reducible refine More.drewN ?_ _) | (with_reducible refine More.drew ?_)))⟩
    · have h5' : cWithin len2 len0 h f = false := by simpa using h5
      have h6 : cWithin len2 len2 h (lowerOf f g) = false := by
        rw [← Bool.not_eq_true, cWithin_iff, HG.out]
        exact fun x => h5 (cWithin_iff.2 x.1)
      have H5 := Lib.hid h5'
      rw [h6]
      clear h5 h5' h6
      go_wp2_with fail
      refine (cwithin_any _ _ len2 len0 _ _ _ _ _ (by repeat (first | (with_reducible assumption) | (with_reducible exact Row.nil) | (with_reducible apply Row.drewN) | (with_reducible apply Row.drew) | (with_reducible apply Row.more) | (with_reducible apply Row.alloc))) (by repeat (first | (with_reducible assumption) | (with_reducible exact Row.nil) | (with_reducible apply Row.drewN) | (with_reducible apply Row.drew) | (with_reducible apply Row.more) | (with_reducible apply Row.alloc))) (by omega) (by omega)).mono ?_
      rintro e w5 ⟨rfl, os5, d5, rfl⟩
      rw [H5.out]
      go_wp2
      go_ret
      exact ⟨rfl, More.below (by repeat (first | (with_reducible exact More.refl _) | (with_reducible refine More.alloc ?_ _) | (with_reducible refine More.more ?_ _ _) | (with_reducible refine More.drewN ?_ _) | (with_reducible refine More.drew ?_)))⟩
  · have hne : ((len2 : Int) != (q : Int)) = true := by simp; omega
    go_enter Try.func5, Try.ntmps5
    go_wp2_with (go_at_call 28; refine (curve_alive _).mono ?_; rintro e w' ⟨rfl, os, n, rfl⟩)
    refine (clower_any _ _ len0 len1 _ _ f g _ (by repeat (first | (with_reducible assumption) | (with_reducible exact Row.nil) | (with_reducible apply Row.drewN) | (with_reducible apply Row.drew) | (with_reducible apply Row.more) | (with_reducible apply Row.alloc))) (by repeat (first | (with_reducible assumption) | (with_reducible exact Row.nil) | (with_reducible apply Row.drewN) | (with_reducible apply Row.drew) | (with_reducible apply Row.more) | (with_reducible apply Row.alloc))) (by omega) (by omega)).mono ?_
    rw [hq.out]
    rintro e w1 ⟨al, cl, rfl, hcl, hrl, hb1⟩
    obtain ⟨os1, d1, rfl⟩ := More.of_below hb1
    go_wp2_with fail
    refine (cwithin_any _ _ q len0 _ _ _ _ _ (by repeat (first | (with_reducible assumption) | (with_reducible exact Row.nil) | (with_reducible apply Row.drewN) | (with_reducible apply Row.drew) | (with_reducible apply Row.more) | (with_reducible apply Row.alloc))) (by repeat (first | (with_reducible assumption) | (with_reducible exact Row.nil) | (with_reducible apply Row.drewN) | (with_reducible apply Row.drew) | (with_reducible apply Row.more) | (with_reducible apply Row.alloc))) (by omega) (by omega)).mono ?_
    rintro e w2 ⟨rfl, os2, d2, rfl⟩
    rw [E1.out]
    go_wp2_with fail
    refine (cwithin_any _ _ q len1 _ _ _ _ _ (by repeat (first | (with_reducible assumption) | (with_reducible exact Row.nil) | (with_reducible apply Row.drewN) | (with_reducible apply Row.drew) | (with_reducible apply Row.more) | (with_reducible apply Row.alloc))) (by repeat (first | (with_reducible assumption) | (with_reducible exact Row.nil) | (with_reducible apply Row.drewN) | (with_reducible apply Row.drew) | (with_reducible apply Row.more) | (with_reducible apply Row.alloc))) (by omega) (by omega)).mono ?_
    rintro e w3 ⟨rfl, os3, d3, rfl⟩
    rw [E2.out]
    go_wp2
    go_ret
    exact ⟨rfl, More.below (by repeat (first | (with_reducible exact More.refl _) | (with_reducible refine More.alloc ?_ _) | (with_reducible refine More.more ?_ _ _) | (with_reducible refine More.drewN ?_ _) | (with_reducible refine More.drew ?_)))⟩

set_option maxHeartbeats 2000000 in
theorem curveSums_walk (a0 : Option Addr) (len0 cap0 : Nat) (z0 : List Int) (a1 : Option Addr) (len1 cap1 : Nat) (z1 : List Int) (w : World) (f0 : IsFlat w a0 len0 cap0 1 z0) (r0 : cap0 * 8 ≤ 140737488351232) (f1 : IsFlat w a1 len1 cap1 1 z1) (r1 : cap1 * 8 ≤ 140737488351232) :
    Calls Try.prog 6 #[.slice a0 len0 cap0, .slice a1 len1 cap1] w fun e w' => e = .returned (.bool true) ∧ Below w.heap.size w w' := by
  have hle := f0.le
  have hle1 := f1.le
  have hf := f0.row
  have hg := f1.row
  generalize (fun k => z0.getD k 0) = f at hf
  generalize (fun k => z1.getD k 0) = g at hg
  clear f0 f1
  have hmin : (if len1 < len0 then (len1 : Int) else (len0 : Int)) = ((min len0 len1 : Nat) : Int) := by split <;> omega
  have hmin' : (if (len1 : Int) < (len0 : Int) then (len1 : Int) else (len0 : Int)) = ((min len0 len1 : Nat) : Int) := by split <;> omega
  obtain ⟨q, hq⟩ : ∃ q, Hid (min len0 len1 = q) := ⟨_, rfl⟩
  rw [hq.out] at hmin hmin'
  have hqn : q ≤ len0 := by have := hq.out; omega
  have hqm : q ≤ len1 := by have := hq.out; omega
  have hq1 : min (len0 + 1) (len1 + 1) = q + 1 := by have := hq.out; omega
  have HQ1 := Lib.hid hq1
  have E1 := Lib.hid (cRight_iff.2 (sum_right f g q))
  have E2 := Lib.hid (eqLit (n := q + 1) (m := q + 1) rfl (fun k _ => sum_of f g k))
  have E3 := Lib.hid (cRight_iff.2 (lower_of_right f g q))
  clear hq1
  obtain ⟨i0, hi, hz0, hz1, hz2⟩ := info_parts intInfo
  go_enter Try.func6, Try.ntmps6
  go_wp2_with (go_at_call 28; refine (curve_alive _).mono ?_; rintro e w' ⟨rfl, os, n, rfl⟩)
  have hb0 := (Below.refl w.heap.size w).more (Nat.le_refl _) os n
  generalize w.more os n = w0 at *
  go_loopw [5, 16] (fun out i wr => ∃ k : Nat, i = .int .i64 k ∧ k ≤ q ∧ wr.ownsRow w0.heap.size 3 1 out k (cellsOf k (fun k => plus (f k) (g k))) ∧ Below w0.heap.size w0 wr) (fun _ i _ => q - (intOf i).toNat)
  case atStart => exact ⟨0, rfl, Nat.zero_le _, World.ownsRow_nil _ _ _ _, Below.refl _ _⟩
  case round =>
    obtain ⟨k, rfl, hk, hown, hbe⟩ := hrel
    have hsz := hbe.size
    by_cases hlt : k < q
    · obtain ⟨b1, o1, x, rfl, hb1, hc1', hx⟩ := (hf.below hb0 (Nat.le_refl _)).at_ (show k < len0 by omega)
      obtain ⟨b2, o2, y, rfl, hb2, hc2', hy⟩ := (hg.below hb0 (Nat.le_refl _)).at_ (show k < len1 by omega)
      have hc1 : wr.cell? ⟨b1, o1 + k, none⟩ = some (.int .i64 x) := (hbe.cell (p := ⟨b1, o1 + k, none⟩) hb1).trans hc1'
      have hc2 : wr.cell? ⟨b2, o2 + k, none⟩ = some (.int .i64 y) := (hbe.cell (p := ⟨b2, o2 + k, none⟩) hb2).trans hc2'
      clear hc1' hc2'
      have ha1 := own_ne hown hb1
      have ha2 := own_ne hown hb2
      have k0 : (0 : Int) ≤ (k : Int) := Int.natCast_nonneg _
      have k1 : (k : Int) < (len0 : Int) := by omega
      have k2 : (k : Int) < (len1 : Int) := by omega
      go_wp2_with fail
      go_region_held3 (fun w' => w'.cell? ⟨b1, o1 + k, none⟩ = some (.int .i64 x) ∧ w'.cell? ⟨b2, o2 + k, none⟩ = some (.int .i64 y)) ((first | go_keep | (go_split_ands; repeat' apply And.intro) <;> (rw [hgrow.cell_far _ (by simp; omega) (by first | exact ha1.symm | exact ha2.symm | exact ha3.symm)]; assumption))) (first | (go_at_call 35; refine (plus_any _ _ _).mono ?_; rintro e w' ⟨rfl, rfl⟩) | (refine step_append_lies _ (by rfl) _ _ _ (by rfl) _ 3 i0 _ 1 8 Try.underlying22 hi hz0 hz1 hz2 rfl (by omega) _ _ _ (by rfl) ((hown.alloc _).drew) ⟨wr.heap.size, 0, none⟩ 1 1 [.int .i64 (plus x y)] (by rfl) (by rfl) (World.news_of_block (cs := #[.int .i64 (plus x y)]) (t := 3) (fr := (0, 0)) (heap_alloc_new wr _)) (by simp [Value.oneCell']) (by omega) (by simp only [maxLen]; omega) (by omega) (by simp; omega) (wr.heap.size + 1) (by simp) ?_; intro gg cap w1 hown' hgrow hat hlt0))
      go_wp2
      go_roundw
      case rel => exact ⟨k + 1, by go_num, by omega, by rw [cellsOf_succ, ← hx.out, ← hy.out]; exact hown', below_appendd hbe hsz hown hgrow⟩
      case measure => simp [intOf]; omega
    · obtain rfl : k = q := by omega
      obtain ⟨am, cm, hv, hcm⟩ := own_slice hown
      subst hv
      have hrm := Row.of_own hown
      have hf1 : Row wr a0 len0 f := (hf.below hb0 (Nat.le_refl _)).below hbe (Nat.le_refl _)
      have hg1 : Row wr a1 len1 g := (hg.below hb0 (Nat.le_refl _)).below hbe (Nat.le_refl _)
      have hmr : More w wr := More.of_below (hb0.trans (hbe.mono hb0.size))
      clear hf hg hown hbe hb0 hsz
      go_wp2_with fail
      refine (cof_any _ len0 _ f _ (by repeat (first | (with_reducible assumption) | (with_reducible exact Row.nil) | (with_reducible apply Row.drewN) | (with_reducible apply Row.drew) | (with_reducible apply Row.more) | (with_reducible apply Row.alloc))) (by omega)).mono ?_
      rintro e w1 ⟨a3, c3, rfl, hc3, hr3, hb3⟩
      obtain ⟨os3, d3, rfl⟩ := More.of_below hb3
      go_wp2_with fail
      refine (cof_any _ len1 _ g _ (by repeat (first | (with_reducible assumption) | (with_reducible exact Row.nil) | (with_reducible apply Row.drewN) | (with_reducible apply Row.drew) | (with_reducible apply Row.more) | (with_reducible apply Row.alloc))) (by omega)).mono ?_
      rintro e w1 ⟨a4, c4, rfl, hc4, hr4, hb4⟩
      obtain ⟨os4, d4, rfl⟩ := More.of_below hb4
      go_wp2_with fail
      refine (csum_any _ _ (len0 + 1) (len1 + 1) _ _ _ _ _ (by repeat (first | (with_reducible assumption) | (with_reducible exact Row.nil) | (with_reducible apply Row.drewN) | (with_reducible apply Row.drew) | (with_reducible apply Row.more) | (with_reducible apply Row.alloc))) (by repeat (first | (with_reducible assumption) | (with_reducible exact Row.nil) | (with_reducible apply Row.drewN) | (with_reducible apply Row.drew) | (with_reducible apply Row.more) | (with_reducible apply Row.alloc))) (by omega) (by omega)).mono ?_
      rw [HQ1.out]
      rintro e w1 ⟨a5, c5, rfl, hc5, hr5, hb5⟩
      obtain ⟨os5, d5, rfl⟩ := More.of_below hb5
      go_wp2_with fail
      refine (cright_any _ (k + 1) _ _ _ (by repeat (first | (with_reducible assumption) | (with_reducible exact Row.nil) | (with_reducible apply Row.drewN) | (with_reducible apply Row.drew) | (with_reducible apply Row.more) | (with_reducible apply Row.alloc))) (by omega)).mono ?_
      rintro e w6 ⟨rfl, os6, d6, rfl⟩
      rw [E1.out]
      go_wp2_with fail
      refine (csum_any _ _ (len0 + 1) (len1 + 1) _ _ _ _ _ (by repeat (first | (with_reducible assumption) | (with_reducible exact Row.nil) | (with_reducible apply Row.drewN) | (with_reducible apply Row.drew) | (with_reducible apply Row.more) | (with_reducible apply Row.alloc))) (by repeat (first | (with_reducible assumption) | (with_reducible exact Row.nil) | (with_reducible apply Row.drewN) | (with_reducible apply Row.drew) | (with_reducible apply Row.more) | (with_reducible apply Row.alloc))) (by omega) (by omega)).mono ?_
      rw [HQ1.out]
      rintro e w1 ⟨a7, c7, rfl, hc7, hr7, hb7⟩
      obtain ⟨os7, d7, rfl⟩ := More.of_below hb7
      go_wp2_with fail
      refine (cof_any _ k _ _ _ (by repeat (first | (with_reducible assumption) | (with_reducible exact Row.nil) | (with_reducible apply Row.drewN) | (with_reducible apply Row.drew) | (with_reducible apply Row.more) | (with_reducible apply Row.alloc))) (by omega)).mono ?_
      rintro e w1 ⟨a8, c8, rfl, hc8, hr8, hb8⟩
      obtain ⟨os8, d8, rfl⟩ := More.of_below hb8
      go_wp2_with fail
      refine (equal_any _ _ (k + 1) (k + 1) _ _ _ _ _ (by repeat (first | (with_reducible assumption) | (with_reducible exact Row.nil) | (with_reducible apply Row.drewN) | (with_reducible apply Row.drew) | (with_reducible apply Row.more) | (with_reducible apply Row.alloc))) (by repeat (first | (with_reducible assumption) | (with_reducible exact Row.nil) | (with_reducible apply Row.drewN) | (with_reducible apply Row.drew) | (with_reducible apply Row.more) | (with_reducible apply Row.alloc))) (by omega) (by omega)).mono ?_
      rintro e w9 ⟨rfl, os9, d9, rfl⟩
      rw [E2.out]
      go_wp2_with fail
      refine (clower_any _ _ (len0 + 1) (len1 + 1) _ _ _ _ _ (by repeat (first | (with_reducible assumption) | (with_reducible exact Row.nil) | (with_reducible apply Row.drewN) | (with_reducible apply Row.drew) | (with_reducible apply Row.more) | (with_reducible apply Row.alloc))) (by repeat (first | (with_reducible assumption) | (with_reducible exact Row.nil) | (with_reducible apply Row.drewN) | (with_reducible apply Row.drew) | (with_reducible apply Row.more) | (with_reducible apply Row.alloc))) (by omega) (by omega)).mono ?_
      rw [HQ1.out]
      rintro e w1 ⟨a10, c10, rfl, hc10, hr10, hb10⟩
      obtain ⟨os10, d10, rfl⟩ := More.of_below hb10
      go_wp2_with fail
      refine (cright_any _ (k + 1) _ _ _ (by repeat (first | (with_reducible assumption) | (with_reducible exact Row.nil) | (with_reducible apply Row.drewN) | (with_reducible apply Row.drew) | (with_reducible apply Row.more) | (with_reducible apply Row.alloc))) (by omega)).mono ?_
      rintro e w6 ⟨rfl, os11, d11, rfl⟩
      rw [E3.out]
      go_wp2
      go_ret
      exact ⟨rfl, More.below (by repeat (first | (with_reducible assumption) | (with_reducible exact More.refl _) | (with_reducible refine More.alloc ?_ _) | (with_reducible refine More.more ?_ _ _) | (with_reducible refine More.drewN ?_ _) | (with_reducible refine More.drew ?_)))⟩
end Go.Proofs.Ytdilmnpoicdkhaa
