/- MinplusRing, MinplusOver, MinplusClosed, MinplusRises: for every input the laws return true. Conditions: none. -/
import Derived.Test.YtdilmnpoicdkhaaMp
import Derived.Test.YtdilmnpoicdkhaaKit3
import Derived.Test.YtdilmnpoicdkhaaIsFlat
set_option linter.unusedVariables false
set_option linter.unusedSimpArgs false
namespace Go.Proofs.Ytdilmnpoicdkhaa
open Go.RowKit Go.Tide

theorem parts_yes : mparts 3 (rowOf [0, 2, 4]) = true := parts_iff.2 (.inr ⟨by decide +kernel, fun t ht _ => by revert t; decide +kernel⟩)
theorem parts_no : mparts 3 (rowOf [0, 2, 5]) = false := by
  rw [← Bool.not_eq_true, parts_iff]
  rintro (h | ⟨_, h⟩)
  · omega
  · have := h 2 (by omega) (by omega)
    revert this
    decide +kernel

set_option maxHeartbeats 1000000 in
theorem minplus_alive (w : World) : Calls Try.prog 42 #[] w fun e w' => e = .returned (.bool true) ∧ More w w' := by
  have E1 := Lib.hid (eqLit (n := 3) (m := 3) (f := conv (rowOf [0, 3, 3]) (rowOf [0, 1, 9])) (g := rowOf [0, 1, 3]) rfl (by decide +kernel))
  have E2 := Lib.hid (eqLit (n := 3) (m := 3) (f := overOf 3 2 (rowOf [0, 3, 7]) (rowOf [0, 2])) (g := rowOf [1, 5, 7]) rfl (by decide +kernel))
  have E3 := Lib.hid (eqLit (n := 2) (m := 2) (f := unitOf) (g := rowOf [0, 1152921504606846976]) rfl (by decide +kernel))
  have E4 := Lib.hid (eqLit (n := 3) (m := 3) (f := clOf (rowOf [4, 2, 9])) (g := rowOf [0, 2, 4]) rfl (by decide +kernel))
  have E5 := Lib.hid parts_yes
  have E6 := Lib.hid parts_no
  go_enter Try.func42, Try.ntmps42
  go_wp2_with fail
  refine (conv_any _ _ 3 3 _ _ _ _ _ (by repeat (first | (with_reducible apply Row.drewN) | (with_reducible apply Row.more) | (refine Row.litR [0, 3, 3] (by simp [Nat.add_assoc]; done) (by rfl) (by rfl)) | (with_reducible apply Row.alloc))) (by repeat (first | (with_reducible apply Row.drewN) | (with_reducible apply Row.more) | (refine Row.litR [0, 1, 9] (by simp [Nat.add_assoc]; done) (by rfl) (by rfl)) | (with_reducible apply Row.alloc))) (by omega) (by omega)).mono ?_
  rintro e w1 ⟨a1, c1, rfl, hc1, hr1, hb1⟩
  obtain ⟨os1, d1, rfl⟩ := More.of_below hb1
  simp only [Nat.min_self] at hr1 hc1 ⊢
  go_wp2_with fail
  refine (equal_any _ _ 3 3 _ _ _ _ _ (by repeat (first | (with_reducible assumption) | (with_reducible exact Row.nil) | (with_reducible apply Row.drewN) | (with_reducible apply Row.drew) | (with_reducible apply Row.more) | (with_reducible apply Row.alloc))) (by repeat (first | (with_reducible apply Row.drewN) | (with_reducible apply Row.more) | (refine Row.litR [0, 1, 3] (by simp [Nat.add_assoc]; done) (by rfl) (by rfl)) | (with_reducible apply Row.alloc))) (by omega) (by omega)).mono ?_
  rintro e w2 ⟨rfl, os2, d2, rfl⟩
  rw [E1.out]
  go_wp2_with fail
  refine (over_any _ _ 3 2 _ _ _ _ _ (by repeat (first | (with_reducible apply Row.drewN) | (with_reducible apply Row.more) | (refine Row.litR [0, 3, 7] (by simp [Nat.add_assoc]; done) (by rfl) (by rfl)) | (with_reducible apply Row.alloc))) (by repeat (first | (with_reducible apply Row.drewN) | (with_reducible apply Row.more) | (refine Row.litR [0, 2] (by simp [Nat.add_assoc]; done) (by rfl) (by rfl)) | (with_reducible apply Row.alloc))) (by omega) (by omega)).mono ?_
  rintro e w1 ⟨a3, c3, rfl, hc3, hr3, hb3⟩
  obtain ⟨os3, d3, rfl⟩ := More.of_below hb3
  go_wp2_with fail
  refine (equal_any _ _ 3 3 _ _ _ _ _ (by repeat (first | (with_reducible assumption) | (with_reducible exact Row.nil) | (with_reducible apply Row.drewN) | (with_reducible apply Row.drew) | (with_reducible apply Row.more) | (with_reducible apply Row.alloc))) (by repeat (first | (with_reducible apply Row.drewN) | (with_reducible apply Row.more) | (refine Row.litR [1, 5, 7] (by simp [Nat.add_assoc]; done) (by rfl) (by rfl)) | (with_reducible apply Row.alloc))) (by omega) (by omega)).mono ?_
  rintro e w2 ⟨rfl, os4, d4, rfl⟩
  rw [E2.out]
  go_wp2_with fail
  refine (unit_any 2 _ (by omega)).mono ?_
  rintro e w1 ⟨a5, c5, rfl, hc5, hr5, hb5⟩
  obtain ⟨os5, d5, rfl⟩ := More.of_below hb5
  go_wp2_with fail
  refine (equal_any _ _ 2 2 _ _ _ _ _ (by repeat (first | (with_reducible assumption) | (with_reducible exact Row.nil) | (with_reducible apply Row.drewN) | (with_reducible apply Row.drew) | (with_reducible apply Row.more) | (with_reducible apply Row.alloc))) (by repeat (first | (with_reducible apply Row.drewN) | (with_reducible apply Row.more) | (refine Row.litR [0, 1152921504606846976] (by simp [Nat.add_assoc]; done) (by rfl) (by rfl)) | (with_reducible apply Row.alloc))) (by omega) (by omega)).mono ?_
  rintro e w2 ⟨rfl, os6, d6, rfl⟩
  rw [E3.out]
  go_wp2_with fail
  refine (close_any _ 3 _ _ _ (by repeat (first | (with_reducible apply Row.drewN) | (with_reducible apply Row.more) | (refine Row.litR [4, 2, 9] (by simp [Nat.add_assoc]; done) (by rfl) (by rfl)) | (with_reducible apply Row.alloc))) (by omega)).mono ?_
  rintro e w1 ⟨a7, c7, rfl, hc7, hr7, hb7⟩
  obtain ⟨os7, d7, rfl⟩ := More.of_below hb7
  go_wp2_with fail
  refine (equal_any _ _ 3 3 _ _ _ _ _ (by repeat (first | (with_reducible assumption) | (with_reducible exact Row.nil) | (with_reducible apply Row.drewN) | (with_reducible apply Row.drew) | (with_reducible apply Row.more) | (with_reducible apply Row.alloc))) (by repeat (first | (with_reducible apply Row.drewN) | (with_reducible apply Row.more) | (refine Row.litR [0, 2, 4] (by simp [Nat.add_assoc]; done) (by rfl) (by rfl)) | (with_reducible apply Row.alloc))) (by omega) (by omega)).mono ?_
  rintro e w2 ⟨rfl, os8, d8, rfl⟩
  rw [E4.out]
  go_wp2_with fail
  refine (mparts_any _ 3 _ _ _ (by repeat (first | (with_reducible apply Row.drewN) | (with_reducible apply Row.more) | (refine Row.litR [0, 2, 4] (by simp [Nat.add_assoc]; done) (by rfl) (by rfl)) | (with_reducible apply Row.alloc))) (by omega)).mono ?_
  rintro e w2 ⟨rfl, os9, d9, rfl⟩
  rw [E5.out]
  go_wp2_with fail
  refine (mparts_any _ 3 _ _ _ (by repeat (first | (with_reducible apply Row.drewN) | (with_reducible apply Row.more) | (refine Row.litR [0, 2, 5] (by simp [Nat.add_assoc]; done) (by rfl) (by rfl)) | (with_reducible apply Row.alloc))) (by omega)).mono ?_
  rintro e w2 ⟨rfl, os10, d10, rfl⟩
  rw [E6.out]
  go_wp2
  go_ret
  exact ⟨rfl, (by repeat (first | (with_reducible exact More.refl _) | (with_reducible refine More.alloc ?_ _) | (with_reducible refine More.more ?_ _ _) | (with_reducible refine More.drewN ?_ _) | (with_reducible refine More.drew ?_)))⟩

set_option maxHeartbeats 2000000 in
theorem minplusRing_walk (a0 : Option Addr) (len0 cap0 : Nat) (z0 : List Int) (a1 : Option Addr) (len1 cap1 : Nat) (z1 : List Int) (a2 : Option Addr) (len2 cap2 : Nat) (z2 : List Int) (w : World) (f0 : IsFlat w a0 len0 cap0 1 z0) (r0 : cap0 * 8 ≤ 140737488351232) (f1 : IsFlat w a1 len1 cap1 1 z1) (r1 : cap1 * 8 ≤ 140737488351232) (f2 : IsFlat w a2 len2 cap2 1 z2) (r2 : cap2 * 8 ≤ 140737488351232) :
    Calls Try.prog 16 #[.slice a0 len0 cap0, .slice a1 len1 cap1, .slice a2 len2 cap2] w fun e w' => e = .returned (.bool true) ∧ Below w.heap.size w w' := by
  have hle := f0.le
  have hle1 := f1.le
  have hle2 := f2.le
  have hf := f0.row
  have hg := f1.row
  have hh := f2.row
  generalize (fun k => z0.getD k 0) = f at hf
  generalize (fun k => z1.getD k 0) = g at hg
  generalize (fun k => z2.getD k 0) = h at hh
  clear f0 f1 f2
  by_cases hl : len0 = len1 ∧ len1 = len2 ∧ len0 ≤ 300
  · obtain ⟨rfl, rfl, h300⟩ := hl
    have E1 := Lib.hid (eqLit (n := len0) (m := len0) rfl (fun k _ => conv_comm f g k))
    have E2 := Lib.hid (eqLit (n := len0) (m := len0) rfl (fun k _ => conv_assoc f g h k))
    have E3 := Lib.hid (eqLit (n := len0) (m := len0) rfl (fun k _ => conv_lower f g h k))
    have E4 := Lib.hid (eqLit (n := len0) (m := len0) (f := conv f unitOf) (g := lowerOf f f) rfl (fun k _ => by rw [conv_unit]; unfold lowerOf; omega))
    go_enter Try.func16, Try.ntmps16
    go_wp2_with (go_at_call 42; refine (minplus_alive _).mono ?_; rintro e w' ⟨rfl, os, n, rfl⟩)
    refine (conv_any _ _ len0 len0 _ _ _ _ _ (by repeat (first | (with_reducible assumption) | (with_reducible exact Row.nil) | (with_reducible apply Row.drewN) | (with_reducible apply Row.drew) | (with_reducible apply Row.more) | (with_reducible apply Row.alloc))) (by repeat (first | (with_reducible assumption) | (with_reducible exact Row.nil) | (with_reducible apply Row.drewN) | (with_reducible apply Row.drew) | (with_reducible apply Row.more) | (with_reducible apply Row.alloc))) (by omega) (by omega)).mono ?_
    rw [Nat.min_self]
    rintro e w1 ⟨a1, c1, rfl, hc1, hr1, hb1⟩
    obtain ⟨os1, d1, rfl⟩ := More.of_below hb1
    go_wp2_with fail
    refine (conv_any _ _ len0 len0 _ _ _ _ _ (by repeat (first | (with_reducible assumption) | (with_reducible exact Row.nil) | (with_reducible apply Row.drewN) | (with_reducible apply Row.drew) | (with_reducible apply Row.more) | (with_reducible apply Row.alloc))) (by repeat (first | (with_reducible assumption) | (with_reducible exact Row.nil) | (with_reducible apply Row.drewN) | (with_reducible apply Row.drew) | (with_reducible apply Row.more) | (with_reducible apply Row.alloc))) (by omega) (by omega)).mono ?_
    rw [Nat.min_self]
    rintro e w1 ⟨a2, c2, rfl, hc2, hr2, hb2⟩
    obtain ⟨os2, d2, rfl⟩ := More.of_below hb2
    go_wp2_with fail
    refine (equal_any _ _ len0 len0 _ _ _ _ _ (by repeat (first | (with_reducible assumption) | (with_reducible exact Row.nil) | (with_reducible apply Row.drewN) | (with_reducible apply Row.drew) | (with_reducible apply Row.more) | (with_reducible apply Row.alloc))) (by repeat (first | (with_reducible assumption) | (with_reducible exact Row.nil) | (with_reducible apply Row.drewN) | (with_reducible apply Row.drew) | (with_reducible apply Row.more) | (with_reducible apply Row.alloc))) (by omega) (by omega)).mono ?_
    rintro e w1 ⟨rfl, os3, d3, rfl⟩
    rw [E1.out]
    go_wp2_with fail
    refine (conv_any _ _ len0 len0 _ _ _ _ _ (by repeat (first | (with_reducible assumption) | (with_reducible exact Row.nil) | (with_reducible apply Row.drewN) | (with_reducible apply Row.drew) | (with_reducible apply Row.more) | (with_reducible apply Row.alloc))) (by repeat (first | (with_reducible assumption) | (with_reducible exact Row.nil) | (with_reducible apply Row.drewN) | (with_reducible apply Row.drew) | (with_reducible apply Row.more) | (with_reducible apply Row.alloc))) (by omega) (by omega)).mono ?_
    rw [Nat.min_self]
    rintro e w1 ⟨a4, c4, rfl, hc4, hr4, hb4⟩
    obtain ⟨os4, d4, rfl⟩ := More.of_below hb4
    go_wp2_with fail
    refine (conv_any _ _ len0 len0 _ _ _ _ _ (by repeat (first | (with_reducible assumption) | (with_reducible exact Row.nil) | (with_reducible apply Row.drewN) | (with_reducible apply Row.drew) | (with_reducible apply Row.more) | (with_reducible apply Row.alloc))) (by repeat (first | (with_reducible assumption) | (with_reducible exact Row.nil) | (with_reducible apply Row.drewN) | (with_reducible apply Row.drew) | (with_reducible apply Row.more) | (with_reducible apply Row.alloc))) (by omega) (by omega)).mono ?_
    rw [Nat.min_self]
    rintro e w1 ⟨a5, c5, rfl, hc5, hr5, hb5⟩
    obtain ⟨os5, d5, rfl⟩ := More.of_below hb5
    go_wp2_with fail
    refine (conv_any _ _ len0 len0 _ _ _ _ _ (by repeat (first | (with_reducible assumption) | (with_reducible exact Row.nil) | (with_reducible apply Row.drewN) | (with_reducible apply Row.drew) | (with_reducible apply Row.more) | (with_reducible apply Row.alloc))) (by repeat (first | (with_reducible assumption) | (with_reducible exact Row.nil) | (with_reducible apply Row.drewN) | (with_reducible apply Row.drew) | (with_reducible apply Row.more) | (with_reducible apply Row.alloc))) (by omega) (by omega)).mono ?_
    rw [Nat.min_self]
    rintro e w1 ⟨a6, c6, rfl, hc6, hr6, hb6⟩
    obtain ⟨os6, d6, rfl⟩ := More.of_below hb6
    go_wp2_with fail
    refine (conv_any _ _ len0 len0 _ _ _ _ _ (by repeat (first | (with_reducible assumption) | (with_reducible exact Row.nil) | (with_reducible apply Row.drewN) | (with_reducible apply Row.drew) | (with_reducible apply Row.more) | (with_reducible apply Row.alloc))) (by repeat (first | (with_reducible assumption) | (with_reducible exact Row.nil) | (with_reducible apply Row.drewN) | (with_reducible apply Row.drew) | (with_reducible apply Row.more) | (with_reducible apply Row.alloc))) (by omega) (by omega)).mono ?_
    rw [Nat.min_self]
    rintro e w1 ⟨a7, c7, rfl, hc7, hr7, hb7⟩
    obtain ⟨os7, d7, rfl⟩ := More.of_below hb7
    go_wp2_with fail
    refine (equal_any _ _ len0 len0 _ _ _ _ _ (by repeat (first | (with_reducible assumption) | (with_reducible exact Row.nil) | (with_reducible apply Row.drewN) | (with_reducible apply Row.drew) | (with_reducible apply Row.more) | (with_reducible apply Row.alloc))) (by repeat (first | (with_reducible assumption) | (with_reducible exact Row.nil) | (with_reducible apply Row.drewN) | (with_reducible apply Row.drew) | (with_reducible apply Row.more) | (with_reducible apply Row.alloc))) (by omega) (by omega)).mono ?_
    rintro e w1 ⟨rfl, os8, d8, rfl⟩
    rw [E2.out]
    go_wp2_with fail
    refine (clower_any _ _ len0 len0 _ _ _ _ _ (by repeat (first | (with_reducible assumption) | (with_reducible exact Row.nil) | (with_reducible apply Row.drewN) | (with_reducible apply Row.drew) | (with_reducible apply Row.more) | (with_reducible apply Row.alloc))) (by repeat (first | (with_reducible assumption) | (with_reducible exact Row.nil) | (with_reducible apply Row.drewN) | (with_reducible apply Row.drew) | (with_reducible apply Row.more) | (with_reducible apply Row.alloc))) (by omega) (by omega)).mono ?_
    rw [Nat.min_self]
    rintro e w1 ⟨a9, c9, rfl, hc9, hr9, hb9⟩
    obtain ⟨os9, d9, rfl⟩ := More.of_below hb9
    go_wp2_with fail
    refine (conv_any _ _ len0 len0 _ _ _ _ _ (by repeat (first | (with_reducible assumption) | (with_reducible exact Row.nil) | (with_reducible apply Row.drewN) | (with_reducible apply Row.drew) | (with_reducible apply Row.more) | (with_reducible apply Row.alloc))) (by repeat (first | (with_reducible assumption) | (with_reducible exact Row.nil) | (with_reducible apply Row.drewN) | (with_reducible apply Row.drew) | (with_reducible apply Row.more) | (with_reducible apply Row.alloc))) (by omega) (by omega)).mono ?_
    rw [Nat.min_self]
    rintro e w1 ⟨a10, c10, rfl, hc10, hr10, hb10⟩
    obtain ⟨os10, d10, rfl⟩ := More.of_below hb10
    go_wp2_with fail
    refine (conv_any _ _ len0 len0 _ _ _ _ _ (by repeat (first | (with_reducible assumption) | (with_reducible exact Row.nil) | (with_reducible apply Row.drewN) | (with_reducible apply Row.drew) | (with_reducible apply Row.more) | (with_reducible apply Row.alloc))) (by repeat (first | (with_reducible assumption) | (with_reducible exact Row.nil) | (with_reducible apply Row.drewN) | (with_reducible apply Row.drew) | (with_reducible apply Row.more) | (with_reducible apply Row.alloc))) (by omega) (by omega)).mono ?_
    rw [Nat.min_self]
    rintro e w1 ⟨a11, c11, rfl, hc11, hr11, hb11⟩
    obtain ⟨os11, d11, rfl⟩ := More.of_below hb11
    go_wp2_with fail
    refine (conv_any _ _ len0 len0 _ _ _ _ _ (by repeat (first | (with_reducible assumption) | (with_reducible exact Row.nil) | (with_reducible apply Row.drewN) | (with_reducible apply Row.drew) | (with_reducible apply Row.more) | (with_reducible apply Row.alloc))) (by repeat (first | (with_reducible assumption) | (with_reducible exact Row.nil) | (with_reducible apply Row.drewN) | (with_reducible apply Row.drew) | (with_reducible apply Row.more) | (with_reducible apply Row.alloc))) (by omega) (by omega)).mono ?_
    rw [Nat.min_self]
    rintro e w1 ⟨a12, c12, rfl, hc12, hr12, hb12⟩
    obtain ⟨os12, d12, rfl⟩ := More.of_below hb12
    go_wp2_with fail
    refine (clower_any _ _ len0 len0 _ _ _ _ _ (by repeat (first | (with_reducible assumption) | (with_reducible exact Row.nil) | (with_reducible apply Row.drewN) | (with_reducible apply Row.drew) | (with_reducible apply Row.more) | (with_reducible apply Row.alloc))) (by repeat (first | (with_reducible assumption) | (with_reducible exact Row.nil) | (with_reducible apply Row.drewN) | (with_reducible apply Row.drew) | (with_reducible apply Row.more) | (with_reducible apply Row.alloc))) (by omega) (by omega)).mono ?_
    rw [Nat.min_self]
    rintro e w1 ⟨a13, c13, rfl, hc13, hr13, hb13⟩
    obtain ⟨os13, d13, rfl⟩ := More.of_below hb13
    go_wp2_with fail
    refine (equal_any _ _ len0 len0 _ _ _ _ _ (by repeat (first | (with_reducible assumption) | (with_reducible exact Row.nil) | (with_reducible apply Row.drewN) | (with_reducible apply Row.drew) | (with_reducible apply Row.more) | (with_reducible apply Row.alloc))) (by repeat (first | (with_reducible assumption) | (with_reducible exact Row.nil) | (with_reducible apply Row.drewN) | (with_reducible apply Row.drew) | (with_reducible apply Row.more) | (with_reducible apply Row.alloc))) (by omega) (by omega)).mono ?_
    rintro e w1 ⟨rfl, os14, d14, rfl⟩
    rw [E3.out]
    go_wp2_with fail
    refine (unit_any len0 _ h300).mono ?_
    rintro e w1 ⟨a15, c15, rfl, hc15, hr15, hb15⟩
    obtain ⟨os15, d15, rfl⟩ := More.of_below hb15
    go_wp2_with fail
    refine (conv_any _ _ len0 len0 _ _ _ _ _ (by repeat (first | (with_reducible assumption) | (with_reducible exact Row.nil) | (with_reducible apply Row.drewN) | (with_reducible apply Row.drew) | (with_reducible apply Row.more) | (with_reducible apply Row.alloc))) (by repeat (first | (with_reducible assumption) | (with_reducible exact Row.nil) | (with_reducible apply Row.drewN) | (with_reducible apply Row.drew) | (with_reducible apply Row.more) | (with_reducible apply Row.alloc))) (by omega) (by omega)).mono ?_
    rw [Nat.min_self]
    rintro e w1 ⟨a16, c16, rfl, hc16, hr16, hb16⟩
    obtain ⟨os16, d16, rfl⟩ := More.of_below hb16
    go_wp2_with fail
    refine (clower_any _ _ len0 len0 _ _ _ _ _ (by repeat (first | (with_reducible assumption) | (with_reducible exact Row.nil) | (with_reducible apply Row.drewN) | (with_reducible apply Row.drew) | (with_reducible apply Row.more) | (with_reducible apply Row.alloc))) (by repeat (first | (with_reducible assumption) | (with_reducible exact Row.nil) | (with_reducible apply Row.drewN) | (with_reducible apply Row.drew) | (with_reducible apply Row.more) | (with_reducible apply Row.alloc))) (by omega) (by omega)).mono ?_
    rw [Nat.min_self]
    rintro e w1 ⟨a17, c17, rfl, hc17, hr17, hb17⟩
    obtain ⟨os17, d17, rfl⟩ := More.of_below hb17
    go_wp2_with fail
    refine (equal_any _ _ len0 len0 _ _ _ _ _ (by repeat (first | (with_reducible assumption) | (with_reducible exact Row.nil) | (with_reducible apply Row.drewN) | (with_reducible apply Row.drew) | (with_reducible apply Row.more) | (with_reducible apply Row.alloc))) (by repeat (first | (with_reducible assumption) | (with_reducible exact Row.nil) | (with_reducible apply Row.drewN) | (with_reducible apply Row.drew) | (with_reducible apply Row.more) | (with_reducible apply Row.alloc))) (by omega) (by omega)).mono ?_
    rintro e w1 ⟨rfl, os18, d18, rfl⟩
    rw [E4.out]
    go_wp2
    go_ret
    exact ⟨rfl, More.below (by repeat (first | (with_reducible exact More.refl _) | (with_reducible refine More.alloc ?_ _) | (with_reducible refine More.more ?_ _ _) | (with_reducible refine More.drewN ?_ _) | (with_reducible refine More.drew ?_)))⟩
  · go_enter Try.func16, Try.ntmps16
    go_wp2_with (go_at_call 42; refine (minplus_alive _).mono ?_; rintro e w' ⟨rfl, os, n, rfl⟩)
    all_goals
      go_ret
      exact ⟨rfl, More.below (by repeat (first | (with_reducible exact More.refl _) | (with_reducible refine More.alloc ?_ _) | (with_reducible refine More.more ?_ _ _) | (with_reducible refine More.drewN ?_ _) | (with_reducible refine More.drew ?_)))⟩
end Go.Proofs.Ytdilmnpoicdkhaa
