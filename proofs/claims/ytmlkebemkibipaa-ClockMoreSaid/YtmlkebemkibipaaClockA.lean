/- What the laws of clocks use: alive10. Conditions: none. -/
import Derived.Test.YtmlkebemkibipaaClockW
set_option linter.unusedVariables false
set_option linter.unusedSimpArgs false
namespace Go.Proofs.Ytmlkebemkibipaa
open Go.RowKit Go.Tide
set_option linter.unusedVariables false
set_option linter.unusedSimpArgs false

set_option maxHeartbeats 1000000 in
theorem clock_alive (w : World) : Calls Try.prog 18 #[] w fun e w' => e = .returned (.bool true) ∧ More w w' := by
  have E1 := Lib.hid (eqLit (n := 3) (m := 3) (f := pways (rowOfC 2 [5, 2, 6, 7, 7, 4])) (g := rowOf [-3, 1, -3]) rfl (by decide +kernel))
  have E2 := Lib.hid (eqLit (n := 3) (m := 3) (f := pwaits (rowOfC 2 [5, 2, 6, 7, 7, 4]) 2 2) (g := rowOf [0, 4, 0]) rfl (by decide +kernel))
  have hr : PRight 3 (rowOfC 2 [5, 2, 6, 7, 7, 4]) := by unfold PRight; decide +kernel
  have HR := Lib.hid hr
  have HT := Lib.hid (pRight_true hr)
  clear hr
  go_enter Try.func18, Try.ntmps18
  go_wp2_with fail
  refine (pways_any _ 3 _ _ _ (by repeat (first | (with_reducible apply RowC.drewN) | (with_reducible apply RowC.more) | (refine RowC.litR [5, 2, 6, 7, 7, 4] (by omega) (by simp [Nat.add_assoc]; done) (by rfl) (by rfl)) | (with_reducible apply RowC.alloc))) (by omega) HR.out).mono ?_
  rintro e w1 ⟨a_1, c_1, rfl, hc_1, hr_1, hb_1⟩
  obtain ⟨os_1, d_1, rfl⟩ := More.of_below hb_1
  go_wp2_with fail
  refine (equal_any _ _ 3 3 _ _ _ _ _ (by repeat (first | (with_reducible assumption) | (with_reducible exact Row.nil) | (with_reducible apply Row.drewN) | (with_reducible apply Row.drew) | (with_reducible apply Row.more) | (with_reducible apply Row.alloc))) (by repeat (first | (with_reducible apply Row.drewN) | (with_reducible apply Row.more) | (refine Row.litR [-3, 1, -3] (by simp [Nat.add_assoc]; done) (by rfl) (by rfl)) | (with_reducible apply Row.alloc))) (by omega) (by omega)).mono ?_
  rintro e w1 ⟨rfl, os_2, d_2, rfl⟩
  rw [E1.out]
  go_wp2_with fail
  refine (pwaits_any _ 3 _ _ _ (by repeat (first | (with_reducible apply RowC.drewN) | (with_reducible apply RowC.more) | (refine RowC.litR [5, 2, 6, 7, 7, 4] (by omega) (by simp [Nat.add_assoc]; done) (by rfl) (by rfl)) | (with_reducible apply RowC.alloc))) (by omega) HR.out 2 2 (by omega) (by omega) (by omega) (by omega)).mono ?_
  rintro e w1 ⟨a_3, c_3, rfl, hc_3, hr_3, hb_3⟩
  obtain ⟨os_3, d_3, rfl⟩ := More.of_below hb_3
  go_wp2_with fail
  refine (equal_any _ _ 3 3 _ _ _ _ _ (by repeat (first | (with_reducible assumption) | (with_reducible exact Row.nil) | (with_reducible apply Row.drewN) | (with_reducible apply Row.drew) | (with_reducible apply Row.more) | (with_reducible apply Row.alloc))) (by repeat (first | (with_reducible apply Row.drewN) | (with_reducible apply Row.more) | (refine Row.litR [0, 4, 0] (by simp [Nat.add_assoc]; done) (by rfl) (by rfl)) | (with_reducible apply Row.alloc))) (by omega) (by omega)).mono ?_
  rintro e w1 ⟨rfl, os_4, d_4, rfl⟩
  rw [E2.out]
  go_wp2_with fail
  refine (pright_any _ 3 _ _ _ (by repeat (first | (with_reducible apply RowC.drewN) | (with_reducible apply RowC.more) | (refine RowC.litR [5, 2, 6, 7, 7, 4] (by omega) (by simp [Nat.add_assoc]; done) (by rfl) (by rfl)) | (with_reducible apply RowC.alloc))) (by omega)).mono ?_
  rintro e w1 ⟨rfl, os_5, d_5, rfl⟩
  rw [HT.out]
  go_wp2
  go_ret
  exact ⟨rfl, (by repeat (first | (with_reducible assumption) | (with_reducible exact More.refl _) | (with_reducible refine More.alloc ?_ _) | (with_reducible refine More.more ?_ _ _) | (with_reducible refine More.drewN ?_ _) | (with_reducible refine More.drew ?_)))⟩
end Go.Proofs.Ytmlkebemkibipaa
