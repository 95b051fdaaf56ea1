/- What the laws of windows use: alive2. Conditions: none. -/
import Derived.Test.YtmlkebemkibipaaBase
import Derived.Test.YtmlkebemkibipaaIsFlat
import Derived.Test.YtmlkebemkibipaaSlMax
set_option linter.unusedVariables false
set_option linter.unusedSimpArgs false
namespace Go.Proofs.Ytmlkebemkibipaa
open Go.RowKit Go.Tide
set_option linter.unusedVariables false
set_option linter.unusedSimpArgs false

set_option maxHeartbeats 1000000 in
theorem win_alive (w : World) : Calls Try.prog 13 #[] w fun e w' => e = .returned (.bool true) ∧ More w w' := by
  have E1 := Lib.hid (eqLit (n := 5) (m := 5) (f := winOf ltB (rowOf [5, 3, 4, 9, 1]) 2) (g := rowOf [5, 3, 3, 4, 1]) rfl (by decide +kernel))
  have E2 := Lib.hid (eqLit (n := 5) (m := 5) (f := winOf gtB (rowOf [5, 3, 4, 9, 1]) 3) (g := rowOf [5, 5, 5, 9, 9]) rfl (by decide +kernel))
  have E3 := Lib.hid (eqLit (n := 5) (m := 5) (f := baseOf (rowOf [5, 3, 4, 9, 1]) 2 1) (g := rowOf [5, 3, 4, 4, 1]) rfl (by decide +kernel))
  go_enter Try.func13, Try.ntmps13
  go_wp2_with fail
  refine (wmin_any _ 5 _ _ _ (by repeat (first | (with_reducible apply Row.drewN) | (with_reducible apply Row.more) | (refine Row.litR [5, 3, 4, 9, 1] (by simp [Nat.add_assoc]; done) (by rfl) (by rfl)) | (with_reducible apply Row.alloc))) (by omega) 2 (by omega) (by omega)).mono ?_
  rintro e w1 ⟨a_1, c_1, rfl, hc_1, hr_1, hb_1⟩
  obtain ⟨os_1, d_1, rfl⟩ := More.of_below hb_1
  go_wp2_with fail
  refine (equal_any _ _ 5 5 _ _ _ _ _ (by repeat (first | (with_reducible assumption) | (with_reducible exact Row.nil) | (with_reducible apply Row.drewN) | (with_reducible apply Row.drew) | (with_reducible apply Row.more) | (with_reducible apply Row.alloc))) (by repeat (first | (with_reducible apply Row.drewN) | (with_reducible apply Row.more) | (refine Row.litR [5, 3, 3, 4, 1] (by simp [Nat.add_assoc]; done) (by rfl) (by rfl)) | (with_reducible apply Row.alloc))) (by omega) (by omega)).mono ?_
  rintro e w1 ⟨rfl, os_2, d_2, rfl⟩
  rw [E1.out]
  go_wp2_with fail
  refine (wmax_any _ 5 _ _ _ (by repeat (first | (with_reducible apply Row.drewN) | (with_reducible apply Row.more) | (refine Row.litR [5, 3, 4, 9, 1] (by simp [Nat.add_assoc]; done) (by rfl) (by rfl)) | (with_reducible apply Row.alloc))) (by omega) 3 (by omega) (by omega)).mono ?_
  rintro e w1 ⟨a_3, c_3, rfl, hc_3, hr_3, hb_3⟩
  obtain ⟨os_3, d_3, rfl⟩ := More.of_below hb_3
  go_wp2_with fail
  refine (equal_any _ _ 5 5 _ _ _ _ _ (by repeat (first | (with_reducible assumption) | (with_reducible exact Row.nil) | (with_reducible apply Row.drewN) | (with_reducible apply Row.drew) | (with_reducible apply Row.more) | (with_reducible apply Row.alloc))) (by repeat (first | (with_reducible apply Row.drewN) | (with_reducible apply Row.more) | (refine Row.litR [5, 5, 5, 9, 9] (by simp [Nat.add_assoc]; done) (by rfl) (by rfl)) | (with_reducible apply Row.alloc))) (by omega) (by omega)).mono ?_
  rintro e w1 ⟨rfl, os_4, d_4, rfl⟩
  rw [E2.out]
  go_wp2_with fail
  refine (base_any _ 5 _ _ _ (by repeat (first | (with_reducible apply Row.drewN) | (with_reducible apply Row.more) | (refine Row.litR [5, 3, 4, 9, 1] (by simp [Nat.add_assoc]; done) (by rfl) (by rfl)) | (with_reducible apply Row.alloc))) (by omega) 2 1 (by omega) (by omega) (by omega) (by omega)).mono ?_
  rintro e w1 ⟨a_5, c_5, rfl, hc_5, hr_5, hb_5⟩
  obtain ⟨os_5, d_5, rfl⟩ := More.of_below hb_5
  go_wp2_with fail
  refine (equal_any _ _ 5 5 _ _ _ _ _ (by repeat (first | (with_reducible assumption) | (with_reducible exact Row.nil) | (with_reducible apply Row.drewN) | (with_reducible apply Row.drew) | (with_reducible apply Row.more) | (with_reducible apply Row.alloc))) (by repeat (first | (with_reducible apply Row.drewN) | (with_reducible apply Row.more) | (refine Row.litR [5, 3, 4, 4, 1] (by simp [Nat.add_assoc]; done) (by rfl) (by rfl)) | (with_reducible apply Row.alloc))) (by omega) (by omega)).mono ?_
  rintro e w1 ⟨rfl, os_6, d_6, rfl⟩
  rw [E3.out]
  go_wp2_with fail
  refine (wmin_none _ 5 _ _ 0 (by omega)).mono ?_
  rintro e w1 ⟨rfl, rfl⟩
  go_wp2
  go_ret
  exact ⟨rfl, (by repeat (first | (with_reducible assumption) | (with_reducible exact More.refl _) | (with_reducible refine More.alloc ?_ _) | (with_reducible refine More.more ?_ _ _) | (with_reducible refine More.drewN ?_ _) | (with_reducible refine More.drew ?_)))⟩
end Go.Proofs.Ytmlkebemkibipaa
