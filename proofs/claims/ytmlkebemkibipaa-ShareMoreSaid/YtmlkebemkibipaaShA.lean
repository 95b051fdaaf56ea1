/- What the laws of shares use: alive14. Conditions: none. -/
import Derived.Test.YtmlkebemkibipaaEven
import Derived.Test.YtmlkebemkibipaaIsFlat
import Derived.Test.YtmlkebemkibipaaSlMax
set_option linter.unusedVariables false
set_option linter.unusedSimpArgs false
namespace Go.Tide
theorem sr1 : SRight 3 (rowOf [1, 1, 4]) := ⟨by omega, (show ∀ k, k < 3 → 0 ≤ rowOf [1, 1, 4] k ∧ rowOf [1, 1, 4] k ≤ 1048576 from by decide +kernel)⟩
theorem sr2 : SRight 4 (rowOf [9, 1, 9, 4]) := ⟨by omega, (show ∀ k, k < 4 → 0 ≤ rowOf [9, 1, 9, 4] k ∧ rowOf [9, 1, 9, 4] k ≤ 1048576 from by decide +kernel)⟩
theorem sr3 : SRight 2 (rowOf [1, 2]) := ⟨by omega, (show ∀ k, k < 2 → 0 ≤ rowOf [1, 2] k ∧ rowOf [1, 2] k ≤ 1048576 from by decide +kernel)⟩
end Go.Tide
namespace Go.Proofs.Ytmlkebemkibipaa
open Go.RowKit Go.Tide
set_option linter.unusedVariables false
set_option linter.unusedSimpArgs false

set_option maxHeartbeats 1000000 in
theorem share_alive (w : World) : Calls Try.prog 23 #[] w fun e w' => e = .returned (.bool true) ∧ More w w' := by
  have E2 := Lib.hid (eqLit (n := 4) (m := 4) (f := shareOf (fit 10) 4 (rowOf [9, 1, 9, 4])) (g := rowOf [3, 1, 3, 3]) rfl (by decide +kernel))
  have E3 := Lib.hid (eqLit (n := 2) (m := 2) (f := shareOf (fit 99) 2 (rowOf [1, 2])) (g := rowOf [1, 2]) rfl (by decide +kernel))
  have V1 : Hid (isum (rowOf [1, 1, 4]) 3 * isum (rowOf [1, 1, 4]) 3 / (Nat.gcd (isum (rowOf [1, 1, 4]) 3 * isum (rowOf [1, 1, 4]) 3).toNat (((3 : Nat) : Int) * sqTo (rowOf [1, 1, 4]) 3).toNat : Nat) = 2) := by show _ = _; decide +kernel
  have V2 : Hid (((3 : Nat) : Int) * sqTo (rowOf [1, 1, 4]) 3 / (Nat.gcd (isum (rowOf [1, 1, 4]) 3 * isum (rowOf [1, 1, 4]) 3).toNat (((3 : Nat) : Int) * sqTo (rowOf [1, 1, 4]) 3).toNat : Nat) = 3) := by show _ = _; decide +kernel
  have V0 : isum (rowOf [1, 1, 4]) 3 ≠ 0 := by decide +kernel
  have V0h := Lib.hid V0
  clear V0
  go_enter Try.func23, Try.ntmps23
  go_wp2_with fail
  refine (even_any _ 3 _ _ _ (by repeat (first | (with_reducible apply Row.drewN) | (with_reducible apply Row.more) | (refine Row.litR [1, 1, 4] (by simp [Nat.add_assoc]; done) (by rfl) (by rfl)) | (with_reducible apply Row.alloc))) sr1).mono ?_
  rintro e w1 ⟨hd, os1, d1, rfl⟩
  rcases hd with ⟨h0, _⟩ | ⟨_, rfl⟩
  · exact absurd h0 V0h.out
  rw [V1.out, V2.out]
  go_wp2_with fail
  refine (share_any 10 _ 4 _ _ _ (by repeat (first | (with_reducible apply Row.drewN) | (with_reducible apply Row.more) | (refine Row.litR [9, 1, 9, 4] (by simp [Nat.add_assoc]; done) (by rfl) (by rfl)) | (with_reducible apply Row.alloc))) sr2).mono ?_
  rintro e w1 ⟨a3, c3, rfl, hc3, hr3, hb3⟩
  obtain ⟨os3, d3, rfl⟩ := More.of_below hb3
  go_wp2_with fail
  refine (equal_any _ _ 4 4 _ _ _ _ _ (by repeat (first | (with_reducible assumption) | (with_reducible exact Row.nil) | (with_reducible apply Row.drewN) | (with_reducible apply Row.drew) | (with_reducible apply Row.more) | (with_reducible apply Row.alloc))) (by repeat (first | (with_reducible apply Row.drewN) | (with_reducible apply Row.more) | (refine Row.litR [3, 1, 3, 3] (by simp [Nat.add_assoc]; done) (by rfl) (by rfl)) | (with_reducible apply Row.alloc))) (by omega) (by omega)).mono ?_
  rintro e w1 ⟨rfl, os4, d4, rfl⟩
  rw [E2.out]
  go_wp2_with fail
  refine (share_any 99 _ 2 _ _ _ (by repeat (first | (with_reducible apply Row.drewN) | (with_reducible apply Row.more) | (refine Row.litR [1, 2] (by simp [Nat.add_assoc]; done) (by rfl) (by rfl)) | (with_reducible apply Row.alloc))) sr3).mono ?_
  rintro e w1 ⟨a5, c5, rfl, hc5, hr5, hb5⟩
  obtain ⟨os5, d5, rfl⟩ := More.of_below hb5
  go_wp2_with fail
  refine (equal_any _ _ 2 2 _ _ _ _ _ (by repeat (first | (with_reducible assumption) | (with_reducible exact Row.nil) | (with_reducible apply Row.drewN) | (with_reducible apply Row.drew) | (with_reducible apply Row.more) | (with_reducible apply Row.alloc))) (by repeat (first | (with_reducible apply Row.drewN) | (with_reducible apply Row.more) | (refine Row.litR [1, 2] (by simp [Nat.add_assoc]; done) (by rfl) (by rfl)) | (with_reducible apply Row.alloc))) (by omega) (by omega)).mono ?_
  rintro e w1 ⟨rfl, os6, d6, rfl⟩
  rw [E3.out]
  go_wp2
  go_ret
  exact ⟨rfl, (by repeat (first | (with_reducible assumption) | (with_reducible exact More.refl _) | (with_reducible refine More.alloc ?_ _) | (with_reducible refine More.more ?_ _ _) | (with_reducible refine More.drewN ?_ _) | (with_reducible refine More.drew ?_)))⟩
end Go.Proofs.Ytmlkebemkibipaa
