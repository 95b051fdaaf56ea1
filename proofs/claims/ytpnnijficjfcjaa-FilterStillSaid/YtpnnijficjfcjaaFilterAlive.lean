/- alive3, the closed fact that is asked first: it holds. Conditions: none. -/
import Derived.Test.YtpnnijficjfcjaaFilter
import Derived.Test.YtpnnijficjfcjaaSlEqual
import Derived.Test.YtpnnijficjfcjaaIsFlat
namespace Go.Proofs.Ytpnnijficjfcjaa
open Go.RowKit Go.Tide
set_option linter.unusedVariables false
set_option linter.unusedSimpArgs false

theorem alive3_one : EqRows 4 4 (smooth 1 (fun k => [8, 0, 0, 8].getD k 0)) (fun k => [8, 4, 2, 5].getD k 0) := ⟨rfl, by decide +kernel⟩
theorem alive3_two : EqRows 2 2 (spread 0 (fun k => [8, 0].getD k 0)) (fun k => [0, 8].getD k 0) := ⟨rfl, by decide +kernel⟩

set_option maxHeartbeats 1000000 in
set_option maxRecDepth 20000 in
theorem filter_alive (w : World) : Calls Try.prog 27 #[] w fun e w' => e = .returned (.bool true) ∧ More w w' := by
  go_enter Try.func27, Try.ntmps27
  go_wp2_with fail
  refine (smooth_int _ 4 _ (fun k => [8, 0, 0, 8].getD k 0) 1 _ (Row.lit' [8, 0, 0, 8] (by simp [Nat.add_assoc]) (by rfl) (by rfl)) (by omega) (by omega) (by omega)).mono ?_
  rintro e w1 ⟨a1, c1, rfl, hc1, hr1, hb1⟩
  obtain ⟨os1, d1, rfl⟩ := More.of_below hb1
  go_wp2_with fail
  refine (equal_any _ _ 4 4 _ _ _ (fun k => [8, 4, 2, 5].getD k 0) _ (hr1.alloc _) (Row.lit' [8, 4, 2, 5] (by simp [Nat.add_assoc]) (by rfl) (by rfl)) (by omega) (by omega)).mono ?_
  rintro e w2 ⟨rfl, os2, d2, rfl⟩
  have e1 := eqRows_true alive3_one
  go_wp2_with fail
  refine (spread_int _ 2 _ (fun k => [8, 0].getD k 0) 0 _ (Row.lit' [8, 0] (by simp [Nat.add_assoc]) (by rfl) (by rfl)) (by omega) (by omega) (by omega)).mono ?_
  rintro e w3 ⟨a3, c3, rfl, hc3, hr3, hb3⟩
  obtain ⟨os3, d3, rfl⟩ := More.of_below hb3
  go_wp2_with fail
  refine (equal_any _ _ 2 2 _ _ _ (fun k => [0, 8].getD k 0) _ (hr3.alloc _) (Row.lit' [0, 8] (by simp [Nat.add_assoc]) (by rfl) (by rfl)) (by omega) (by omega)).mono ?_
  rintro e w4 ⟨rfl, os4, d4, rfl⟩
  have e2 := eqRows_true alive3_two
  go_wp2_with fail
  refine (smooth_none _ 1 _ 17 _ (by omega)).mono ?_
  rintro e w5 ⟨rfl, rfl⟩
  go_wp2
  go_ret
  exact ⟨rfl, (by repeat (first | (with_reducible exact More.refl _) | (with_reducible refine More.alloc ?_ _) | (with_reducible refine More.more ?_ _ _) | (with_reducible refine More.drewN ?_ _) | (with_reducible refine More.drew ?_)))⟩
end Go.Proofs.Ytpnnijficjfcjaa
