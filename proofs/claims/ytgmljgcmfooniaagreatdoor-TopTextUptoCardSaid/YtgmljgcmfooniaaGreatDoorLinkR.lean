/- The link's question, whether it may be; and its line as a value. Conditions: none. -/
import Derived.Test.YtgmljgcmfooniaaGreatDoorLink
import Derived.Laws.BitsLemmas
import Derived.Test.YtgmljgcmfooniaaGreatDoorOpen
set_option linter.unusedVariables false
set_option linter.unusedSimpArgs false
namespace Go.Tide
end Go.Tide
namespace Go.Proofs.YtgmljgcmfooniaaGreatDoor
open Go.RowKit Go.Tide
set_option linter.unusedVariables false
set_option linter.unusedSimpArgs false
theorem small_true (n m : Int) (w : World) (h : 0 ≤ n ∧ n ≤ m) : Calls Tryz.prog 126 #[.int .i64 n, .int .i64 m] w fun e w' => e = .returned (.bool true) ∧ w' = w := by
  have d1 : decide (0 ≤ n) = true := by simpa using h.1
  have d2 : decide (n ≤ m) = true := by simpa using h.2
  go_enter Tryz.func126, Tryz.ntmps126
  go_wp2
  go_ret
  exact ⟨rfl, rfl⟩
theorem small_false (n m : Int) (w : World) (h : n < 0 ∨ m < n) : Calls Tryz.prog 126 #[.int .i64 n, .int .i64 m] w fun e w' => e = .returned (.bool false) ∧ w' = w := by
  by_cases h1 : n < 0
  · have d1 : decide (0 ≤ n) = false := by simp; omega
    go_enter Tryz.func126, Tryz.ntmps126
    go_wp2
    go_ret
    exact ⟨rfl, rfl⟩
  · have d1 : decide (0 ≤ n) = true := by simp; omega
    have d2 : decide (n ≤ m) = false := by simp; omega
    go_enter Tryz.func126, Tryz.ntmps126
    go_wp2
    go_ret
    exact ⟨rfl, rfl⟩
set_option maxRecDepth 20000 in
set_option maxHeartbeats 4000000 in
theorem right_true (r m w0 w1 s0 s1 : Int) (w : World) (h : LRight r m w0 w1 s0 s1) :
    Calls Tryz.prog 103 #[.int .i64 r, .int .i64 m, .agg #[.int .i64 w0, .int .i64 w1], .agg #[.int .i64 s0, .int .i64 s1]] w fun e w' => e = .returned (.bool true) ∧ More w w' := by
  obtain ⟨h1, h2, h3, h4, h5, h6, h7, h8, h9, h10, h11⟩ := h
  have d1 : decide (0 < r) = true := by simp; omega
  have i1 : IntKind.i64.wrap (w0 + w1) = w0 + w1 := IntWalk.i64_in _ (by omega)
  go_enter Tryz.func103, Tryz.ntmps103
  go_wp2_with (go_at_call 126; refine (small_true _ _ _ (by omega)).mono ?_; rintro e w' ⟨rfl, rfl⟩)
  all_goals
    go_ret
    exact ⟨rfl, (by repeat (first | (with_reducible exact More.refl _) | (with_reducible refine More.alloc ?_ _) | (with_reducible refine More.more ?_ _ _) | (with_reducible refine More.drewN ?_ _) | (with_reducible refine More.drew ?_)))⟩
set_option maxRecDepth 20000 in
set_option maxHeartbeats 4000000 in
theorem right_bad0 (r m w0 w1 s0 s1 : Int) (w : World)  (hc : r < 0 ∨ 12 < r) :
    Calls Tryz.prog 103 #[.int .i64 r, .int .i64 m, .agg #[.int .i64 w0, .int .i64 w1], .agg #[.int .i64 s0, .int .i64 s1]] w fun e w' => e = .returned (.bool false) ∧ More w w' := by
  go_enter Tryz.func103, Tryz.ntmps103
  go_wp2_with (go_at_call 126; first | (refine (small_true _ _ _ (by omega)).mono ?_; rintro e w' ⟨rfl, rfl⟩) | (refine (small_false _ _ _ (by omega)).mono ?_; rintro e w' ⟨rfl, rfl⟩))
  all_goals
    go_ret
    exact ⟨rfl, (by repeat (first | (with_reducible exact More.refl _) | (with_reducible refine More.alloc ?_ _) | (with_reducible refine More.more ?_ _ _) | (with_reducible refine More.drewN ?_ _) | (with_reducible refine More.drew ?_)))⟩
set_option maxRecDepth 20000 in
set_option maxHeartbeats 4000000 in
theorem right_bad1 (r m w0 w1 s0 s1 : Int) (w : World) (h0 : 0 ≤ r) (h1 : r ≤ 12) (hc : r = 0) :
    Calls Tryz.prog 103 #[.int .i64 r, .int .i64 m, .agg #[.int .i64 w0, .int .i64 w1], .agg #[.int .i64 s0, .int .i64 s1]] w fun e w' => e = .returned (.bool false) ∧ More w w' := by
  subst hc
  go_enter Tryz.func103, Tryz.ntmps103
  go_wp2_with (go_at_call 126; first | (refine (small_true _ _ _ (by omega)).mono ?_; rintro e w' ⟨rfl, rfl⟩) | (refine (small_false _ _ _ (by omega)).mono ?_; rintro e w' ⟨rfl, rfl⟩))
  all_goals
    go_ret
    exact ⟨rfl, (by repeat (first | (with_reducible exact More.refl _) | (with_reducible refine More.alloc ?_ _) | (with_reducible refine More.more ?_ _ _) | (with_reducible refine More.drewN ?_ _) | (with_reducible refine More.drew ?_)))⟩
set_option maxRecDepth 20000 in
set_option maxHeartbeats 4000000 in
theorem right_bad2 (r m w0 w1 s0 s1 : Int) (w : World) (h0 : 0 ≤ r) (h1 : r ≤ 12) (h2 : 0 < r) (hc : m < 0 ∨ 16 < m) :
    Calls Tryz.prog 103 #[.int .i64 r, .int .i64 m, .agg #[.int .i64 w0, .int .i64 w1], .agg #[.int .i64 s0, .int .i64 s1]] w fun e w' => e = .returned (.bool false) ∧ More w w' := by
  have d1 : decide (0 < r) = true := by simp; omega
  go_enter Tryz.func103, Tryz.ntmps103
  go_wp2_with (go_at_call 126; first | (refine (small_true _ _ _ (by omega)).mono ?_; rintro e w' ⟨rfl, rfl⟩) | (refine (small_false _ _ _ (by omega)).mono ?_; rintro e w' ⟨rfl, rfl⟩))
  all_goals
    go_ret
    exact ⟨rfl, (by repeat (first | (with_reducible exact More.refl _) | (with_reducible refine More.alloc ?_ _) | (with_reducible refine More.more ?_ _ _) | (with_reducible refine More.drewN ?_ _) | (with_reducible refine More.drew ?_)))⟩
set_option maxRecDepth 20000 in
set_option maxHeartbeats 4000000 in
theorem right_bad3 (r m w0 w1 s0 s1 : Int) (w : World) (h0 : 0 ≤ r) (h1 : r ≤ 12) (h2 : 0 < r) (h3 : 0 ≤ m) (h4 : m ≤ 16) (hc : w0 < 0 ∨ w1 < 0) :
    Calls Tryz.prog 103 #[.int .i64 r, .int .i64 m, .agg #[.int .i64 w0, .int .i64 w1], .agg #[.int .i64 s0, .int .i64 s1]] w fun e w' => e = .returned (.bool false) ∧ More w w' := by
  have d1 : decide (0 < r) = true := by simp; omega
  go_enter Tryz.func103, Tryz.ntmps103
  go_wp2_with (go_at_call 126; first | (refine (small_true _ _ _ (by omega)).mono ?_; rintro e w' ⟨rfl, rfl⟩) | (refine (small_false _ _ _ (by omega)).mono ?_; rintro e w' ⟨rfl, rfl⟩))
  all_goals
    go_ret
    exact ⟨rfl, (by repeat (first | (with_reducible exact More.refl _) | (with_reducible refine More.alloc ?_ _) | (with_reducible refine More.more ?_ _ _) | (with_reducible refine More.drewN ?_ _) | (with_reducible refine More.drew ?_)))⟩
set_option maxRecDepth 20000 in
set_option maxHeartbeats 4000000 in
theorem right_bad4 (r m w0 w1 s0 s1 : Int) (w : World) (h0 : 0 ≤ r) (h1 : r ≤ 12) (h2 : 0 < r) (h3 : 0 ≤ m) (h4 : m ≤ 16) (h5 : 0 ≤ w0) (h6 : 0 ≤ w1) (hc : 17 ≤ w0 + w1) (b0 : InI64 w0) (b1 : InI64 w1) :
    Calls Tryz.prog 103 #[.int .i64 r, .int .i64 m, .agg #[.int .i64 w0, .int .i64 w1], .agg #[.int .i64 s0, .int .i64 s1]] w fun e w' => e = .returned (.bool false) ∧ More w w' := by
  have d1 : decide (0 < r) = true := by simp; omega
  obtain ⟨t, i1, ht⟩ : ∃ t, IntKind.i64.wrap (w0 + w1) = t ∧ (t < 0 ∨ 16 < t) := ⟨_, rfl, by rw [IntKind.wrap_i64]; have := b0.2; have := b1.2; omega⟩
  go_enter Tryz.func103, Tryz.ntmps103
  go_wp2_with (go_at_call 126; first | (refine (small_true _ _ _ (by omega)).mono ?_; rintro e w' ⟨rfl, rfl⟩) | (refine (small_false _ _ _ (by omega)).mono ?_; rintro e w' ⟨rfl, rfl⟩))
  all_goals
    go_ret
    exact ⟨rfl, (by repeat (first | (with_reducible exact More.refl _) | (with_reducible refine More.alloc ?_ _) | (with_reducible refine More.more ?_ _ _) | (with_reducible refine More.drewN ?_ _) | (with_reducible refine More.drew ?_)))⟩
set_option maxRecDepth 20000 in
set_option maxHeartbeats 4000000 in
theorem right_bad5 (r m w0 w1 s0 s1 : Int) (w : World) (h0 : 0 ≤ r) (h1 : r ≤ 12) (h2 : 0 < r) (h3 : 0 ≤ m) (h4 : m ≤ 16) (h5 : 0 ≤ w0) (h6 : 0 ≤ w1) (h7 : w0 + w1 ≤ 16) (hc : s0 < 0 ∨ 12 < s0) :
    Calls Tryz.prog 103 #[.int .i64 r, .int .i64 m, .agg #[.int .i64 w0, .int .i64 w1], .agg #[.int .i64 s0, .int .i64 s1]] w fun e w' => e = .returned (.bool false) ∧ More w w' := by
  have d1 : decide (0 < r) = true := by simp; omega
  have i1 : IntKind.i64.wrap (w0 + w1) = w0 + w1 := IntWalk.i64_in _ (by omega)
  go_enter Tryz.func103, Tryz.ntmps103
  go_wp2_with (go_at_call 126; first | (refine (small_true _ _ _ (by omega)).mono ?_; rintro e w' ⟨rfl, rfl⟩) | (refine (small_false _ _ _ (by omega)).mono ?_; rintro e w' ⟨rfl, rfl⟩))
  all_goals
    go_ret
    exact ⟨rfl, (by repeat (first | (with_reducible exact More.refl _) | (with_reducible refine More.alloc ?_ _) | (with_reducible refine More.more ?_ _ _) | (with_reducible refine More.drewN ?_ _) | (with_reducible refine More.drew ?_)))⟩
set_option maxRecDepth 20000 in
set_option maxHeartbeats 4000000 in
theorem right_bad6 (r m w0 w1 s0 s1 : Int) (w : World) (h0 : 0 ≤ r) (h1 : r ≤ 12) (h2 : 0 < r) (h3 : 0 ≤ m) (h4 : m ≤ 16) (h5 : 0 ≤ w0) (h6 : 0 ≤ w1) (h7 : w0 + w1 ≤ 16) (h8 : 0 ≤ s0) (h9 : s0 ≤ 12) (hc : s1 < 0 ∨ 12 < s1) :
    Calls Tryz.prog 103 #[.int .i64 r, .int .i64 m, .agg #[.int .i64 w0, .int .i64 w1], .agg #[.int .i64 s0, .int .i64 s1]] w fun e w' => e = .returned (.bool false) ∧ More w w' := by
  have d1 : decide (0 < r) = true := by simp; omega
  have i1 : IntKind.i64.wrap (w0 + w1) = w0 + w1 := IntWalk.i64_in _ (by omega)
  go_enter Tryz.func103, Tryz.ntmps103
  go_wp2_with (go_at_call 126; first | (refine (small_true _ _ _ (by omega)).mono ?_; rintro e w' ⟨rfl, rfl⟩) | (refine (small_false _ _ _ (by omega)).mono ?_; rintro e w' ⟨rfl, rfl⟩))
  all_goals
    go_ret
    exact ⟨rfl, (by repeat (first | (with_reducible exact More.refl _) | (with_reducible refine More.alloc ?_ _) | (with_reducible refine More.more ?_ _ _) | (with_reducible refine More.drewN ?_ _) | (with_reducible refine More.drew ?_)))⟩
theorem right_false (r m w0 w1 s0 s1 : Int) (w : World) (b0 : InI64 w0) (b1 : InI64 w1) (h : ¬ LRight r m w0 w1 s0 s1) :
    Calls Tryz.prog 103 #[.int .i64 r, .int .i64 m, .agg #[.int .i64 w0, .int .i64 w1], .agg #[.int .i64 s0, .int .i64 s1]] w fun e w' => e = .returned (.bool false) ∧ More w w' := by
  by_cases c0 : r < 0 ∨ 12 < r
  · exact right_bad0 r m w0 w1 s0 s1 w  c0
  by_cases c1 : r = 0
  · exact right_bad1 r m w0 w1 s0 s1 w (by omega) (by omega) c1
  by_cases c2 : m < 0 ∨ 16 < m
  · exact right_bad2 r m w0 w1 s0 s1 w (by omega) (by omega) (by omega) c2
  by_cases c3 : w0 < 0 ∨ w1 < 0
  · exact right_bad3 r m w0 w1 s0 s1 w (by omega) (by omega) (by omega) (by omega) (by omega) c3
  by_cases c4 : 17 ≤ w0 + w1
  · exact right_bad4 r m w0 w1 s0 s1 w (by omega) (by omega) (by omega) (by omega) (by omega) (by omega) (by omega) c4 b0 b1
  by_cases c5 : s0 < 0 ∨ 12 < s0
  · exact right_bad5 r m w0 w1 s0 s1 w (by omega) (by omega) (by omega) (by omega) (by omega) (by omega) (by omega) (by omega) c5
  by_cases c6 : s1 < 0 ∨ 12 < s1
  · exact right_bad6 r m w0 w1 s0 s1 w (by omega) (by omega) (by omega) (by omega) (by omega) (by omega) (by omega) (by omega) (by omega) (by omega) c6
  exact absurd (by unfold LRight; omega) h
end Go.Proofs.YtgmljgcmfooniaaGreatDoor
