/- CopaFaster: for every control and delay the law returns true. Conditions: none. -/
import Derived.Test.YtiojkmnkpcgdfaaCopa
import Derived.Test.YtiojkmnkpcgdfaaOpen
namespace Go.Proofs.Ytiojkmnkpcgdfaa
open Go.RowKit Go.Tide
set_option linter.unusedVariables false
set_option linter.unusedSimpArgs false

set_option maxHeartbeats 1000000 in
theorem copaFaster_walk (k win base way spd part : Int) (d : Int) (w : World) (_ : InI64 k) (_ : InI64 win) (_ : InI64 base) (_ : InI64 way) (_ : InI64 spd) (_ : InI64 part) (_ : InI64 d) :
    Calls Try.prog 12 #[.agg #[.int .i64 k, .int .i64 win, .int .i64 base, .int .i64 way, .int .i64 spd, .int .i64 part], .int .i64 d] w fun e w' => e = .returned (.bool true) ∧ Below w.heap.size w w' := by
  by_cases hr : copaRight k win base way spd part = true
  · by_cases hd : 0 ≤ d ∧ d ≤ 1099511627776
    · obtain ⟨hd0, hd1⟩ := hd
      obtain ⟨rfl, a1, a2, a3, a4, a5, a6, a7, a8, rfl⟩ := of_decide_eq_true hr
      have c1 : copaWay win base d = 1 ∨ copaWay win base d = -1 := by unfold copaWay; split <;> simp
      have hs : ∀ v, copaWay win base d = v → (v = way → copaSpd win base way spd d = min (max (2 * spd) 1) 4) ∧ (¬ v = way → copaSpd win base way spd d = 1) ∧ copaWin win base way spd d = min (max (win + v * copaSpd win base way spd d) 1) 12 := by
        intro v hv
        refine ⟨fun h => ?_, fun h => ?_, ?_⟩
        · unfold copaSpd; rw [if_pos (by omega)]
        · unfold copaSpd; rw [if_neg (by omega)]
        · rw [← hv]; rfl
      generalize hW : copaWin win base way spd d = W at *
      generalize hV : copaWay win base d = V at *
      generalize hS : copaSpd win base way spd d = S at *
      obtain ⟨s1, s2, s3⟩ := hs V rfl
      have HR := Lib.hid hr
      have HS1 := Lib.hid s1
      have HS2 := Lib.hid s2
      have HS3 := Lib.hid s3
      have hN : ∀ W0, Calls Try.prog 23 #[.agg #[.int .i64 2, .int .i64 win, .int .i64 base, .int .i64 way, .int .i64 spd, .int .i64 0], .int .i64 d] W0 fun e w' =>
          e = .returned (.tuple #[.agg #[.int .i64 2, .int .i64 W, .int .i64 (lowBase base d), .int .i64 V, .int .i64 S, .int .i64 0], .int .i64 0]) ∧ More W0 w' := by
        intro W0
        rw [← hW, ← hV, ← hS]
        exact copa_next_ok _ _ _ _ _ _ _ _ hr hd0 hd1
      have HN := Lib.hid hN
      have b1 : 0 ≤ S ∧ S ≤ 4 := by omega
      have b2 : 1 ≤ W ∧ W ≤ 12 := by omega
      obtain ⟨b3, b4⟩ := b1
      obtain ⟨b5, b6⟩ := b2
      clear hN hr s1 s2 s3 hs hW hV hS
      by_cases hv : V = way
      · subst hv
        have HS := Lib.hid (HS1.out rfl)
        rcases c1 with rfl | rfl
        all_goals
          go_enter Try.func12, Try.ntmps12
          go_wp2_with (first
            | (go_at_call 21; refine (copa_alive _).mono ?_; rintro e w' ⟨rfl, os, n, rfl⟩)
            | (go_at_call 23; refine (HN.out _).mono ?_; rintro e w' ⟨rfl, os1, n1, rfl⟩))
        all_goals
          have k1 := HS.out
          have k3 := HS3.out
          go_ret
          refine ⟨ret_bool ?_, More.below (by repeat (first | (with_reducible exact More.refl _) | (with_reducible refine More.alloc ?_ _) | (with_reducible refine More.more ?_ _ _) | (with_reducible refine More.drewN ?_ _) | (with_reducible refine More.drew ?_)))⟩
          first
            | rfl
            | (exfalso; omega)
            | ((simp only [Bool.or_eq_true, Bool.and_eq_true, Bool.not_eq_true', decide_eq_true_eq, decide_eq_false_iff_not, beq_iff_eq, bne_iff_ne, beq_eq_false_iff_ne, ne_eq, Bool.false_eq_true, or_false, false_or, Bool.true_or, Bool.or_true]); omega)
      · have hv2 : (V != way) = true := by simpa using hv
        have HS := Lib.hid (HS2.out hv)
        rcases c1 with rfl | rfl
        all_goals
          go_enter Try.func12, Try.ntmps12
          go_wp2_with (first
            | (go_at_call 21; refine (copa_alive _).mono ?_; rintro e w' ⟨rfl, os, n, rfl⟩)
            | (go_at_call 23; refine (HN.out _).mono ?_; rintro e w' ⟨rfl, os1, n1, rfl⟩))
        all_goals
          have k1 := HS.out
          have k3 := HS3.out
          go_ret
          refine ⟨ret_bool ?_, More.below (by repeat (first | (with_reducible exact More.refl _) | (with_reducible refine More.alloc ?_ _) | (with_reducible refine More.more ?_ _ _) | (with_reducible refine More.drewN ?_ _) | (with_reducible refine More.drew ?_)))⟩
          first
            | rfl
            | (exfalso; omega)
            | ((simp only [Bool.or_eq_true, Bool.and_eq_true, Bool.not_eq_true', decide_eq_true_eq, decide_eq_false_iff_not, beq_iff_eq, bne_iff_ne, beq_eq_false_iff_ne, ne_eq, Bool.false_eq_true, or_false, false_or, Bool.true_or, Bool.or_true]); omega)
    · go_enter Try.func12, Try.ntmps12
      go_wp2_with (first
        | (go_at_call 21; refine (copa_alive _).mono ?_; rintro e w' ⟨rfl, os, n, rfl⟩)
        | (go_at_call 23; refine (copa_next_range _ _ _ _ _ _ _ _ hr (by omega)).mono ?_; rintro e w' ⟨rfl, os1, n1, rfl⟩))
      go_ret
      exact ⟨rfl, More.below (by repeat (first | (with_reducible exact More.refl _) | (with_reducible refine More.alloc ?_ _) | (with_reducible refine More.more ?_ _ _) | (with_reducible refine More.drewN ?_ _) | (with_reducible refine More.drew ?_)))⟩
  · have hr' : copaRight k win base way spd part = false := by simpa using hr
    clear hr
    go_enter Try.func12, Try.ntmps12
    go_wp2_with (first
      | (go_at_call 21; refine (copa_alive _).mono ?_; rintro e w' ⟨rfl, os, n, rfl⟩)
      | (go_at_call 23; refine (copa_next_form _ _ _ _ _ _ _ _ hr').mono ?_; rintro e w' ⟨rfl, os1, n1, rfl⟩))
    go_ret
    exact ⟨rfl, More.below (by repeat (first | (with_reducible exact More.refl _) | (with_reducible refine More.alloc ?_ _) | (with_reducible refine More.more ?_ _ _) | (with_reducible refine More.drewN ?_ _) | (with_reducible refine More.drew ?_)))⟩
end Go.Proofs.Ytiojkmnkpcgdfaa
