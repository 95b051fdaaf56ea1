/- What ledbat.Right, ledbat.New and ledbat.Next answer, for every input: contracts over this seat's program. Conditions: none beyond the types. -/
import Derived.Test.YtgmljgcmfooniaaGreatDoorProg
import Derived.Test.YtgmljgcmfooniaaGreatDoorKit
import Derived.Test.YtgmljgcmfooniaaGreatDoorLow
namespace Go.Proofs.YtgmljgcmfooniaaGreatDoor
open Go.RowKit Go.Tide
set_option linter.unusedVariables false
set_option linter.unusedSimpArgs false

def ledbatRight (k win base way spd part : Int) : Bool :=
  decide (k = 3 ∧ 1 ≤ win ∧ win ≤ 12 ∧ -1 ≤ base ∧ base ≤ 1099511627776 ∧ way = 0 ∧ spd = 0 ∧ 0 ≤ part ∧ part < 4 ∧ (part = 0 ∨ win < 12))
def ledAll (win base part d : Int) : Int := min (max (4 * win + part + max (2 - (d - lowBase base d)) (-2)) 4) 48

set_option maxHeartbeats 400000 in
theorem ledbat_right (k win base way spd part : Int) (w : World) :
    Calls Tryz.prog 101 #[.agg #[.int .i64 k, .int .i64 win, .int .i64 base, .int .i64 way, .int .i64 spd, .int .i64 part]] w fun e w' =>
      e = .returned (.bool (ledbatRight k win base way spd part)) ∧ ∃ o, w' = w.alloc o := by
  go_enter Tryz.func101, Tryz.ntmps101
  go_wp2
  all_goals
    go_ret
    refine ⟨ret_bool_iff ?_, _, rfl⟩
    simp only [ledbatRight, decide_eq_true_eq, Bool.or_eq_true, beq_iff_eq, Bool.false_eq_true, true_iff, false_iff, iff_true, iff_false] <;> omega

set_option maxHeartbeats 400000 in
theorem ledbat_next_ok (k win base way spd part d : Int) (w : World) (h : ledbatRight k win base way spd part = true) (h0 : 0 ≤ d) (h1 : d ≤ 1099511627776) :
    Calls Tryz.prog 102 #[.agg #[.int .i64 k, .int .i64 win, .int .i64 base, .int .i64 way, .int .i64 spd, .int .i64 part], .int .i64 d] w fun e w' =>
      e = .returned (.tuple #[.agg #[.int .i64 3, .int .i64 (ledAll win base part d / 4), .int .i64 (lowBase base d), .int .i64 0, .int .i64 0, .int .i64 (ledAll win base part d % 4)], .int .i64 0]) ∧ ∃ a b c, w' = ((w.alloc a).alloc b).alloc c := by
  have h' := of_decide_eq_true h
  obtain ⟨rfl, a1, a2, a3, a4, rfl, rfl, a5, a6, a7⟩ := h'
  have H7 := Lib.hid a7
  clear a7
  go_enter Tryz.func102, Tryz.ntmps102
  go_wp2_with (go_at_call 101; refine (ledbat_right _ _ _ _ _ _ _).mono ?_; rintro e w' ⟨rfl, o, rfl⟩)
  all_goals
    refine bodyPost_ret (v := .tuple #[.agg #[.int .i64 3, .int .i64 (ledAll win base part d / 4), .int .i64 (lowBase base d), .int .i64 0, .int .i64 0, .int .i64 (ledAll win base part d % 4)], .int .i64 0]) ?_ rfl ⟨rfl, _, _, _, rfl⟩
    simp [results, Tryz.results102, go_sem]
    simp only [ledAll, lowBase]
    omega

set_option maxHeartbeats 400000 in
theorem ledbat_next_form (k win base way spd part d : Int) (w : World) (h : ledbatRight k win base way spd part = false) :
    Calls Tryz.prog 102 #[.agg #[.int .i64 k, .int .i64 win, .int .i64 base, .int .i64 way, .int .i64 spd, .int .i64 part], .int .i64 d] w fun e w' =>
      e = .returned (.tuple #[.agg #[.int .i64 0, .int .i64 0, .int .i64 0, .int .i64 0, .int .i64 0, .int .i64 0], .int .i64 1]) ∧ ∃ a b c, w' = ((w.alloc a).alloc b).alloc c := by
  go_enter Tryz.func102, Tryz.ntmps102
  go_wp2_with (go_at_call 101; refine (ledbat_right _ _ _ _ _ _ _).mono ?_; rintro e w' ⟨rfl, o, rfl⟩)
  refine bodyPost_ret (v := .tuple #[.agg #[.int .i64 0, .int .i64 0, .int .i64 0, .int .i64 0, .int .i64 0, .int .i64 0], .int .i64 1]) (by simp [results, Tryz.results102, go_sem]) rfl ⟨rfl, _, _, _, rfl⟩

set_option maxHeartbeats 400000 in
theorem ledbat_next_range (k win base way spd part d : Int) (w : World) (h : ledbatRight k win base way spd part = true) (h0 : d < 0 ∨ 1099511627776 < d) :
    Calls Tryz.prog 102 #[.agg #[.int .i64 k, .int .i64 win, .int .i64 base, .int .i64 way, .int .i64 spd, .int .i64 part], .int .i64 d] w fun e w' =>
      e = .returned (.tuple #[.agg #[.int .i64 0, .int .i64 0, .int .i64 0, .int .i64 0, .int .i64 0, .int .i64 0], .int .i64 2]) ∧ ∃ a b c, w' = ((w.alloc a).alloc b).alloc c := by
  go_enter Tryz.func102, Tryz.ntmps102
  go_wp2_with (go_at_call 101; refine (ledbat_right _ _ _ _ _ _ _).mono ?_; rintro e w' ⟨rfl, o, rfl⟩)
  all_goals
    refine bodyPost_ret (v := .tuple #[.agg #[.int .i64 0, .int .i64 0, .int .i64 0, .int .i64 0, .int .i64 0, .int .i64 0], .int .i64 2]) (by simp [results, Tryz.results102, go_sem]) rfl ⟨rfl, _, _, _, rfl⟩

set_option maxHeartbeats 400000 in
theorem ledbat_new (n : Int) (w : World) :
    Calls Tryz.prog 100 #[.int .i64 n] w fun e w' =>
      e = .returned (.agg #[.int .i64 3, .int .i64 (min (max n 1) 12), .int .i64 (-1), .int .i64 0, .int .i64 0, .int .i64 0]) ∧ ∃ a, w' = w.alloc a := by
  go_enter Tryz.func100, Tryz.ntmps100
  go_wp2
  all_goals
    refine bodyPost_ret (v := .agg #[.int .i64 3, .int .i64 (min (max n 1) 12), .int .i64 (-1), .int .i64 0, .int .i64 0, .int .i64 0]) ?_ rfl ⟨rfl, _, rfl⟩
    simp [results, Tryz.results100, go_sem]
    try omega

/-- What Next answers: the six numbers behind it, and the errno. -/
def LedNext (k win base way spd part d k' win' base' way' spd' part' er : Int) : Prop :=
  (ledbatRight k win base way spd part = false ∧ er = 1 ∧ k' = 0 ∧ win' = 0 ∧ base' = 0 ∧ way' = 0 ∧ spd' = 0 ∧ part' = 0) ∨
  (ledbatRight k win base way spd part = true ∧ (d < 0 ∨ 1099511627776 < d) ∧ er = 2 ∧ k' = 0 ∧ win' = 0 ∧ base' = 0 ∧ way' = 0 ∧ spd' = 0 ∧ part' = 0) ∨
  (ledbatRight k win base way spd part = true ∧ 0 ≤ d ∧ d ≤ 1099511627776 ∧ er = 0 ∧ k' = 3 ∧ win' = ledAll win base part d / 4 ∧ base' = lowBase base d ∧ way' = 0 ∧ spd' = 0 ∧ part' = ledAll win base part d % 4)

theorem ledbat_next (k win base way spd part d : Int) (w : World) :
    Calls Tryz.prog 102 #[.agg #[.int .i64 k, .int .i64 win, .int .i64 base, .int .i64 way, .int .i64 spd, .int .i64 part], .int .i64 d] w fun e w' =>
      ∃ k' win' base' way' spd' part' er a b c, LedNext k win base way spd part d k' win' base' way' spd' part' er ∧
        e = .returned (.tuple #[.agg #[.int .i64 k', .int .i64 win', .int .i64 base', .int .i64 way', .int .i64 spd', .int .i64 part'], .int .i64 er]) ∧ w' = ((w.alloc a).alloc b).alloc c := by
  by_cases hr : ledbatRight k win base way spd part = true
  · by_cases hd : 0 ≤ d ∧ d ≤ 1099511627776
    · exact (ledbat_next_ok k win base way spd part d w hr hd.1 hd.2).mono fun e w' ⟨he, a, b, c, hw⟩ => ⟨_, _, _, _, _, _, _, a, b, c, .inr (.inr ⟨hr, hd.1, hd.2, rfl, rfl, rfl, rfl, rfl, rfl, rfl⟩), he, hw⟩
    · exact (ledbat_next_range k win base way spd part d w hr (by omega)).mono fun e w' ⟨he, a, b, c, hw⟩ => ⟨_, _, _, _, _, _, _, a, b, c, .inr (.inl ⟨hr, by omega, rfl, rfl, rfl, rfl, rfl, rfl, rfl⟩), he, hw⟩
  · exact (ledbat_next_form k win base way spd part d w (by simpa using hr)).mono fun e w' ⟨he, a, b, c, hw⟩ => ⟨_, _, _, _, _, _, _, a, b, c, .inl ⟨by simpa using hr, rfl, rfl, rfl, rfl, rfl, rfl, rfl⟩, he, hw⟩

end Go.Proofs.YtgmljgcmfooniaaGreatDoor
