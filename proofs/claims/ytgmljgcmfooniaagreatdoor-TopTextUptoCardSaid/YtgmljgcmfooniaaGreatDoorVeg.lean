/- What vegas.Right, vegas.New and vegas.Next answer, for every input: contracts over this seat's program. Conditions: none beyond the types. -/
import Derived.Test.YtgmljgcmfooniaaGreatDoorProg
import Derived.Test.YtgmljgcmfooniaaGreatDoorKit
import Derived.Test.YtgmljgcmfooniaaGreatDoorLow
namespace Go.Proofs.YtgmljgcmfooniaaGreatDoor
open Go.RowKit Go.Tide
set_option linter.unusedVariables false
set_option linter.unusedSimpArgs false

def vegasRight (k win base way spd part : Int) : Bool :=
  decide (k = 1 ∧ 1 ≤ win ∧ win ≤ 12 ∧ -1 ≤ base ∧ base ≤ 1099511627776 ∧ way = 0 ∧ spd = 0 ∧ part = 0)
def vegMore (win base d : Int) : Int := win * (d - lowBase base d) / (1 + d)
def vegWin (win base d : Int) : Int := min (max (if vegMore win base d < 1 then win + 1 else if 2 < vegMore win base d then win - 1 else win) 1) 12

set_option maxHeartbeats 400000 in
theorem vegas_right (k win base way spd part : Int) (w : World) :
    Calls Tryz.prog 95 #[.agg #[.int .i64 k, .int .i64 win, .int .i64 base, .int .i64 way, .int .i64 spd, .int .i64 part]] w fun e w' =>
      e = .returned (.bool (vegasRight k win base way spd part)) ∧ ∃ o, w' = w.alloc o := by
  go_enter Tryz.func95, Tryz.ntmps95
  go_wp2
  all_goals
    go_ret
    refine ⟨ret_bool_iff ?_, _, rfl⟩
    simp only [vegasRight, decide_eq_true_eq, Bool.or_eq_true, beq_iff_eq, Bool.false_eq_true, true_iff, false_iff, iff_true, iff_false] <;> omega

set_option maxHeartbeats 400000 in
theorem vegas_next_ok (k win base way spd part d : Int) (w : World) (h : vegasRight k win base way spd part = true) (h0 : 0 ≤ d) (h1 : d ≤ 1099511627776) :
    Calls Tryz.prog 96 #[.agg #[.int .i64 k, .int .i64 win, .int .i64 base, .int .i64 way, .int .i64 spd, .int .i64 part], .int .i64 d] w fun e w' =>
      e = .returned (.tuple #[.agg #[.int .i64 1, .int .i64 (vegWin win base d), .int .i64 (lowBase base d), .int .i64 0, .int .i64 0, .int .i64 0], .int .i64 0]) ∧ ∃ a b c, w' = ((w.alloc a).alloc b).alloc c := by
  have h' := of_decide_eq_true h
  obtain ⟨rfl, a1, a2, a3, a4, rfl, rfl, rfl⟩ := h'
  by_cases hb : base < 0 ∨ d < base
  · have hl : lowBase base d = d := by simp only [lowBase, if_pos hb]
    have HL := Lib.hid hl
    clear hl
    go_enter Tryz.func96, Tryz.ntmps96
    go_wp2_with (go_at_call 95; refine (vegas_right _ _ _ _ _ _ _).mono ?_; rintro e w' ⟨rfl, o, rfl⟩)
    all_goals
      refine bodyPost_ret (v := .tuple #[.agg #[.int .i64 1, .int .i64 (vegWin win base d), .int .i64 (lowBase base d), .int .i64 0, .int .i64 0, .int .i64 0], .int .i64 0]) ?_ rfl ⟨rfl, _, _, _, rfl⟩
      simp [results, Tryz.results96, go_sem]
      simp only [vegWin, vegMore, HL.out, Int.sub_self, Int.mul_zero, Int.zero_ediv, and_true]
      omega
  · have hb0 : 0 ≤ base := by omega
    have hb1 : base ≤ d := by omega
    have hl : lowBase base d = base := by simp only [lowBase, if_neg hb]
    have HL := Lib.hid hl
    have hw0 : 0 ≤ win * (d - base) := Int.mul_nonneg (by omega) (by omega)
    have hw1 : win * (d - base) ≤ 13194139533312 := by
      have h1 := Int.mul_le_mul a2 (by omega : d - base ≤ 1099511627776) (by omega) (by omega)
      omega
    have hq : vegMore win base d = win * (d - base) / (1 + d) := by simp only [vegMore, hl]
    have HQ := Lib.hid hq
    clear hl hb hq
    go_enter Tryz.func96, Tryz.ntmps96
    go_wp2_with (go_at_call 95; refine (vegas_right _ _ _ _ _ _ _).mono ?_; rintro e w' ⟨rfl, o, rfl⟩)
    all_goals
      refine bodyPost_ret (v := .tuple #[.agg #[.int .i64 1, .int .i64 (vegWin win base d), .int .i64 (lowBase base d), .int .i64 0, .int .i64 0, .int .i64 0], .int .i64 0]) ?_ rfl ⟨rfl, _, _, _, rfl⟩
      simp [results, Tryz.results96, go_sem]
      simp only [vegWin, HL.out, HQ.out, and_true]
      omega

set_option maxHeartbeats 400000 in
theorem vegas_next_form (k win base way spd part d : Int) (w : World) (h : vegasRight k win base way spd part = false) :
    Calls Tryz.prog 96 #[.agg #[.int .i64 k, .int .i64 win, .int .i64 base, .int .i64 way, .int .i64 spd, .int .i64 part], .int .i64 d] w fun e w' =>
      e = .returned (.tuple #[.agg #[.int .i64 0, .int .i64 0, .int .i64 0, .int .i64 0, .int .i64 0, .int .i64 0], .int .i64 1]) ∧ ∃ a b c, w' = ((w.alloc a).alloc b).alloc c := by
  go_enter Tryz.func96, Tryz.ntmps96
  go_wp2_with (go_at_call 95; refine (vegas_right _ _ _ _ _ _ _).mono ?_; rintro e w' ⟨rfl, o, rfl⟩)
  refine bodyPost_ret (v := .tuple #[.agg #[.int .i64 0, .int .i64 0, .int .i64 0, .int .i64 0, .int .i64 0, .int .i64 0], .int .i64 1]) (by simp [results, Tryz.results96, go_sem]) rfl ⟨rfl, _, _, _, rfl⟩

set_option maxHeartbeats 400000 in
theorem vegas_next_range (k win base way spd part d : Int) (w : World) (h : vegasRight k win base way spd part = true) (h0 : d < 0 ∨ 1099511627776 < d) :
    Calls Tryz.prog 96 #[.agg #[.int .i64 k, .int .i64 win, .int .i64 base, .int .i64 way, .int .i64 spd, .int .i64 part], .int .i64 d] w fun e w' =>
      e = .returned (.tuple #[.agg #[.int .i64 0, .int .i64 0, .int .i64 0, .int .i64 0, .int .i64 0, .int .i64 0], .int .i64 2]) ∧ ∃ a b c, w' = ((w.alloc a).alloc b).alloc c := by
  go_enter Tryz.func96, Tryz.ntmps96
  go_wp2_with (go_at_call 95; refine (vegas_right _ _ _ _ _ _ _).mono ?_; rintro e w' ⟨rfl, o, rfl⟩)
  all_goals
    refine bodyPost_ret (v := .tuple #[.agg #[.int .i64 0, .int .i64 0, .int .i64 0, .int .i64 0, .int .i64 0, .int .i64 0], .int .i64 2]) (by simp [results, Tryz.results96, go_sem]) rfl ⟨rfl, _, _, _, rfl⟩

set_option maxHeartbeats 400000 in
theorem vegas_new (n : Int) (w : World) :
    Calls Tryz.prog 94 #[.int .i64 n] w fun e w' =>
      e = .returned (.agg #[.int .i64 1, .int .i64 (min (max n 1) 12), .int .i64 (-1), .int .i64 0, .int .i64 0, .int .i64 0]) ∧ ∃ a, w' = w.alloc a := by
  go_enter Tryz.func94, Tryz.ntmps94
  go_wp2
  all_goals
    refine bodyPost_ret (v := .agg #[.int .i64 1, .int .i64 (min (max n 1) 12), .int .i64 (-1), .int .i64 0, .int .i64 0, .int .i64 0]) ?_ rfl ⟨rfl, _, rfl⟩
    simp [results, Tryz.results94, go_sem]
    try omega

/-- What Next answers: the six numbers behind it, and the errno. -/
def VegNext (k win base way spd part d k' win' base' way' spd' part' er : Int) : Prop :=
  (vegasRight k win base way spd part = false ∧ er = 1 ∧ k' = 0 ∧ win' = 0 ∧ base' = 0 ∧ way' = 0 ∧ spd' = 0 ∧ part' = 0) ∨
  (vegasRight k win base way spd part = true ∧ (d < 0 ∨ 1099511627776 < d) ∧ er = 2 ∧ k' = 0 ∧ win' = 0 ∧ base' = 0 ∧ way' = 0 ∧ spd' = 0 ∧ part' = 0) ∨
  (vegasRight k win base way spd part = true ∧ 0 ≤ d ∧ d ≤ 1099511627776 ∧ er = 0 ∧ k' = 1 ∧ win' = vegWin win base d ∧ base' = lowBase base d ∧ way' = 0 ∧ spd' = 0 ∧ part' = 0)

theorem vegas_next (k win base way spd part d : Int) (w : World) :
    Calls Tryz.prog 96 #[.agg #[.int .i64 k, .int .i64 win, .int .i64 base, .int .i64 way, .int .i64 spd, .int .i64 part], .int .i64 d] w fun e w' =>
      ∃ k' win' base' way' spd' part' er a b c, VegNext k win base way spd part d k' win' base' way' spd' part' er ∧
        e = .returned (.tuple #[.agg #[.int .i64 k', .int .i64 win', .int .i64 base', .int .i64 way', .int .i64 spd', .int .i64 part'], .int .i64 er]) ∧ w' = ((w.alloc a).alloc b).alloc c := by
  by_cases hr : vegasRight k win base way spd part = true
  · by_cases hd : 0 ≤ d ∧ d ≤ 1099511627776
    · exact (vegas_next_ok k win base way spd part d w hr hd.1 hd.2).mono fun e w' ⟨he, a, b, c, hw⟩ => ⟨_, _, _, _, _, _, _, a, b, c, .inr (.inr ⟨hr, hd.1, hd.2, rfl, rfl, rfl, rfl, rfl, rfl, rfl⟩), he, hw⟩
    · exact (vegas_next_range k win base way spd part d w hr (by omega)).mono fun e w' ⟨he, a, b, c, hw⟩ => ⟨_, _, _, _, _, _, _, a, b, c, .inr (.inl ⟨hr, by omega, rfl, rfl, rfl, rfl, rfl, rfl, rfl⟩), he, hw⟩
  · exact (vegas_next_form k win base way spd part d w (by simpa using hr)).mono fun e w' ⟨he, a, b, c, hw⟩ => ⟨_, _, _, _, _, _, _, a, b, c, .inl ⟨by simpa using hr, rfl, rfl, rfl, rfl, rfl, rfl, rfl⟩, he, hw⟩

end Go.Proofs.YtgmljgcmfooniaaGreatDoor
