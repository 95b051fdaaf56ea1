/- VegasRests: for every control and delay the law returns true. Conditions: none. -/
import Derived.Test.YtiojkmnkpcgdfaaVeg
import Derived.Test.YtiojkmnkpcgdfaaOpen
import Derived.Laws.StructEq
namespace Go.Proofs.Ytiojkmnkpcgdfaa
open Go.RowKit Go.Tide
set_option linter.unusedVariables false
set_option linter.unusedSimpArgs false

set_option maxHeartbeats 1000000 in
theorem vegasRests_walk (k win base way spd part : Int) (d : Int) (w : World) (_ : InI64 k) (_ : InI64 win) (_ : InI64 base) (_ : InI64 way) (_ : InI64 spd) (_ : InI64 part) (_ : InI64 d) :
    Calls Try.prog 9 #[.agg #[.int .i64 k, .int .i64 win, .int .i64 base, .int .i64 way, .int .i64 spd, .int .i64 part], .int .i64 d] w fun e w' => e = .returned (.bool true) ∧ Below w.heap.size w w' := by
  by_cases hr : vegasRight k win base way spd part = true
  · by_cases hd : 0 ≤ d ∧ d ≤ 1099511627776
    · obtain ⟨hd0, hd1⟩ := hd
      obtain ⟨rfl, a1, a2, a3, a4, rfl, rfl, rfl⟩ := of_decide_eq_true hr
      have c1 : vegWin win base d ≤ win + 1 := by simp only [vegWin]; omega
      have c2 : win - 1 ≤ vegWin win base d := by simp only [vegWin]; omega
      have c3 : 1 ≤ vegWin win base d := by simp only [vegWin]; omega
      have c4 : vegWin win base d ≤ 12 := by simp only [vegWin]; omega
      have c5 : 0 ≤ lowBase base d := by simp only [lowBase]; omega
      have c6 : lowBase base d ≤ 1099511627776 := by simp only [lowBase]; omega
      have hl : lowBase (lowBase base d) d = lowBase base d := by simp only [lowBase]; omega
      have hw : vegWin win base d = win → vegWin (vegWin win base d) (lowBase base d) d = vegWin win base d := by
        intro h
        rw [h]
        have hm : vegMore win (lowBase base d) d = vegMore win base d := by unfold vegMore; rw [hl]
        have h' := h
        unfold vegWin at h ⊢
        rw [hm]
        exact h
      have hr2 : vegasRight 1 (vegWin win base d) (lowBase base d) 0 0 0 = true := decide_eq_true (by omega)
      have HR := Lib.hid hr
      have HR2 := Lib.hid hr2
      have HW := Lib.hid hw
      clear hr hr2 hw
      have tok1 : True := trivial
      go_enter Try.func9, Try.ntmps9
      go_wp2_with (first
        | (go_at_call 17; refine (vegas_alive _).mono ?_; rintro e w' ⟨rfl, os, n, rfl⟩)
        | (go_at_call 19; have _t := tok1; refine (vegas_next_ok _ _ _ _ _ _ _ _ HR.out hd0 hd1).mono ?_; rintro e w' ⟨rfl, x, y, z, rfl⟩; clear tok1)
        | (go_at_call 19; refine (vegas_next_ok _ _ _ _ _ _ _ _ HR2.out hd0 hd1).mono ?_; rintro e w' ⟨rfl, x2, y2, z2, rfl⟩))
      all_goals
        go_ret
        refine ⟨ret_bool ?_, More.below (by repeat (first | (with_reducible exact More.refl _) | (with_reducible refine More.alloc ?_ _) | (with_reducible refine More.more ?_ _ _) | (with_reducible refine More.drewN ?_ _) | (with_reducible refine More.drew ?_)))⟩
        first
          | rfl
          | (exfalso; have h1 := ‹vegWin win base d = win›; have h2 := HW.out h1; rw [h1] at h2; contradiction)
          | (have h1 := ‹¬ vegWin win base d = win›; simp [h1])
    · go_enter Try.func9, Try.ntmps9
      go_wp2_with (first
        | (go_at_call 17; refine (vegas_alive _).mono ?_; rintro e w' ⟨rfl, os, n, rfl⟩)
        | (go_at_call 19; refine (vegas_next_range _ _ _ _ _ _ _ _ hr (by omega)).mono ?_; rintro e w' ⟨rfl, x, y, z, rfl⟩))
      go_ret
      exact ⟨rfl, More.below (by repeat (first | (with_reducible exact More.refl _) | (with_reducible refine More.alloc ?_ _) | (with_reducible refine More.more ?_ _ _) | (with_reducible refine More.drewN ?_ _) | (with_reducible refine More.drew ?_)))⟩
  · have hr' : vegasRight k win base way spd part = false := by simpa using hr
    clear hr
    go_enter Try.func9, Try.ntmps9
    go_wp2_with (first
      | (go_at_call 17; refine (vegas_alive _).mono ?_; rintro e w' ⟨rfl, os, n, rfl⟩)
      | (go_at_call 19; refine (vegas_next_form _ _ _ _ _ _ _ _ hr').mono ?_; rintro e w' ⟨rfl, x, y, z, rfl⟩))
    go_ret
    exact ⟨rfl, More.below (by repeat (first | (with_reducible exact More.refl _) | (with_reducible refine More.alloc ?_ _) | (with_reducible refine More.more ?_ _ _) | (with_reducible refine More.drewN ?_ _) | (with_reducible refine More.drew ?_)))⟩
end Go.Proofs.Ytiojkmnkpcgdfaa
