/- What copa.Right, copa.New and copa.Next answer, for every input: contracts over this seat's program. Conditions: none beyond the types. -/
import Derived.Test.YtgmljgcmfooniaaGreatDoorProg
import Derived.Test.YtgmljgcmfooniaaGreatDoorKit
import Derived.Test.YtgmljgcmfooniaaGreatDoorLow
namespace Go.Proofs.YtgmljgcmfooniaaGreatDoor
open Go.RowKit Go.Tide
set_option linter.unusedVariables false
set_option linter.unusedSimpArgs false

def copaRight (k win base way spd part : Int) : Bool :=
  decide (k = 2 ∧ 1 ≤ win ∧ win ≤ 12 ∧ -1 ≤ base ∧ base ≤ 1099511627776 ∧ -1 ≤ way ∧ way ≤ 1 ∧ 0 ≤ spd ∧ spd ≤ 4 ∧ part = 0)
def copaWay (win base d : Int) : Int := if 0 < d - lowBase base d ∧ 2 * (1 + d) / (d - lowBase base d) < win then -1 else 1
def copaSpd (win base way spd d : Int) : Int := if copaWay win base d = way then min (max (2 * spd) 1) 4 else 1
def copaWin (win base way spd d : Int) : Int := min (max (win + copaWay win base d * copaSpd win base way spd d) 1) 12

set_option maxHeartbeats 400000 in
theorem copa_right (k win base way spd part : Int) (w : World) :
    Calls Tryz.prog 98 #[.agg #[.int .i64 k, .int .i64 win, .int .i64 base, .int .i64 way, .int .i64 spd, .int .i64 part]] w fun e w' =>
      e = .returned (.bool (copaRight k win base way spd part)) ∧ ∃ o, w' = w.alloc o := by
  go_enter Tryz.func98, Tryz.ntmps98
  go_wp2
  all_goals
    go_ret
    refine ⟨ret_bool_iff ?_, _, rfl⟩
    simp only [copaRight, decide_eq_true_eq, Bool.or_eq_true, beq_iff_eq, Bool.false_eq_true, true_iff, false_iff, iff_true, iff_false] <;> omega

theorem copa_close {win base way spd d v nw ns : Int} (hv : copaWay win base d = v)
    (h3 : v = way → ns = min (max (2 * spd) 1) 4) (h4 : ¬ v = way → ns = 1) (h5 : nw = min (max (win + v * ns) 1) 12) :
    nw = copaWin win base way spd d ∧ ns = copaSpd win base way spd d := by
  have hs : ns = copaSpd win base way spd d := by
    unfold copaSpd
    rw [hv]
    split
    · rename_i h; exact h3 h
    · rename_i h; exact h4 h
  exact ⟨by rw [h5, hs, ← hv]; rfl, hs⟩

set_option maxHeartbeats 4000000 in
theorem copa_next_ok (k win base way spd part d : Int) (w : World) (h : copaRight k win base way spd part = true) (h0 : 0 ≤ d) (h1 : d ≤ 1099511627776) :
    Calls Tryz.prog 99 #[.agg #[.int .i64 k, .int .i64 win, .int .i64 base, .int .i64 way, .int .i64 spd, .int .i64 part], .int .i64 d] w fun e w' =>
      e = .returned (.tuple #[.agg #[.int .i64 2, .int .i64 (copaWin win base way spd d), .int .i64 (lowBase base d), .int .i64 (copaWay win base d), .int .i64 (copaSpd win base way spd d), .int .i64 0], .int .i64 0]) ∧ More w w' := by
  have h' := of_decide_eq_true h
  obtain ⟨rfl, a1, a2, a3, a4, a5, a6, a7, a8, rfl⟩ := h'
  by_cases hb : base < 0 ∨ d < base
  · have hl : lowBase base d = d := by simp only [lowBase, if_pos hb]
    have hw : copaWay win base d = 1 := by simp [copaWay, hl]
    have HL := Lib.hid hl
    have HW := Lib.hid hw
    clear hl hw
    by_cases hv : way = 1
    · subst hv
      go_enter Tryz.func99, Tryz.ntmps99
      go_wp2_with (go_at_call 98; refine (copa_right _ _ _ _ _ _ _).mono ?_; rintro e w' ⟨rfl, o, rfl⟩)
      all_goals go_quiet (fail)
      go_wp2
      all_goals
        refine bodyPost_ret (v := .tuple #[.agg #[.int .i64 2, .int .i64 (copaWin win base (1) spd d), .int .i64 (lowBase base d), .int .i64 (copaWay win base d), .int .i64 (copaSpd win base (1) spd d), .int .i64 0], .int .i64 0]) ?_ rfl ⟨rfl, (by repeat (first | (with_reducible exact More.refl _) | (with_reducible refine More.alloc ?_ _) | (with_reducible refine More.more ?_ _ _) | (with_reducible refine More.drewN ?_ _) | (with_reducible refine More.drew ?_)))⟩
        simp [results, Tryz.results99, go_sem]
        simp only [HL.out, HW.out, true_and, and_true]
        exact copa_close HW.out (by intro; omega) (by intro; omega) (by omega)
    · have hv2 : ((1 : Int) == way) = false := by simp; omega
      go_enter Tryz.func99, Tryz.ntmps99
      go_wp2_with (go_at_call 98; refine (copa_right _ _ _ _ _ _ _).mono ?_; rintro e w' ⟨rfl, o, rfl⟩)
      all_goals go_quiet (fail)
      go_wp2
      all_goals
        refine bodyPost_ret (v := .tuple #[.agg #[.int .i64 2, .int .i64 (copaWin win base way spd d), .int .i64 (lowBase base d), .int .i64 (copaWay win base d), .int .i64 (copaSpd win base way spd d), .int .i64 0], .int .i64 0]) ?_ rfl ⟨rfl, (by repeat (first | (with_reducible exact More.refl _) | (with_reducible refine More.alloc ?_ _) | (with_reducible refine More.more ?_ _ _) | (with_reducible refine More.drewN ?_ _) | (with_reducible refine More.drew ?_)))⟩
        simp [results, Tryz.results99, go_sem]
        simp only [HL.out, HW.out, true_and, and_true]
        exact copa_close HW.out (by intro; omega) (by intro; omega) (by omega)
  · have hb0 : 0 ≤ base := by omega
    have hb1 : base ≤ d := by omega
    have hl : lowBase base d = base := by simp only [lowBase, if_neg hb]
    have HL := Lib.hid hl
    by_cases hp : base < d
    · have hg : decide (base < d) = true := by simpa using hp
      have hg2 : (d - base == 0) = false := by simp; omega
      have hp' : 0 < d - base := by omega
      by_cases hc : 2 * (1 + d) / (d - base) < win
      · have hw : copaWay win base d = -1 := by simp only [copaWay, hl, hp', true_and, if_pos hc]
        have HW := Lib.hid hw
        clear hl hb hw
        by_cases hv : way = -1
        · subst hv
          go_enter Tryz.func99, Tryz.ntmps99
          go_wp2_with (go_at_call 98; refine (copa_right _ _ _ _ _ _ _).mono ?_; rintro e w' ⟨rfl, o, rfl⟩)
          all_goals go_quiet (fail)
          go_wp2
          all_goals
            refine bodyPost_ret (v := .tuple #[.agg #[.int .i64 2, .int .i64 (copaWin win base (-1) spd d), .int .i64 (lowBase base d), .int .i64 (copaWay win base d), .int .i64 (copaSpd win base (-1) spd d), .int .i64 0], .int .i64 0]) ?_ rfl ⟨rfl, (by repeat (first | (with_reducible exact More.refl _) | (with_reducible refine More.alloc ?_ _) | (with_reducible refine More.more ?_ _ _) | (with_reducible refine More.drewN ?_ _) | (with_reducible refine More.drew ?_)))⟩
            simp [results, Tryz.results99, go_sem]
            simp only [HL.out, HW.out, true_and, and_true]
            exact copa_close HW.out (by intro; omega) (by intro; omega) (by omega)
        · have hv2 : ((-1 : Int) == way) = false := by simp; omega
          go_enter Tryz.func99, Tryz.ntmps99
          go_wp2_with (go_at_call 98; refine (copa_right _ _ _ _ _ _ _).mono ?_; rintro e w' ⟨rfl, o, rfl⟩)
          all_goals go_quiet (fail)
          go_wp2
          all_goals
            refine bodyPost_ret (v := .tuple #[.agg #[.int .i64 2, .int .i64 (copaWin win base way spd d), .int .i64 (lowBase base d), .int .i64 (copaWay win base d), .int .i64 (copaSpd win base way spd d), .int .i64 0], .int .i64 0]) ?_ rfl ⟨rfl, (by repeat (first | (with_reducible exact More.refl _) | (with_reducible refine More.alloc ?_ _) | (with_reducible refine More.more ?_ _ _) | (with_reducible refine More.drewN ?_ _) | (with_reducible refine More.drew ?_)))⟩
            simp [results, Tryz.results99, go_sem]
            simp only [HL.out, HW.out, true_and, and_true]
            exact copa_close HW.out (by intro; omega) (by intro; omega) (by omega)
      · have hw : copaWay win base d = 1 := by simp only [copaWay, hl, hp', true_and, if_neg hc]
        have HW := Lib.hid hw
        clear hl hb hw
        by_cases hv : way = 1
        · subst hv
          go_enter Tryz.func99, Tryz.ntmps99
          go_wp2_with (go_at_call 98; refine (copa_right _ _ _ _ _ _ _).mono ?_; rintro e w' ⟨rfl, o, rfl⟩)
          all_goals go_quiet (fail)
          go_wp2
          all_goals
            refine bodyPost_ret (v := .tuple #[.agg #[.int .i64 2, .int .i64 (copaWin win base (1) spd d), .int .i64 (lowBase base d), .int .i64 (copaWay win base d), .int .i64 (copaSpd win base (1) spd d), .int .i64 0], .int .i64 0]) ?_ rfl ⟨rfl, (by repeat (first | (with_reducible exact More.refl _) | (with_reducible refine More.alloc ?_ _) | (with_reducible refine More.more ?_ _ _) | (with_reducible refine More.drewN ?_ _) | (with_reducible refine More.drew ?_)))⟩
            simp [results, Tryz.results99, go_sem]
            simp only [HL.out, HW.out, true_and, and_true]
            exact copa_close HW.out (by intro; omega) (by intro; omega) (by omega)
        · have hv2 : ((1 : Int) == way) = false := by simp; omega
          go_enter Tryz.func99, Tryz.ntmps99
          go_wp2_with (go_at_call 98; refine (copa_right _ _ _ _ _ _ _).mono ?_; rintro e w' ⟨rfl, o, rfl⟩)
          all_goals go_quiet (fail)
          go_wp2
          all_goals
            refine bodyPost_ret (v := .tuple #[.agg #[.int .i64 2, .int .i64 (copaWin win base way spd d), .int .i64 (lowBase base d), .int .i64 (copaWay win base d), .int .i64 (copaSpd win base way spd d), .int .i64 0], .int .i64 0]) ?_ rfl ⟨rfl, (by repeat (first | (with_reducible exact More.refl _) | (with_reducible refine More.alloc ?_ _) | (with_reducible refine More.more ?_ _ _) | (with_reducible refine More.drewN ?_ _) | (with_reducible refine More.drew ?_)))⟩
            simp [results, Tryz.results99, go_sem]
            simp only [HL.out, HW.out, true_and, and_true]
            exact copa_close HW.out (by intro; omega) (by intro; omega) (by omega)
    · have hw : copaWay win base d = 1 := by simp only [copaWay, hl, show ¬ 0 < d - base by omega, false_and, if_false]
      have HW := Lib.hid hw
      have hg : decide (base < d) = false := by simpa using hp
      clear hl hb hw
      by_cases hv : way = 1
      · subst hv
        go_enter Tryz.func99, Tryz.ntmps99
        go_wp2_with (go_at_call 98; refine (copa_right _ _ _ _ _ _ _).mono ?_; rintro e w' ⟨rfl, o, rfl⟩)
        all_goals go_quiet (fail)
        go_wp2
        all_goals
          refine bodyPost_ret (v := .tuple #[.agg #[.int .i64 2, .int .i64 (copaWin win base (1) spd d), .int .i64 (lowBase base d), .int .i64 (copaWay win base d), .int .i64 (copaSpd win base (1) spd d), .int .i64 0], .int .i64 0]) ?_ rfl ⟨rfl, (by repeat (first | (with_reducible exact More.refl _) | (with_reducible refine More.alloc ?_ _) | (with_reducible refine More.more ?_ _ _) | (with_reducible refine More.drewN ?_ _) | (with_reducible refine More.drew ?_)))⟩
          simp [results, Tryz.results99, go_sem]
          simp only [HL.out, HW.out, true_and, and_true]
          exact copa_close HW.out (by intro; omega) (by intro; omega) (by omega)
      · have hv2 : ((1 : Int) == way) = false := by simp; omega
        go_enter Tryz.func99, Tryz.ntmps99
        go_wp2_with (go_at_call 98; refine (copa_right _ _ _ _ _ _ _).mono ?_; rintro e w' ⟨rfl, o, rfl⟩)
        all_goals go_quiet (fail)
        go_wp2
        all_goals
          refine bodyPost_ret (v := .tuple #[.agg #[.int .i64 2, .int .i64 (copaWin win base way spd d), .int .i64 (lowBase base d), .int .i64 (copaWay win base d), .int .i64 (copaSpd win base way spd d), .int .i64 0], .int .i64 0]) ?_ rfl ⟨rfl, (by repeat (first | (with_reducible exact More.refl _) | (with_reducible refine More.alloc ?_ _) | (with_reducible refine More.more ?_ _ _) | (with_reducible refine More.drewN ?_ _) | (with_reducible refine More.drew ?_)))⟩
          simp [results, Tryz.results99, go_sem]
          simp only [HL.out, HW.out, true_and, and_true]
          exact copa_close HW.out (by intro; omega) (by intro; omega) (by omega)

set_option maxHeartbeats 400000 in
theorem copa_next_form (k win base way spd part d : Int) (w : World) (h : copaRight k win base way spd part = false) :
    Calls Tryz.prog 99 #[.agg #[.int .i64 k, .int .i64 win, .int .i64 base, .int .i64 way, .int .i64 spd, .int .i64 part], .int .i64 d] w fun e w' =>
      e = .returned (.tuple #[.agg #[.int .i64 0, .int .i64 0, .int .i64 0, .int .i64 0, .int .i64 0, .int .i64 0], .int .i64 1]) ∧ More w w' := by
  go_enter Tryz.func99, Tryz.ntmps99
  go_wp2_with (go_at_call 98; refine (copa_right _ _ _ _ _ _ _).mono ?_; rintro e w' ⟨rfl, o, rfl⟩)
  refine bodyPost_ret (v := .tuple #[.agg #[.int .i64 0, .int .i64 0, .int .i64 0, .int .i64 0, .int .i64 0, .int .i64 0], .int .i64 1]) (by simp [results, Tryz.results99, go_sem]) rfl ⟨rfl, (by repeat (first | (with_reducible exact More.refl _) | (with_reducible refine More.alloc ?_ _) | (with_reducible refine More.more ?_ _ _) | (with_reducible refine More.drewN ?_ _) | (with_reducible refine More.drew ?_)))⟩

set_option maxHeartbeats 400000 in
theorem copa_next_range (k win base way spd part d : Int) (w : World) (h : copaRight k win base way spd part = true) (h0 : d < 0 ∨ 1099511627776 < d) :
    Calls Tryz.prog 99 #[.agg #[.int .i64 k, .int .i64 win, .int .i64 base, .int .i64 way, .int .i64 spd, .int .i64 part], .int .i64 d] w fun e w' =>
      e = .returned (.tuple #[.agg #[.int .i64 0, .int .i64 0, .int .i64 0, .int .i64 0, .int .i64 0, .int .i64 0], .int .i64 2]) ∧ More w w' := by
  go_enter Tryz.func99, Tryz.ntmps99
  go_wp2_with (go_at_call 98; refine (copa_right _ _ _ _ _ _ _).mono ?_; rintro e w' ⟨rfl, o, rfl⟩)
  all_goals
    refine bodyPost_ret (v := .tuple #[.agg #[.int .i64 0, .int .i64 0, .int .i64 0, .int .i64 0, .int .i64 0, .int .i64 0], .int .i64 2]) (by simp [results, Tryz.results99, go_sem]) rfl ⟨rfl, (by repeat (first | (with_reducible exact More.refl _) | (with_reducible refine More.alloc ?_ _) | (with_reducible refine More.more ?_ _ _) | (with_reducible refine More.drewN ?_ _) | (with_reducible refine More.drew ?_)))⟩

set_option maxHeartbeats 400000 in
theorem copa_new (n : Int) (w : World) :
    Calls Tryz.prog 97 #[.int .i64 n] w fun e w' =>
      e = .returned (.agg #[.int .i64 2, .int .i64 (min (max n 1) 12), .int .i64 (-1), .int .i64 0, .int .i64 0, .int .i64 0]) ∧ ∃ a, w' = w.alloc a := by
  go_enter Tryz.func97, Tryz.ntmps97
  go_wp2
  all_goals
    refine bodyPost_ret (v := .agg #[.int .i64 2, .int .i64 (min (max n 1) 12), .int .i64 (-1), .int .i64 0, .int .i64 0, .int .i64 0]) ?_ rfl ⟨rfl, _, rfl⟩
    simp [results, Tryz.results97, go_sem]
    try omega

/-- What Next answers: the six numbers behind it, and the errno. -/
def CopaNext (k win base way spd part d k' win' base' way' spd' part' er : Int) : Prop :=
  (copaRight k win base way spd part = false ∧ er = 1 ∧ k' = 0 ∧ win' = 0 ∧ base' = 0 ∧ way' = 0 ∧ spd' = 0 ∧ part' = 0) ∨
  (copaRight k win base way spd part = true ∧ (d < 0 ∨ 1099511627776 < d) ∧ er = 2 ∧ k' = 0 ∧ win' = 0 ∧ base' = 0 ∧ way' = 0 ∧ spd' = 0 ∧ part' = 0) ∨
  (copaRight k win base way spd part = true ∧ 0 ≤ d ∧ d ≤ 1099511627776 ∧ er = 0 ∧ k' = 2 ∧ win' = copaWin win base way spd d ∧ base' = lowBase base d ∧ way' = copaWay win base d ∧ spd' = copaSpd win base way spd d ∧ part' = 0)

theorem copa_next (k win base way spd part d : Int) (w : World) :
    Calls Tryz.prog 99 #[.agg #[.int .i64 k, .int .i64 win, .int .i64 base, .int .i64 way, .int .i64 spd, .int .i64 part], .int .i64 d] w fun e w' =>
      ∃ k' win' base' way' spd' part' er, CopaNext k win base way spd part d k' win' base' way' spd' part' er ∧
        e = .returned (.tuple #[.agg #[.int .i64 k', .int .i64 win', .int .i64 base', .int .i64 way', .int .i64 spd', .int .i64 part'], .int .i64 er]) ∧ More w w' := by
  by_cases hr : copaRight k win base way spd part = true
  · by_cases hd : 0 ≤ d ∧ d ≤ 1099511627776
    · exact (copa_next_ok k win base way spd part d w hr hd.1 hd.2).mono fun e w' ⟨he, hw⟩ => ⟨_, _, _, _, _, _, _, .inr (.inr ⟨hr, hd.1, hd.2, rfl, rfl, rfl, rfl, rfl, rfl, rfl⟩), he, hw⟩
    · exact (copa_next_range k win base way spd part d w hr (by omega)).mono fun e w' ⟨he, hw⟩ => ⟨_, _, _, _, _, _, _, .inr (.inl ⟨hr, by omega, rfl, rfl, rfl, rfl, rfl, rfl, rfl⟩), he, hw⟩
  · exact (copa_next_form k win base way spd part d w (by simpa using hr)).mono fun e w' ⟨he, hw⟩ => ⟨_, _, _, _, _, _, _, .inl ⟨by simpa using hr, rfl, rfl, rfl, rfl, rfl, rfl, rfl⟩, he, hw⟩

end Go.Proofs.YtgmljgcmfooniaaGreatDoor
