/- What potential.Wrong answers, for every input. Conditions: lengths within the form's reach. -/
import Derived.Test.YtnbjcohkkaijaaaPotLaw
set_option linter.unusedVariables false
set_option linter.unusedSimpArgs false
namespace Go.Proofs.Ytnbjcohkkaijaaa
open Go.RowKit Go.Tide
set_option linter.unusedVariables false
set_option linter.unusedSimpArgs false

theorem more_nil (w : World) : w = w.more #[] w.drawn := by simp [World.more]
set_option maxRecDepth 20000 in
set_option maxHeartbeats 2000000 in
theorem pwrong_any (N : Int) (a : Option Addr) (n c : Nat) (f : Nat → Nat → Int) (w : World) (hf : RowC w 3 a n f) (hn : n ≤ 1152921504606846976) :
    Calls Try.prog 8 #[.agg #[.int .i64 N, .slice a n c]] w fun e w' => e = .returned (.int .i64 (gWrong N n f)) ∧ More w w' := by
  by_cases c0 : N < 0
  · have d0 : decide (N < 0) = true := by simpa using c0
    go_enter Try.func8, Try.ntmps8
    go_wp2
    go_ret
    exact ⟨ret_int (gWrong_bad fun h => by have := h.1; have := h.2.1; have := h.2.2.1; omega).symm, (by repeat (first | (with_reducible assumption) | (with_reducible exact More.refl _) | (with_reducible refine More.alloc ?_ _) | (with_reducible refine More.more ?_ _ _) | (with_reducible refine More.drewN ?_ _) | (with_reducible refine More.drew ?_)))⟩
  · have d0 : decide (N < 0) = false := by simpa using c0
    by_cases c1 : 300 < N
    · have d1 : decide (300 < N) = true := by simpa using c1
      go_enter Try.func8, Try.ntmps8
      go_wp2
      go_ret
      exact ⟨ret_int (gWrong_bad fun h => by have := h.1; have := h.2.1; have := h.2.2.1; omega).symm, (by repeat (first | (with_reducible assumption) | (with_reducible exact More.refl _) | (with_reducible refine More.alloc ?_ _) | (with_reducible refine More.more ?_ _ _) | (with_reducible refine More.drewN ?_ _) | (with_reducible refine More.drew ?_)))⟩
    · have d1 : decide (300 < N) = false := by simpa using c1
      by_cases c2 : 4800 < n
      · have d2 : decide ((4800 : Int) < (n : Int)) = true := by simp; omega
        have d2' : decide (4800 < n) = true := by simp; omega
        go_enter Try.func8, Try.ntmps8
        go_wp2
        go_ret
        exact ⟨ret_int (gWrong_bad fun h => by have := h.1; have := h.2.1; have := h.2.2.1; omega).symm, (by repeat (first | (with_reducible assumption) | (with_reducible exact More.refl _) | (with_reducible refine More.alloc ?_ _) | (with_reducible refine More.more ?_ _ _) | (with_reducible refine More.drewN ?_ _) | (with_reducible refine More.drew ?_)))⟩
      · have d2 : decide ((4800 : Int) < (n : Int)) = false := by simp; omega
        have d2' : decide (4800 < n) = false := by simp; omega
        have hbk := Blk.new w 24 #[.int .i64 N, .slice a n c]
        go_enter Try.func8, Try.ntmps8
        go_wp2
        go_loopw [22] (fun i wr => ∃ k : Nat, i = .int .i64 k ∧ k ≤ n ∧ More (w.alloc (.cells #[.int .i64 N, .slice a n c] 24)) wr ∧ Hid (∀ j, j < k → 0 ≤ f j 0 ∧ f j 0 < N ∧ 0 ≤ f j 1 ∧ f j 1 < N ∧ -1048576 ≤ f j 2 ∧ f j 2 ≤ 1048576)) (fun i _ => n - (intOf i).toNat)
        case atStart => exact ⟨0, rfl, Nat.zero_le _, More.refl _, fun j hj => absurd hj (by omega)⟩
        case round =>
          obtain ⟨k, rfl, hk, ⟨os, d, rfl⟩, hall⟩ := hrel
          by_cases hlt : k < n
          · have hfm : RowC ((w.alloc (.cells #[.int .i64 N, .slice a n c] 24)).more os d) 3 a n f := (by repeat (first | (with_reducible assumption) | (with_reducible exact RowC.nil) | (with_reducible apply RowC.drewN) | (with_reducible apply RowC.drew) | (with_reducible apply RowC.more) | (with_reducible apply RowC.alloc)))
            obtain ⟨b, off, x, y, z, rfl, hb, hcx, hcy, hcz, hx, hy, hz⟩ := hfm.at3 hlt
            have hg0 := (hbk.more os d).cell 0
            have hgl := (hbk.more os d).lt
            simp at hg0
            have q1 : (k : Int) < (n : Int) := by omega
            by_cases e0 : x < 0
            · have g0 : decide (x < 0) = true := by simpa using e0
              have HB : Hid (¬ GRight N n f) := fun h => by
                have h1 := h.2.2.2 k hlt
                rw [← hx.out, ← hy.out, ← hz.out] at h1
                omega
              go_wp2_with fail
              go_ret
              exact ⟨ret_int (gWrong_bad HB.out).symm, (by repeat (first | (with_reducible assumption) | (with_reducible exact More.refl _) | (with_reducible refine More.alloc ?_ _) | (with_reducible refine More.more ?_ _ _) | (with_reducible refine More.drewN ?_ _) | (with_reducible refine More.drew ?_)))⟩
            · have g0 : decide (x < 0) = false := by simpa using e0
              by_cases e1 : N ≤ x
              · have g1 : decide (N ≤ x) = true := by simpa using e1
                have HB : Hid (¬ GRight N n f) := fun h => by
                  have h1 := h.2.2.2 k hlt
                  rw [← hx.out, ← hy.out, ← hz.out] at h1
                  omega
                go_wp2_with fail
                go_ret
                exact ⟨ret_int (gWrong_bad HB.out).symm, (by repeat (first | (with_reducible assumption) | (with_reducible exact More.refl _) | (with_reducible refine More.alloc ?_ _) | (with_reducible refine More.more ?_ _ _) | (with_reducible refine More.drewN ?_ _) | (with_reducible refine More.drew ?_)))⟩
              · have g1 : decide (N ≤ x) = false := by simpa using e1
                by_cases e2 : y < 0
                · have g2 : decide (y < 0) = true := by simpa using e2
                  have HB : Hid (¬ GRight N n f) := fun h => by
                    have h1 := h.2.2.2 k hlt
                    rw [← hx.out, ← hy.out, ← hz.out] at h1
                    omega
                  go_wp2_with fail
                  go_ret
                  exact ⟨ret_int (gWrong_bad HB.out).symm, (by repeat (first | (with_reducible assumption) | (with_reducible exact More.refl _) | (with_reducible refine More.alloc ?_ _) | (with_reducible refine More.more ?_ _ _) | (with_reducible refine More.drewN ?_ _) | (with_reducible refine More.drew ?_)))⟩
                · have g2 : decide (y < 0) = false := by simpa using e2
                  by_cases e3 : N ≤ y
                  · have g3 : decide (N ≤ y) = true := by simpa using e3
                    have HB : Hid (¬ GRight N n f) := fun h => by
                      have h1 := h.2.2.2 k hlt
                      rw [← hx.out, ← hy.out, ← hz.out] at h1
                      omega
                    go_wp2_with fail
                    go_ret
                    exact ⟨ret_int (gWrong_bad HB.out).symm, (by repeat (first | (with_reducible assumption) | (with_reducible exact More.refl _) | (with_reducible refine More.alloc ?_ _) | (with_reducible refine More.more ?_ _ _) | (with_reducible refine More.drewN ?_ _) | (with_reducible refine More.drew ?_)))⟩
                  · have g3 : decide (N ≤ y) = false := by simpa using e3
                    by_cases e4 : z < -1048576
                    · have g4 : decide (z < -1048576) = true := by simpa using e4
                      have HB : Hid (¬ GRight N n f) := fun h => by
                        have h1 := h.2.2.2 k hlt
                        rw [← hx.out, ← hy.out, ← hz.out] at h1
                        omega
                      go_wp2_with fail
                      go_ret
                      exact ⟨ret_int (gWrong_bad HB.out).symm, (by repeat (first | (with_reducible assumption) | (with_reducible exact More.refl _) | (with_reducible refine More.alloc ?_ _) | (with_reducible refine More.more ?_ _ _) | (with_reducible refine More.drewN ?_ _) | (with_reducible refine More.drew ?_)))⟩
                    · have g4 : decide (z < -1048576) = false := by simpa using e4
                      by_cases e5 : 1048576 < z
                      · have g5 : decide (1048576 < z) = true := by simpa using e5
                        have HB : Hid (¬ GRight N n f) := fun h => by
                          have h1 := h.2.2.2 k hlt
                          rw [← hx.out, ← hy.out, ← hz.out] at h1
                          omega
                        go_wp2_with fail
                        go_ret
                        exact ⟨ret_int (gWrong_bad HB.out).symm, (by repeat (first | (with_reducible assumption) | (with_reducible exact More.refl _) | (with_reducible refine More.alloc ?_ _) | (with_reducible refine More.more ?_ _ _) | (with_reducible refine More.drewN ?_ _) | (with_reducible refine More.drew ?_)))⟩
                      · have g5 : decide (1048576 < z) = false := by simpa using e5
                        have hnew : Hid (∀ j, j < k + 1 → 0 ≤ f j 0 ∧ f j 0 < N ∧ 0 ≤ f j 1 ∧ f j 1 < N ∧ -1048576 ≤ f j 2 ∧ f j 2 ≤ 1048576) := fun j hj => by
                          rcases Nat.lt_succ_iff_lt_or_eq.1 hj with h | rfl
                          · exact hall.out j h
                          · rw [← hx.out, ← hy.out, ← hz.out]
                            omega
                        go_wp2_with fail
                        go_roundw
                        case rel => exact ⟨k + 1, by go_num, by omega, (by repeat (first | (with_reducible assumption) | (with_reducible exact More.refl _) | (with_reducible refine More.alloc ?_ _) | (with_reducible refine More.more ?_ _ _) | (with_reducible refine More.drewN ?_ _) | (with_reducible refine More.drew ?_))), hnew⟩
                        case measure => simp [intOf]; omega
          · obtain rfl : k = n := by omega
            have HG : Hid (gWrong N k f = 0) := gWrong_ok ⟨by omega, by omega, by omega, hall.out⟩
            go_wp2
            go_ret
            exact ⟨ret_int HG.out.symm, (by repeat (first | (with_reducible assumption) | (with_reducible exact More.refl _) | (with_reducible refine More.alloc ?_ _) | (with_reducible refine More.more ?_ _ _) | (with_reducible refine More.drewN ?_ _) | (with_reducible refine More.drew ?_)))⟩
end Go.Proofs.Ytnbjcohkkaijaaa
